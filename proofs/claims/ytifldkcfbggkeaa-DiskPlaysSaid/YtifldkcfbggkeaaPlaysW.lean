/- The walk of DiskPlays. Conditions: none. -/
import Derived.Test.YtifldkcfbggkeaaRWrite
import Derived.Test.YtifldkcfbggkeaaCopiesW
import Derived.Deep.RegionHeld3
import Derived.Deep.QuietTactic
import Derived.BigQuiet
namespace Go.Proofs.Ytifldkcfbggkeaa
open Go.RowKit

theorem RDiskAt.other_d {w w' : World} {b a rb ra : Nat} {d d' : Dk} (h : RDiskAt w rb ra d) (h' : DiskAt w b a d') (hk : Kept (DS b a) w w') : RDiskAt w' rb ra d := by
  have nb : ¬ DS b a rb := by
    obtain ⟨c, arr, how, hb1, _, ha1, _⟩ := h
    obtain ⟨c', arr', hb2, ha2, _⟩ := h'
    rintro (e | e)
    · subst e; exact hb1.ne_ hb2 (by decide) rfl
    · subst e; exact hb1.ne_ ha2 (by decide) rfl
  have na : ¬ DS b a ra := by
    obtain ⟨c, arr, how, hb1, _, ha1, _⟩ := h
    obtain ⟨c', arr', hb2, ha2, _⟩ := h'
    rintro (e | e)
    · subst e; exact ha1.ne_ hb2 (by decide) rfl
    · subst e; exact ha1.ne_ ha2 (by decide) rfl
  exact h.keep (hk.block rb h.ltb nb) (hk.block ra h.lta na)

theorem DiskAt.other_r {w w' : World} {b a rb ra : Nat} {d d' : Dk} (h : DiskAt w b a d) (h' : RDiskAt w rb ra d') (hk : Kept (DS rb ra) w w') : DiskAt w' b a d := by
  obtain ⟨c', arr', how, hb2, _, ha2, _⟩ := h'
  have no : ∀ g t cs, Blk w g t cs → t ≠ 39 → t ≠ 9 → ¬ DS rb ra g := by
    rintro g t cs hg h1 h2 (e | e)
    · subst e; exact hg.ne_ hb2 h1 rfl
    · subst e; exact hg.ne_ ha2 h2 rfl
  have hbl := h.ltb
  have hal := h.lta
  obtain ⟨c, arr, hb1, ha1, r⟩ := h
  exact DiskAt.keep ⟨c, arr, hb1, ha1, r⟩ (hk.block b hbl (no b _ _ hb1 (by decide) (by decide))) (hk.block a hal (no a _ _ ha1 (by decide) (by decide)))
    (fun g cs hg => hk.blk hg (no g _ _ hg (by decide) (by decide)))

theorem DiskAt.drewN {w : World} {b a : Nat} {d : Dk} (h : DiskAt w b a d) (n : Nat) : DiskAt (w.drewN n) b a d := h.keep rfl rfl (fun _ _ h => h)
theorem RDiskAt.drewN {w : World} {b a : Nat} {d : Dk} (h : RDiskAt w b a d) (n : Nat) : RDiskAt (w.drewN n) b a d := h.keep rfl rfl
theorem below_drewN {B : Nat} {a w : World} (h : Below B a w) (n : Nat) : Below B a (w.drewN n) := ⟨h.os, h.tape, h.output, h.size, h.block⟩
theorem quiet_left {P : Program} {f : FuncId} {args : Array Value} {w : World} {n : Nat} {v : Value}
    (h : Calls P f args (w.drewN n) fun e w' => e = .returned v ∧ w.drewN n = w') : Calls P f args (w.drewN n) fun e w'' => e = .returned v ∧ ∃ m, w'' = w.drewN m :=
  h.mono fun _ _ ⟨he, hm⟩ => ⟨he, n, hm.symm⟩

/-- A constant's bytes, as a slice. -/
theorem bts_marked (W : World) (l : List UInt8) (n : Nat) (hn : l.length = n) (hm : n ≤ maxLen) (mk : Nat × Nat) :
    Bts (W.alloc (.cells (l.map u8).toArray 5 mk)) (some ⟨W.heap.size, 0, none⟩) n n l := by
  refine ⟨by simp, ⟨by simp [hn], fun _ => ⟨_, rfl, by simp, fun j u hu => ?_⟩⟩, Nat.le_refl _, hm, hn⟩
  rw [add_zero_off, World.cell?_alloc_mark]
  simpa using hu

section
variable {len cap n : Nat} {A : Option Addr} {w : World}

set_option maxHeartbeats 4000000 in
set_option maxRecDepth 100000 in
theorem plays_main (L : List Ac) (hL : ActsAt w w.heap.size A len L) (h1 : 1 ≤ n) (h64 : n ≤ 64) (hlen : len ≤ 100) (hlc : len ≤ cap) (hcap : cap ≤ maxLen) :
    Calls Try.prog 4 #[.int .i64 (n : Int), .slice A len cap] w fun e w' => e = .returned (.bool true) ∧ Below w.heap.size w w' := by
  obtain ⟨i0, hi0, hz0, hz1, hz2⟩ := info_parts info_u8
  have HL := Lib.hid hL
  have hLl := Lib.hid hL.1
  clear hL
  unfold maxLen at hcap
  go_enter Try.func4, Try.ntmps4
  go_wp2_with fail
  refine (awake4 w).mono ?_
  rintro e w1 ⟨rfl, hB1⟩
  go_wp2_with fail
  refine (new_ok n w1 (by omega) (by omega)).mono ?_
  rintro e w2 ⟨b, a, rfl, hd2, hb, ha, hbel2⟩
  have hB2 : Below w.heap.size w w2 := hB1.trans (hbel2.mono hB1.size)
  have hsz := hB1.size
  rw [Int.toNat_natCast] at hd2
  clear hB1 hbel2
  go_wp2_with fail
  refine (newdisk_any n (by omega) (by omega) w2).mono ?_
  rintro e w3 ⟨rb, ra, rfl, hr3, hrb, hra, hbel3⟩
  have hB3 : Below w.heap.size w w3 := hB2.trans (hbel3.mono hB2.size)
  have hd3 := hd2.below hbel3
  have hsz2 := hB2.size
  have hlen0 : (Dk.new n).S.length = n := by simp [Dk.new]
  generalize Dk.new n = d0 at hd3 hr3 hlen0
  have HLEN := Lib.hid hlen0
  clear hB2 hbel3 hd2 hlen0
  go_wp2_with fail
  go_loopg [5, 8] len (fun k dv i wr => ∃ (j : Nat) (b a : Nat) (d : Dk), j + k = len ∧ i = .int .i64 (j : Int) ∧ dv = .pointer (some ⟨b, 0, none⟩) ∧
    DiskAt wr b a d ∧ RDiskAt wr rb ra d ∧ Hid (d.S.length = n) ∧ w.heap.size ≤ b ∧ w.heap.size ≤ a ∧ Below w.heap.size w wr)
  case atStart => exact ⟨0, b, a, d0, by omega, rfl, rfl, hd3, hr3, HLEN, by omega, by omega, hB3⟩
  case round =>
    clear hd3 hr3 hB3 hb ha hsz HLEN
    obtain ⟨j, b, a, d, hj, rfl, rfl, hd, hr, HLEN, hb, ha, hB⟩ := hrel
    by_cases hlt : j < len
    · have hjL : j < L.length := by have := hLl.out; omega
      obtain ⟨hf, bb, oo, rfl, hadB, h0, h1, h2, h3, A', m, c, h4, hB5⟩ := (HL.out.below hB).2 j L[j] (List.getElem?_eq_getElem hjL)
      generalize L[j] = x at *
      have hmc := hB5.2.2.1
      have hcm := hB5.2.2.2.1
      unfold maxLen at hcm
      have HJ := Lib.hid hj
      have HB5 := Lib.hid hB5
      clear hj hB5
      have hBw' : w.heap.size ≤ wr.heap.size := hB.size
      by_cases e0 : x.op = 0
      · have g0 : (x.op == 0) = true := beq_iff_eq.2 e0
        have HE0 := Lib.hid e0
        clear e0
        by_cases hm : 200 < m
        · go_wp2_with fail
          go_ret
          exact ⟨rfl, hB.alloc hBw' _⟩
        · have HC : Hid (∀ w', Below w.heap.size wr w' → (convert 27 9 (.slice A' m c)).run Try.prog w' = .ok (.string ⟨x.B.toArray⟩) w') := fun w' hb =>
            run_string_of w' 27 9 5 Try.underlying27 Try.underlying5 Try.underlying9 (c := c) (HB5.out.2.1.below hb)
          obtain ⟨KS, hKS⟩ : ∃ KS : Nat → Prop, KS = fun k => DS b a k ∨ DS rb ra k := ⟨_, rfl⟩
          have hks : ∀ k, KS k → w.heap.size ≤ k ∧ k < wr.heap.size := by
            have q1 := hd.ltb
            have q2 := hd.lta
            have q3 := hr.ltb
            have q4 := hr.lta
            rintro k hk
            rw [hKS] at hk
            rcases hk with (e | e) | (e | e) <;> subst e <;> omega
          obtain ⟨W0, hW0⟩ : ∃ W0, W0 = wr.alloc (.cells #[.int .i64 x.op, .int .i64 x.sector, .int .i64 x.n, .int .i64 x.how, .slice A' m c] 35) := ⟨_, rfl⟩
          have hz0s : W0.heap.size = wr.heap.size + 1 := by rw [hW0]; simp
          have SF : Hid (∀ w', Kept KS W0 w' → w'.cell? ⟨wr.heap.size, 1, none⟩ = some (.int .i64 x.sector) ∧ w'.cell? ⟨wr.heap.size, 4, none⟩ = some (.slice A' m c) ∧
              (convert 27 9 (.slice A' m c)).run Try.prog w' = .ok (.string ⟨x.B.toArray⟩) w') := by
            intro w' hk
            have hb1 := hk.blk (by rw [hW0]; exact Blk.new wr _ _) (fun h => by have := (hks _ h).2; omega)
            refine ⟨(hb1.cell 1).trans rfl, (hb1.cell 4).trans rfl, HC.out w' ?_⟩
            have hbw : Below w.heap.size W0 w' := hk.below (by omega) (fun i hi => (hks i hi).1)
            exact (show Below w.heap.size wr W0 by rw [hW0]; exact (Below.refl _ _).alloc hBw' _).trans hbw
          have KB : Hid (∀ w', Kept KS W0 w' → Below w.heap.size wr w') := by
            intro w' hk
            have hbw : Below w.heap.size W0 w' := hk.below (by omega) (fun i hi => (hks i hi).1)
            exact (show Below w.heap.size wr W0 by rw [hW0]; exact (Below.refl _ _).alloc hBw' _).trans hbw
          have RD : Hid (∀ w', Kept KS W0 w' → Reads w' w.heap.size 1 A' m (x.B.map u8)) := fun w' hk => HB5.out.2.1.below (KB.out w' hk)
          have HKS := Lib.hid hKS
          have HW0 := Lib.hid hW0
          have HKs := Lib.hid hks
          have HZ0 := Lib.hid hz0s
          have HHD := Lib.hid hd
          have HHR := Lib.hid hr
          clear hKS hks hW0 hz0s hd hr
          go_wp2_with fail
          rw [← HW0.out]
          go_region_held3 (fun w' => w'.cell? ⟨wr.heap.size, 1, none⟩ = some (.int .i64 x.sector) ∧ w'.cell? ⟨wr.heap.size, 4, none⟩ = some (.slice A' m c) ∧
              (convert 27 9 (.slice A' m c)).run Try.prog w' = .ok (.string ⟨x.B.toArray⟩) w')
            (first
              | exact SF.out _ Kept.refl.drew
              | exact SF.out _ ((Kept.refl.alloc _).drew)
              | exact SF.out _ hK1
              | exact SF.out _ hK2
              | exact SF.out _ hK3)
            (first
              | (go_simp; go_at_call 16; go_must (refine (write_any d x.sector x.B hd1 hbt1).mono ?_); rintro e w2 ⟨rfl, hd2, hk2⟩
                 have hr2 := hr1.other_d hd1 hk2
                 have hK2 : Kept KS W0 w2 := hK1.trans hk2 (fun i _ hi => by rw [HKS.out]; exact .inl hi))
              | (go_simp; go_at_call 18; go_must (refine (rwrite_any d x.sector x.B hr2 (by rw [HB5.out.2.2.2.2]; omega)).mono ?_); rintro e w3 ⟨rfl, hr3, hk3⟩
                 have hd3 := hd2.other_r hr2 hk3
                 have hK3 : Kept KS W0 w3 := hK2.trans hk3 (fun i _ hi => by rw [HKS.out]; exact .inr hi))
              | (go_must (refine step_append_any ((W0.alloc (.cells #[] 5)).drew) rfl (.tmp 76) (.tmp 78) _ rfl W0.heap.size 5 i0 _ 1 1 Try.underlying27 hi0 hz0 hz1 hz2 rfl (by omega) (.slice (some ⟨W0.heap.size, 0, none⟩) 0 0) 0 [] rfl (World.ownsRow.drew (World.ownsRow_lit W0 #[] 0 (Nat.le_refl _) (by unfold maxLen; omega) rfl)) w.heap.size A' m c (x.B.map u8) rfl (RD.out _ ((Kept.refl.alloc _).drew)) (u8_one _) (by simp only [maxLen]; omega) (by omega) (by simp) ?_); intro v1 w1 hown1 hg1 hat1
                 have hown1' : w1.ownsRow W0.heap.size 5 1 v1 m (x.B.map u8) := by simpa using hown1
                 have hK1 : Kept KS W0 w1 := ((Kept.refl.alloc _).drew).grown hg1 (fun k hk => .inr (by simp [Value.ownBlock] at hk; omega))
                 have hb1 : Below wr.heap.size wr w1 := (show Below wr.heap.size wr W0 by rw [HW0.out]; exact (Below.refl _ _).alloc (Nat.le_refl _) _).trans (((((Below.refl W0.heap.size W0).alloc (Nat.le_refl _) _).drew.grown hg1 (by simp) (fun k hk => by simp [Value.ownBlock] at hk; omega))).mono (by rw [HZ0.out]; omega))
                 have hd1 := HHD.out.below hb1
                 have hr1 := HHR.out.below hb1
                 obtain ⟨g1, c1, rfl⟩ : ∃ g1 c1, v1 = .slice (some ⟨g1, 0, none⟩) m c1 := by
                   rcases hat1 with e | e
                   · obtain ⟨c', hv, _⟩ := own_form hown1' (k := W0.heap.size) (by rw [e]; rfl)
                     exact ⟨_, c', hv⟩
                   · obtain ⟨c', hv, _⟩ := own_form hown1' e
                     exact ⟨_, c', hv⟩
                 have hbt1 := own_bts hown1'
                 clear hown1 hg1 hat1 hown1'))
          have hB3 : Below w.heap.size w w3 := hB.trans (KB.out _ hK3)
          clear hd1 hr1 hK1 hb1 hbt1 hd2 hk2 hr2 hK2 hk3 hK3
          obtain ⟨d', hde⟩ : ∃ d', d' = (d.write x.sector x.B).1 := ⟨_, rfl⟩
          rw [← hde] at hd3 hr3
          have HLEN' : Hid (d'.S.length = n) := by rw [hde]; rw [write_len]; exact HLEN.out
          clear hde
          obtain ⟨c9, arr9, how9, hb9, -⟩ := id hr3
          obtain ⟨-, r1, -, -, r4, r5⟩ := rdisk_cells hb9
          clear hb9
          have CP := Lib.hid (fun m => power_any d' (hd3.drewN m))
          have CW := Lib.hid (fun m => writes_any d' (hd3.drewN m))
          have CL := Lib.hid (fun m => lives_any d' (hd3.drewN m))
          have HD9 := Lib.hid hd3
          have HR9 := Lib.hid hr3
          have hoff9 : ((!d'.off) == d'.off) = false := by cases d'.off <;> rfl
          clear hd3 hr3
          go_wp2_with fail
          go_quiet (first
            | (go_at_call 24; exact quiet_left (CP.out _))
            | (go_at_call 25; exact quiet_left (CW.out _))
            | (go_at_call 26; exact quiet_left (CL.out _)))
          go_wp2
          go_roundg (len - (j + 1))
          case measure => have := HJ.out; omega
          case rel => exact ⟨j + 1, b, a, d', by have := HJ.out; omega, by go_num, rfl, HD9.out.drewN _, HR9.out.drewN _, HLEN', hb, ha, below_drewN hB3 _⟩
      by_cases e1 : x.op = 1
      · have g0 : (x.op == 0) = false := by rw [beq_eq_false_iff_ne]; omega
        have g1 : (x.op == 1) = true := beq_iff_eq.2 e1
        clear e0 e1
        have W0s := (Blk.new wr 35 #[.int .i64 x.op, .int .i64 x.sector, .int .i64 x.n, .int .i64 x.how, .slice A' m c])
        have hA0 : Below wr.heap.size wr (wr.alloc (.cells #[.int .i64 x.op, .int .i64 x.sector, .int .i64 x.n, .int .i64 x.how, .slice A' m c] 35)) := (Below.refl _ _).alloc (Nat.le_refl _) _
        have q1 := hd.ltb
        have q2 := hd.lta
        have q3 := hr.ltb
        have q4 := hr.lta
        have hdA := hd.below hA0
        have hrA := hr.below hA0
        have W0S := Lib.hid W0s
        have HA0 := Lib.hid hA0
        clear W0s hA0 hd hr
        have HF := Lib.hid hf
        have hln := HLEN.out
        rcases may_cases d x.sector 0 with em | em | em
        · obtain ⟨es0, es1, _, eoff⟩ := may_zero em
          rw [hln] at es1
          obtain ⟨k, hk⟩ := Int.eq_ofNat_of_zero_le es0
          have hkl : k < d.S.length := by omega
          have hs := List.getElem?_eq_getElem hkl
          generalize d.S[k] = S at hs
          obtain ⟨c8, arr8, how8, hb8, _, ha8, _, hl8, hc8, _, _, _, _, hsec8⟩ := id hrA
          have ck := (ha8.cell k).trans (hsec8 k S hs)
          obtain ⟨r0, r1, -, -, -, -⟩ := rdisk_cells hb8
          rw [eoff] at r1
          unfold maxLen at hc8
          have HCR := Lib.hid (read_ok d k S hdA hs eoff)
          rw [← hk] at HCR
          have HK := Lib.hid hk
          have htn : x.sector.toNat = k := by omega
          have hlr := HLEN.out
          rw [hlr] at r0
          unfold str at ck
          rw [← htn] at ck
          clear em eoff hb8 hln ha8 hsec8 hs hk htn hlr
          go_wp2_with fail
          refine HCR.out.mono ?_
          rintro e w2 ⟨g, cg, rfl, hown, hbel⟩
          have cv := fun q => run_string_of (w2.drewN q) 27 9 5 Try.underlying27 Try.underlying5 Try.underlying9 (c := cg) ((Reads.of_own hown).drewN q)
          have r0' := (hbel.cell (p := ⟨rb, 0, none⟩) (by simp; omega)).trans r0
          have r1' := (hbel.cell (p := ⟨rb, 1, none⟩) (by simp; omega)).trans r1
          have ck' := (hbel.cell (p := ⟨ra, x.sector.toNat, none⟩) (by simp; omega)).trans ck
          have s1' := (hbel.cell (p := ⟨wr.heap.size, 1, none⟩) (by simp)).trans ((W0S.out.cell 1).trans rfl)
          have hd2 := hdA.below hbel
          have hr2 := hrA.below hbel
          have hB2 : Below w.heap.size w w2 := (hB.trans (HA0.out.mono hBw')).trans (hbel.mono (by simp; omega))
          clear hown hbel hdA hrA
          go_wp2_with fail
          go_quiet (fail)
          have hd3 := hd2.drewN nq
          have hr3 := hr2.drewN nq
          have hB3 := below_drewN hB2 nq
          clear hd2 hr2 hB2 cv r0' r1' ck' s1'
          generalize w2.drewN nq = w9 at *
          obtain ⟨d', hde⟩ : ∃ d', d' = d := ⟨_, rfl⟩
          rw [← hde] at hd3 hr3
          have HLEN' : Hid (d'.S.length = n) := by rw [hde]; exact HLEN.out
          clear hde
          obtain ⟨c9, arr9, how9, hb9, -⟩ := id hr3
          obtain ⟨-, r1, -, -, r4, r5⟩ := rdisk_cells hb9
          clear hb9
          have CP := Lib.hid (fun m => power_any d' (hd3.drewN m))
          have CW := Lib.hid (fun m => writes_any d' (hd3.drewN m))
          have CL := Lib.hid (fun m => lives_any d' (hd3.drewN m))
          have HD9 := Lib.hid hd3
          have HR9 := Lib.hid hr3
          have hoff9 : ((!d'.off) == d'.off) = false := by cases d'.off <;> rfl
          clear hd3 hr3
          go_wp2_with fail
          go_quiet (first
            | (go_at_call 24; exact quiet_left (CP.out _))
            | (go_at_call 25; exact quiet_left (CW.out _))
            | (go_at_call 26; exact quiet_left (CL.out _)))
          go_wp2
          go_roundg (len - (j + 1))
          case measure => have := HJ.out; omega
          case rel => exact ⟨j + 1, b, a, d', by have := HJ.out; omega, by go_num, rfl, HD9.out.drewN _, HR9.out.drewN _, HLEN', hb, ha, below_drewN hB3 _⟩
        · have e5 : x.sector < 0 ∨ (n : Int) ≤ x.sector := by
            unfold Dk.may at em
            rw [hln] at em
            split at em
            · omega
            · split at em <;> omega
          by_cases e6 : x.sector < 0
          · clear e5
            have CR := read_no d x.sector hdA (by rw [em]; omega)
            rw [em] at CR
            obtain ⟨c8, arr8, how8, hb8, -⟩ := id hrA
            obtain ⟨r0, r1, -, -, -, -⟩ := rdisk_cells hb8
            have HCR := Lib.hid CR
            clear em hb8 CR hln
            go_wp2_with fail
            refine HCR.out.mono ?_
            rintro e w2 ⟨rfl, rfl⟩
            go_wp2_with fail
            go_quiet (fail)
            have hd3 := hdA.drewN nq
            have hr3 := hrA.drewN nq
            have hB3 := below_drewN (hB.trans (HA0.out.mono hBw')) nq
            clear hdA hrA
            generalize (wr.alloc (.cells #[.int .i64 x.op, .int .i64 x.sector, .int .i64 x.n, .int .i64 x.how, .slice A' m c] 35)).drewN nq = w9 at *
            obtain ⟨d', hde⟩ : ∃ d', d' = d := ⟨_, rfl⟩
            rw [← hde] at hd3 hr3
            have HLEN' : Hid (d'.S.length = n) := by rw [hde]; exact HLEN.out
            clear hde
            obtain ⟨c9, arr9, how9, hb9, -⟩ := id hr3
            obtain ⟨-, r1, -, -, r4, r5⟩ := rdisk_cells hb9
            clear hb9
            have CP := Lib.hid (fun m => power_any d' (hd3.drewN m))
            have CW := Lib.hid (fun m => writes_any d' (hd3.drewN m))
            have CL := Lib.hid (fun m => lives_any d' (hd3.drewN m))
            have HD9 := Lib.hid hd3
            have HR9 := Lib.hid hr3
            have hoff9 : ((!d'.off) == d'.off) = false := by cases d'.off <;> rfl
            clear hd3 hr3
            go_wp2_with fail
            go_quiet (first
              | (go_at_call 24; exact quiet_left (CP.out _))
              | (go_at_call 25; exact quiet_left (CW.out _))
              | (go_at_call 26; exact quiet_left (CL.out _)))
            go_wp2
            go_roundg (len - (j + 1))
            case measure => have := HJ.out; omega
            case rel => exact ⟨j + 1, b, a, d', by have := HJ.out; omega, by go_num, rfl, HD9.out.drewN _, HR9.out.drewN _, HLEN', hb, ha, below_drewN hB3 _⟩
          · have e7 : (n : Int) ≤ x.sector := by omega
            clear e5
            have CR := read_no d x.sector hdA (by rw [em]; omega)
            rw [em] at CR
            obtain ⟨c8, arr8, how8, hb8, -⟩ := id hrA
            obtain ⟨r0, r1, -, -, -, -⟩ := rdisk_cells hb8
            have HCR := Lib.hid CR
            clear em hb8 CR hln
            go_wp2_with fail
            refine HCR.out.mono ?_
            rintro e w2 ⟨rfl, rfl⟩
            go_wp2_with fail
            go_quiet (fail)
            have hd3 := hdA.drewN nq
            have hr3 := hrA.drewN nq
            have hB3 := below_drewN (hB.trans (HA0.out.mono hBw')) nq
            clear hdA hrA
            generalize (wr.alloc (.cells #[.int .i64 x.op, .int .i64 x.sector, .int .i64 x.n, .int .i64 x.how, .slice A' m c] 35)).drewN nq = w9 at *
            obtain ⟨d', hde⟩ : ∃ d', d' = d := ⟨_, rfl⟩
            rw [← hde] at hd3 hr3
            have HLEN' : Hid (d'.S.length = n) := by rw [hde]; exact HLEN.out
            clear hde
            obtain ⟨c9, arr9, how9, hb9, -⟩ := id hr3
            obtain ⟨-, r1, -, -, r4, r5⟩ := rdisk_cells hb9
            clear hb9
            have CP := Lib.hid (fun m => power_any d' (hd3.drewN m))
            have CW := Lib.hid (fun m => writes_any d' (hd3.drewN m))
            have CL := Lib.hid (fun m => lives_any d' (hd3.drewN m))
            have HD9 := Lib.hid hd3
            have HR9 := Lib.hid hr3
            have hoff9 : ((!d'.off) == d'.off) = false := by cases d'.off <;> rfl
            clear hd3 hr3
            go_wp2_with fail
            go_quiet (first
              | (go_at_call 24; exact quiet_left (CP.out _))
              | (go_at_call 25; exact quiet_left (CW.out _))
              | (go_at_call 26; exact quiet_left (CL.out _)))
            go_wp2
            go_roundg (len - (j + 1))
            case measure => have := HJ.out; omega
            case rel => exact ⟨j + 1, b, a, d', by have := HJ.out; omega, by go_num, rfl, HD9.out.drewN _, HR9.out.drewN _, HLEN', hb, ha, below_drewN hB3 _⟩
        · obtain ⟨es0, es1, eoff⟩ : ¬ x.sector < 0 ∧ ¬ (n : Int) ≤ x.sector ∧ d.off = true := by
            unfold Dk.may at em
            rw [hln] at em
            split at em
            · omega
            · split at em
              · exact ⟨by omega, by omega, ‹_›⟩
              · omega
          have CR := read_no d x.sector hdA (by rw [em]; omega)
          rw [em] at CR
          obtain ⟨c8, arr8, how8, hb8, -⟩ := id hrA
          obtain ⟨r0, r1, -, -, -, -⟩ := rdisk_cells hb8
          rw [eoff] at r1
          clear eoff
          have HCR := Lib.hid CR
          clear em hb8 CR hln
          go_wp2_with fail
          refine HCR.out.mono ?_
          rintro e w2 ⟨rfl, rfl⟩
          go_wp2_with fail
          go_quiet (fail)
          have hd3 := hdA.drewN nq
          have hr3 := hrA.drewN nq
          have hB3 := below_drewN (hB.trans (HA0.out.mono hBw')) nq
          clear hdA hrA
          generalize (wr.alloc (.cells #[.int .i64 x.op, .int .i64 x.sector, .int .i64 x.n, .int .i64 x.how, .slice A' m c] 35)).drewN nq = w9 at *
          obtain ⟨d', hde⟩ : ∃ d', d' = d := ⟨_, rfl⟩
          rw [← hde] at hd3 hr3
          have HLEN' : Hid (d'.S.length = n) := by rw [hde]; exact HLEN.out
          clear hde
          obtain ⟨c9, arr9, how9, hb9, -⟩ := id hr3
          obtain ⟨-, r1, -, -, r4, r5⟩ := rdisk_cells hb9
          clear hb9
          have CP := Lib.hid (fun m => power_any d' (hd3.drewN m))
          have CW := Lib.hid (fun m => writes_any d' (hd3.drewN m))
          have CL := Lib.hid (fun m => lives_any d' (hd3.drewN m))
          have HD9 := Lib.hid hd3
          have HR9 := Lib.hid hr3
          have hoff9 : ((!d'.off) == d'.off) = false := by cases d'.off <;> rfl
          clear hd3 hr3
          go_wp2_with fail
          go_quiet (first
            | (go_at_call 24; exact quiet_left (CP.out _))
            | (go_at_call 25; exact quiet_left (CW.out _))
            | (go_at_call 26; exact quiet_left (CL.out _)))
          go_wp2
          go_roundg (len - (j + 1))
          case measure => have := HJ.out; omega
          case rel => exact ⟨j + 1, b, a, d', by have := HJ.out; omega, by go_num, rfl, HD9.out.drewN _, HR9.out.drewN _, HLEN', hb, ha, below_drewN hB3 _⟩
      by_cases e2 : x.op = 2
      · have g0 : (x.op == 0) = false := by rw [beq_eq_false_iff_ne]; omega
        have g1 : (x.op == 1) = false := by rw [beq_eq_false_iff_ne]; omega
        have g2 : (x.op == 2) = true := beq_iff_eq.2 e2
        clear e0 e1 e2
        have W0s := (Blk.new wr 35 #[.int .i64 x.op, .int .i64 x.sector, .int .i64 x.n, .int .i64 x.how, .slice A' m c])
        have hA0 : Below wr.heap.size wr (wr.alloc (.cells #[.int .i64 x.op, .int .i64 x.sector, .int .i64 x.n, .int .i64 x.how, .slice A' m c] 35)) := (Below.refl _ _).alloc (Nat.le_refl _) _
        have q1 := hd.ltb
        have q2 := hd.lta
        have q3 := hr.ltb
        have q4 := hr.lta
        have hdA := hd.below hA0
        have hrA := hr.below hA0
        have W0S := Lib.hid W0s
        have HA0 := Lib.hid hA0
        clear W0s hA0 hd hr
        go_wp2_with fail
        refine (cut_any d _ _ hf hdA).mono ?_
        rintro e w2 ⟨rfl, hd2, hk2⟩
        have hr2 := hrA.other_d hdA hk2
        have hW2 := hk2.blk W0S.out (by rintro (e | e) <;> omega)
        have k2 := (hW2.cell 2).trans rfl
        have k3 := (hW2.cell 3).trans rfl
        have HW2 := Lib.hid hW2
        clear hW2
        go_wp2_with fail
        refine (arm_any d _ _ hf hr2).mono ?_
        rintro e w3 ⟨rfl, hr3, hk3⟩
        have hd3 := hd2.other_r hr2 hk3
        have hB3 : Below w.heap.size w w3 := Kept.low (Kept.low (hB.trans (HA0.out.mono hBw')) (Nat.le_refl _) (by rintro i (rfl | rfl) <;> omega) hk2) (Nat.le_refl _) (by rintro i (rfl | rfl) <;> omega) hk3
        clear hk2 hk3 hd2 hr2 hdA hrA
        obtain ⟨d', hde⟩ : ∃ d', d' = d.armed x.n x.how := ⟨_, rfl⟩
        rw [← hde] at hd3 hr3
        have HLEN' : Hid (d'.S.length = n) := by rw [hde]; exact HLEN.out
        clear hde
        obtain ⟨c9, arr9, how9, hb9, -⟩ := id hr3
        obtain ⟨-, r1, -, -, r4, r5⟩ := rdisk_cells hb9
        clear hb9
        have CP := Lib.hid (fun m => power_any d' (hd3.drewN m))
        have CW := Lib.hid (fun m => writes_any d' (hd3.drewN m))
        have CL := Lib.hid (fun m => lives_any d' (hd3.drewN m))
        have HD9 := Lib.hid hd3
        have HR9 := Lib.hid hr3
        have hoff9 : ((!d'.off) == d'.off) = false := by cases d'.off <;> rfl
        clear hd3 hr3
        go_wp2_with fail
        go_quiet (first
          | (go_at_call 24; exact quiet_left (CP.out _))
          | (go_at_call 25; exact quiet_left (CW.out _))
          | (go_at_call 26; exact quiet_left (CL.out _)))
        go_wp2
        go_roundg (len - (j + 1))
        case measure => have := HJ.out; omega
        case rel => exact ⟨j + 1, b, a, d', by have := HJ.out; omega, by go_num, rfl, HD9.out.drewN _, HR9.out.drewN _, HLEN', hb, ha, below_drewN hB3 _⟩
      by_cases e3 : x.op = 3
      · have g0 : (x.op == 0) = false := by rw [beq_eq_false_iff_ne]; omega
        have g1 : (x.op == 1) = false := by rw [beq_eq_false_iff_ne]; omega
        have g2 : (x.op == 2) = false := by rw [beq_eq_false_iff_ne]; omega
        have g3 : (x.op == 3) = true := beq_iff_eq.2 e3
        clear e0 e1 e2 e3
        have W0s := (Blk.new wr 35 #[.int .i64 x.op, .int .i64 x.sector, .int .i64 x.n, .int .i64 x.how, .slice A' m c])
        have hA0 : Below wr.heap.size wr (wr.alloc (.cells #[.int .i64 x.op, .int .i64 x.sector, .int .i64 x.n, .int .i64 x.how, .slice A' m c] 35)) := (Below.refl _ _).alloc (Nat.le_refl _) _
        have q1 := hd.ltb
        have q2 := hd.lta
        have q3 := hr.ltb
        have q4 := hr.lta
        have hdA := hd.below hA0
        have hrA := hr.below hA0
        have W0S := Lib.hid W0s
        have HA0 := Lib.hid hA0
        clear W0s hA0 hd hr
        go_wp2_with fail
        refine (on_any d hdA).mono ?_
        rintro e w2 ⟨rfl, hd2, hk2⟩
        have hr2 := hrA.other_d hdA hk2
        go_wp2_with fail
        refine (ron_any d hr2).mono ?_
        rintro e w3 ⟨rfl, hr3, hk3⟩
        have hd3 := hd2.other_r hr2 hk3
        have hB3 : Below w.heap.size w w3 := Kept.low (Kept.low (hB.trans (HA0.out.mono hBw')) (Nat.le_refl _) (by rintro i (rfl | rfl) <;> omega) hk2) (Nat.le_refl _) (by rintro i (rfl | rfl) <;> omega) hk3
        clear hk2 hk3 hd2 hr2 hdA hrA
        obtain ⟨d', hde⟩ : ∃ d', d' = d.on := ⟨_, rfl⟩
        rw [← hde] at hd3 hr3
        have HLEN' : Hid (d'.S.length = n) := by rw [hde]; exact HLEN.out
        clear hde
        obtain ⟨c9, arr9, how9, hb9, -⟩ := id hr3
        obtain ⟨-, r1, -, -, r4, r5⟩ := rdisk_cells hb9
        clear hb9
        have CP := Lib.hid (fun m => power_any d' (hd3.drewN m))
        have CW := Lib.hid (fun m => writes_any d' (hd3.drewN m))
        have CL := Lib.hid (fun m => lives_any d' (hd3.drewN m))
        have HD9 := Lib.hid hd3
        have HR9 := Lib.hid hr3
        have hoff9 : ((!d'.off) == d'.off) = false := by cases d'.off <;> rfl
        clear hd3 hr3
        go_wp2_with fail
        go_quiet (first
          | (go_at_call 24; exact quiet_left (CP.out _))
          | (go_at_call 25; exact quiet_left (CW.out _))
          | (go_at_call 26; exact quiet_left (CL.out _)))
        go_wp2
        go_roundg (len - (j + 1))
        case measure => have := HJ.out; omega
        case rel => exact ⟨j + 1, b, a, d', by have := HJ.out; omega, by go_num, rfl, HD9.out.drewN _, HR9.out.drewN _, HLEN', hb, ha, below_drewN hB3 _⟩
      · have g0 : (x.op == 0) = false := beq_eq_false_iff_ne.2 e0
        have g1 : (x.op == 1) = false := beq_eq_false_iff_ne.2 e1
        have g2 : (x.op == 2) = false := beq_eq_false_iff_ne.2 e2
        have g3 : (x.op == 3) = false := beq_eq_false_iff_ne.2 e3
        have kc := fun (w : World) (C : Array Value) (n c : Nat) => Lib.run_convert_bytes_const (P := Try.prog) w 27 5 C n c Try.underlying27 Try.underlying5
        clear e0 e1 e2 e3
        have W0s := (Blk.new wr 35 #[.int .i64 x.op, .int .i64 x.sector, .int .i64 x.n, .int .i64 x.how, .slice A' m c])
        have hA0 : Below wr.heap.size wr (wr.alloc (.cells #[.int .i64 x.op, .int .i64 x.sector, .int .i64 x.n, .int .i64 x.how, .slice A' m c] 35)) := (Below.refl _ _).alloc (Nat.le_refl _) _
        have q1 := hd.ltb
        have q2 := hd.lta
        have q3 := hr.ltb
        have q4 := hr.lta
        have hdA := hd.below hA0
        have hrA := hr.below hA0
        have W0S := Lib.hid W0s
        have HA0 := Lib.hid hA0
        clear W0s hA0 hd hr
        go_wp2_with fail
        refine (copy_any d hdA).mono ?_
        rintro e w2 ⟨b', a', rfl, hc2, hb', ha', hbel2⟩
        have hd2 := hdA.below hbel2
        have hr2 := hrA.below hbel2
        simp only [World.size_alloc] at hb' ha'
        go_wp2_with fail
        refine (write_any d 0 [115, 112, 111, 105, 108, 116] (hd2.below ((Below.refl _ _).alloc (Nat.le_refl _) _)) (bts_marked w2 [115, 112, 111, 105, 108, 116] 6 rfl (by unfold maxLen; omega) _)).mono ?_
        rintro e w3 ⟨rfl, -, hk3⟩
        have hz3 := ((Below.refl w2.heap.size w2).alloc (Nat.le_refl _) (.cells (([115, 112, 111, 105, 108, 116] : List UInt8).map u8).toArray 5 (6, 7)))
        have hd3 : DiskAt w3 b' a' d := (hc2.below hz3).other (hd2.below hz3) hk3 (by omega) (by omega)
        have hr3 : RDiskAt w3 rb ra d := (hr2.below hz3).other_d (hd2.below hz3) hk3
        have hB2 : Below w.heap.size w w2 := (hB.trans (HA0.out.mono hBw')).trans (hbel2.mono (by simp; omega))
        have hB3 : Below w.heap.size w w3 := Kept.low (hB2.trans (hz3.mono hB2.size)) (Nat.le_refl _) (by rintro i (rfl | rfl) <;> omega) hk3
        clear hk3 hd2 hr2 hdA hrA hc2 hbel2 hz3 hB2
        obtain ⟨d', hde⟩ : ∃ d', d' = d := ⟨_, rfl⟩
        rw [← hde] at hd3 hr3
        have HLEN' : Hid (d'.S.length = n) := by rw [hde]; exact HLEN.out
        clear hde
        obtain ⟨c9, arr9, how9, hb9, -⟩ := id hr3
        obtain ⟨-, r1, -, -, r4, r5⟩ := rdisk_cells hb9
        clear hb9
        have CP := Lib.hid (fun m => power_any d' (hd3.drewN m))
        have CW := Lib.hid (fun m => writes_any d' (hd3.drewN m))
        have CL := Lib.hid (fun m => lives_any d' (hd3.drewN m))
        have HD9 := Lib.hid hd3
        have HR9 := Lib.hid hr3
        have hoff9 : ((!d'.off) == d'.off) = false := by cases d'.off <;> rfl
        clear hd3 hr3
        go_wp2_with fail
        go_quiet (first
          | (go_at_call 24; exact quiet_left (CP.out _))
          | (go_at_call 25; exact quiet_left (CW.out _))
          | (go_at_call 26; exact quiet_left (CL.out _)))
        go_wp2
        go_roundg (len - (j + 1))
        case measure => have := HJ.out; omega
        case rel => exact ⟨j + 1, b', a', d', by have := HJ.out; omega, by go_num, rfl, HD9.out.drewN _, HR9.out.drewN _, HLEN', (by omega), (by omega), below_drewN hB3 _⟩
    · obtain rfl : j = len := by omega
      clear hj
      go_wp2
      go_ret
      exact ⟨rfl, hB⟩
end
end Go.Proofs.Ytifldkcfbggkeaa
