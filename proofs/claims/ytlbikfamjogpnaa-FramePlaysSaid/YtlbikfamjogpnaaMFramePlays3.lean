/- The texts of this proof, joined: contracts of the functions that the law reaches, and what they come to in plain Lean. Conditions: those that each theorem names. -/
import Derived.Test.YtlbikfamjogpnaaMFramePlays2

/- FramePlays answers true. Conditions: two ints, a slice of calls that reads. -/
section
namespace Go.Proofs.Ytlbikfamjogpnaa
open Go.RowKit
set_option linter.unusedVariables false
set_option linter.unusedSimpArgs false

theorem op_false {x : Int} {k : Int} (h : x ≠ k) : (x == k) = false := beq_eq_false_iff_ne.2 h
theorem dk_opens (d : Dk) (w : World) (b a rb ra : Nat) (first sectors : Nat) (hd : DiskAt w b a d) (hr : RDiskAt w rb ra d) (h1 : 1 ≤ sectors) (hfit : first + sectors ≤ d.S.length) :
    (d.off = true ∧ Calls Try.prog 15 #[.pointer (some ⟨b, 0, none⟩), .int .i64 (first : Int), .int .i64 (sectors : Int)] w fun e w' => e = .returned (.tuple #[.pointer none, .int .i64 4]) ∧ w = w') ∨
    (d.off = false ∧ Calls Try.prog 15 #[.pointer (some ⟨b, 0, none⟩), .int .i64 (first : Int), .int .i64 (sectors : Int)] w fun e w' => ∃ p, e = .returned (.tuple #[.pointer (some ⟨p, 0, none⟩), .int .i64 0]) ∧ AreaAt w' w.heap.size p b (scanA d.S ⟨d.lives, first, sectors, 0, [], 0⟩) ∧ Below w.heap.size w w') := by
  cases ho : d.off with
  | true => exact .inl ⟨rfl, open_off d first sectors hd h1 hfit ho⟩
  | false => exact .inr ⟨rfl, open_any d first sectors hd h1 hfit ho⟩
theorem scan_keeps (S : List (List UInt8)) (m : Nat) : ∀ A : Ar, (∀ s ∈ S, s.length = 64) → A.first + A.sectors ≤ S.length → A.used ≤ A.sectors → (scanF S m A).first = A.first ∧ (scanF S m A).sectors = A.sectors ∧ (scanF S m A).used ≤ A.sectors := by
  induction m with
  | zero => intro A _ _ h; exact ⟨rfl, rfl, h⟩
  | succ m ih =>
    intro A h64 hf h
    unfold scanF
    cases hx : frameAt S A.first A.sectors A.used with
    | none => exact ⟨rfl, rfl, h⟩
    | some f =>
      simp only []
      split
      · exact ⟨rfl, rfl, h⟩
      · have hl := (frameAt_len hx h64 hf).2.1
        exact ih { A with life := f.life, ats := A.ats ++ [A.used], used := A.used + fsz f.b.length } h64 hf hl
section
variable {w : World} {A0 : Option Addr} {n c : Nat} {L : List Ac5}
set_option maxRecDepth 100000 in
set_option maxHeartbeats 16000000 in
theorem plays5_main (first sectors : Nat) (h1 : 1 ≤ sectors) (hfit : first + sectors ≤ 24) (hL : Acts5At w w.heap.size A0 n L) (hn : n ≤ 60) (hc : n ≤ c) (hcm : c ≤ maxLen) :
    Calls Try.prog 5 #[.int .i64 (first : Int), .int .i64 (sectors : Int), .slice A0 n c] w fun e w' => e = .returned (.bool true) ∧ Below w.heap.size w w' := by
  have HL := Lib.hid hL
  have H1 := Lib.hid h1
  unfold maxLen at hcm
  clear hL
  go_enter Try.func5, Try.ntmps5
  go_wp2_with fail
  refine (awake5 w).mono ?_
  rintro e w1 ⟨rfl, hB1⟩
  go_wp2_with fail
  refine (new_ok 24 w1 (by omega) (by omega)).mono ?_
  rintro e w2 ⟨b, a, rfl, hd2, hb, ha, hb2⟩
  have hB2 : Below w.heap.size w w2 := hB1.trans (hb2.mono hB1.size)
  have HB := Lib.hid (Nat.le_trans hB1.size hb)
  have HAA := Lib.hid (Nat.le_trans hB1.size ha)
  clear hb ha hb2 hB1
  go_wp2_with fail
  refine (newdisk_any 24 (by omega) (by omega) w2).mono ?_
  rintro e w3 ⟨rb, ra, rfl, hrd3, hrb, hra, hb3⟩
  have hd3 := hd2.below hb3
  have hB3 : Below w.heap.size w w3 := hB2.trans (hb3.mono hB2.size)
  have HRB := Lib.hid (Nat.le_trans hB2.size hrb)
  have HRA := Lib.hid (Nat.le_trans hB2.size hra)
  have h64 := (disk_len hd3).2
  have H64 := Lib.hid h64
  have hsk := scan_keeps (Dk.new 24).S (sectors + 1) ⟨1, first, sectors, 0, [], 0⟩ h64 (by show first + sectors ≤ 24; exact hfit) (Nat.zero_le _)
  have HSK := Lib.hid hsk
  clear hrb hra hb3 hd2 hB2 h64 hsk
  have CO := Lib.hid (open_any (Dk.new 24) first sectors hd3 h1 (by show first + sectors ≤ 24; exact hfit) rfl)
  have HD3 := Lib.hid hd3
  have HRD3 := Lib.hid hrd3
  have HB3 := Lib.hid hB3
  clear hd3 hrd3 hB3 h1
  go_wp2_with fail
  refine CO.out.mono ?_
  rintro e w4 ⟨p, rfl, ha4, hb4⟩
  have CRO := Lib.hid (ropen_any (Dk.new 24) first sectors (HRD3.out.below hb4) H64.out H1.out (by show first + sectors ≤ 24; exact hfit) rfl)
  have HA4 := Lib.hid ha4
  have HD4 := Lib.hid (HD3.out.below hb4)
  have HRD4 := Lib.hid (HRD3.out.below hb4)
  have HB4 := Lib.hid (HB3.out.trans (hb4.mono HB3.out.size))
  have HZ3 := Lib.hid HB3.out.size
  have HW43 := Lib.hid hb4.size
  clear CO ha4 hb4 HD3 HRD3 HB3
  go_wp2_with fail
  refine CRO.out.mono ?_
  rintro e w5 ⟨q, fs0, rfl, hra5, hsm5, hb5⟩
  have HP5 : Hid (PL w w5 b a rb ra p q first sectors (scanA (Dk.new 24).S ⟨(Dk.new 24).lives, first, sectors, 0, [], 0⟩) (Dk.new 24) fs0) := Lib.hid ⟨HD4.out.below hb5, HRD4.out.below hb5, (HA4.out.below hb5).base HZ3.out, hra5.base (Nat.le_trans HZ3.out HW43.out), hsm5, HSK.out.1, HSK.out.2.1, by have := HSK.out.2.2; have := HSK.out.2.1; exact Nat.le_trans ‹_› (by rw [show (scanA (Dk.new 24).S ⟨(Dk.new 24).lives, first, sectors, 0, [], 0⟩).sectors = sectors from HSK.out.2.1]; exact Nat.le_refl _), by show first + sectors ≤ 24; exact hfit, HB4.out.trans (hb5.mono HB4.out.size), HB.out, HAA.out, HRB.out, HRA.out⟩
  generalize hA0 : scanA (Dk.new 24).S ⟨(Dk.new 24).lives, first, sectors, 0, [], 0⟩ = Ar0 at *
  generalize hd0 : Dk.new 24 = dk0 at *
  have g60 : decide (60 < n) = false := decide_eq_false (by omega)
  have g60' : decide ((60 : Int) < (n : Int)) = false := decide_eq_false (by omega)
  clear CRO hra5 hsm5 hb5 HA4 HD4 HRD4 HB4 HZ3 HSK H64 hA0 hd0 HB HAA HRB HRA
  go_wp2_with fail
  clear g60 g60'
  go_loopg [10, 12, 14] n (fun m pv qv iv wr => ∃ (j : Nat) (A : Ar) (d : Dk) (fs : List (UInt8 × List UInt8)) (p q : Nat), j + m = n ∧ iv = .int .i64 (j : Int) ∧ pv = .pointer (some ⟨p, 0, none⟩) ∧ qv = .pointer (some ⟨q, 0, none⟩) ∧ Hid (PL w wr b a rb ra p q first sectors A d fs))
  case atStart => exact ⟨0, Ar0, dk0, fs0, p, q, by omega, rfl, rfl, rfl, HP5⟩
  case round =>
    clear HP5
    obtain ⟨j, A, d, fs, p, q, hj, rfl, rfl, rfl, HPL⟩ := hrel
    have HJ := Lib.hid hj
    by_cases hlt : j < n
    · obtain ⟨x, bb, oo, A', m, cc, hfx, rfl, hat⟩ := HL.out.at_ hlt
      have HAT := Lib.hid hat
      have HFX := Lib.hid hfx
      obtain ⟨x0, x1, x2, x3, x4, x5, x6⟩ := hat wr HPL.out.below
      have hbx := x6
      have hm6 : x.B.length = m := x6.2.2.2.2
      have hmm : m ≤ maxLen := Nat.le_trans x6.2.2.1 x6.2.2.2.1
      unfold maxLen at hmm
      have HM6 := Lib.hid hm6
      clear hat hfx hj hbx x6 hm6
      obtain ⟨Wa, hWa⟩ : ∃ Wa, Wa = wr.alloc (.cells #[.int .i64 x.op, .int .i64 x.n, .int .i64 x.how, .int .u8 (x.kind.toNat : Int), .int .u64 (x.life : Int), .slice A' m cc] 51) := ⟨_, rfl⟩
      have hla : Later wr Wa := by rw [hWa]; exact (Later.refl wr).alloc _
      have hka : Blk Wa wr.heap.size 51 #[.int .i64 x.op, .int .i64 x.n, .int .i64 x.how, .int .u8 (x.kind.toNat : Int), .int .u64 (x.life : Int), .slice A' m cc] := by rw [hWa]; exact Blk.new _ _ _
      have HPA := Lib.hid (HPL.out.later hla)
      have HKA := Lib.hid hka
      have HWA := Lib.hid hWa
      have ACT : Hid (∀ V, Below Wa.heap.size Wa V → V.cell? ⟨wr.heap.size, 0, none⟩ = some (.int .i64 x.op) ∧ V.cell? ⟨wr.heap.size, 1, none⟩ = some (.int .i64 x.n) ∧ V.cell? ⟨wr.heap.size, 2, none⟩ = some (.int .i64 x.how) ∧ V.cell? ⟨wr.heap.size, 3, none⟩ = some (.int .u8 (x.kind.toNat : Int)) ∧ V.cell? ⟨wr.heap.size, 4, none⟩ = some (.int .u64 (x.life : Int)) ∧ V.cell? ⟨wr.heap.size, 5, none⟩ = some (.slice A' m cc)) := Lib.hid fun V hV => by
        have hk := HKA.out.below hV HKA.out.lt
        exact ⟨(hk.cell 0).trans rfl, (hk.cell 1).trans rfl, (hk.cell 2).trans rfl, (hk.cell 3).trans rfl, (hk.cell 4).trans rfl, (hk.cell 5).trans rfl⟩
      have HNB : Hid (∀ V, Below w.heap.size w V → BtsB V w.heap.size A' m cc x.B) := Lib.hid fun V hV => (HAT.out V hV).2.2.2.2.2.2
      clear hka hla
      go_upto_region 13 with fail
      rw [← hWa]
      clear hWa x0 x1 x2 x3 x4 x5
      obtain ⟨y0, y1, y2, y3, y4, y5⟩ := ACT.out Wa (Below.refl _ _)
      by_cases hbig : 1100 < m
      · have g1 : decide (1100 < m) = true := decide_eq_true hbig
        have g1' : decide ((1100 : Int) < (m : Int)) = true := decide_eq_true (by omega)
        go_wp2
        go_ret
        exact ⟨rfl, HPA.out.below⟩
      have g1 : decide (1100 < m) = false := decide_eq_false hbig
      have g1' : decide ((1100 : Int) < (m : Int)) = false := decide_eq_false (by omega)
      by_cases o0 : x.op = 0
      · have b0 : (x.op == 0) = true := by rw [o0]; rfl
        have CADD : Hid (∀ (V : World) (A2 : Option Addr) (c2 : Nat), Later Wa V → Bts V A2 m c2 x.B → Calls Try.prog 18 #[.pointer (some ⟨p, 0, none⟩), .int .u8 (x.kind.toNat : Int), .slice A2 m c2] V (AddPost V w.heap.size p b a A d x.kind x.B)) := Lib.hid (fun V A2 c2 hV hb => by
          have h7 := HPA.out.later hV
          exact add_any d x.kind h7.area h7.disk (by rw [h7.fst, h7.sec]; exact h7.fit) h7.use (by rw [h7.same.1, offsL_len, h7.same.2.1]; exact offs_ge fs _ (Nat.le_refl _)) hb (by omega))
        obtain ⟨i0, hi0, hz0, hz1, hz2⟩ := info_parts info_u8
        have y3a : (Wa.alloc (.cells #[] 5)).cell? ⟨wr.heap.size, 3, none⟩ = some (.int .u8 (x.kind.toNat : Int)) := (ACT.out _ ((Later.refl Wa).alloc _)).2.2.2.1
        have y5a : (Wa.alloc (.cells #[] 5)).cell? ⟨wr.heap.size, 5, none⟩ = some (.slice A' m cc) := (ACT.out _ ((Later.refl Wa).alloc _)).2.2.2.2.2
        have HRD : Hid (Reads (Wa.drew.alloc (.cells #[] 5)) w.heap.size 1 A' m (x.B.map byt)) := Lib.hid (HNB.out (Wa.drew.alloc (.cells #[] 5)) (HPA.out.below.trans (((Later.refl Wa).drew.alloc (.cells #[] 5)).mono HPA.out.below.size))).2.1
        clear o0
        go_wp2_with fail
        go_upto_region 26 with fail
        go_cut [16, 17] (fun v16 v17 wx => ∃ v y, v16 = .int .i64 v ∧ v17 = .int .i64 y ∧ Hid (∃ wm, Later Wa wm ∧ AddPost wm w.heap.size p b a A d x.kind x.B (.returned (.tuple #[.int .i64 v, .int .i64 y])) wx))
        case first =>
          go_region_law
            (first
              | (refine step_append_any (Wa.drew.alloc (.cells #[] 5)) (by rfl) (.tmp 118) (.tmp 120) _ (by rfl) Wa.heap.size 5 i0 _ 1 1 Try.underlying36 hi0 hz0 hz1 hz2 rfl (by omega) (.slice (some ⟨Wa.heap.size, 0, none⟩) 0 0) 0 [] (by rfl) (World.ownsRow_lit Wa.drew #[] 0 (Nat.le_refl _) (by unfold maxLen; omega) rfl) w.heap.size A' m cc (x.B.map byt) (by rfl) HRD.out (byt_one _) (by unfold maxLen; omega) (by omega) (by simp) ?_; intro v10 w10 hown10 hg10 hat10
                 obtain ⟨A10, c10, rfl⟩ := own_shape hown10
                 have hl10 : Later Wa w10 := ((Later.refl Wa).drew.alloc _).grown hg10 (by simp) (fun k hk => by simp [Value.ownBlock] at hk; omega)
                 have hb10 : Bts w10 A10 m c10 x.B := own_bts (l := x.B) (by simpa using hown10)
                 have y3b : w10.cell? ⟨wr.heap.size, 3, none⟩ = some (.int .u8 (x.kind.toNat : Int)) := (ACT.out w10 hl10).2.2.2.1
                 have HL10 := Lib.hid hl10
                 have HB10 := Lib.hid hb10
                 clear hown10 hg10 hat10 hl10 hb10)
              | (go_simp; go_at_call 18; go_must (refine (CADD.out w10 A10 c10 HL10.out HB10.out).mono ?_); intro e w11 hpost; obtain ⟨v, y, rfl⟩ := add_e hpost; have HPOST := Lib.hid hpost; clear hpost))
          all_goals
            go_wp2_with fail
            go_meet
            exact ⟨v, y, rfl, rfl, Lib.hid ⟨w10, HL10.out, HPOST.out⟩⟩
        case rest =>
        obtain ⟨v, y, rfl, rfl, HW⟩ := hcut
        obtain ⟨w11, hww⟩ : ∃ w11 : World, w11 = wc := ⟨_, rfl⟩
        rw [← hww] at HW ⊢
        clear hww y3a y5a y0 y1 y2 y3 y4 y5 CADD HRD
        obtain ⟨wm, hlm, hpost⟩ := HW.out
        have hpm := HPA.out.later hlm
        obtain ⟨m1, m2, m3⟩ := add_mid hpm hpost
        have hk11 := act_add hpm hpost (HKA.out.below hlm HKA.out.lt)
        have y3' : w11.cell? ⟨wr.heap.size, 3, none⟩ = some (.int .u8 (x.kind.toNat : Int)) := (hk11.cell 3).trans rfl
        have y5' : w11.cell? ⟨wr.heap.size, 5, none⟩ = some (.slice A' m cc) := (hk11.cell 5).trans rfl
        have cv := run_string_of w11 36 9 5 Try.underlying36 Try.underlying5 Try.underlying9 (c := cc) ((HNB.out w11 m3).bts m3.size).2.1
        have CR := Lib.hid (radd_any d x.kind x.B m2 hpm.same m1 (by rw [hpm.fst, hpm.sec]; exact hpm.fit) hpm.use (by rw [HM6.out]; omega))
        have HPM := Lib.hid hpm
        have HPOST := Lib.hid hpost
        clear hlm hpost hpm m1 m2 m3 hk11 HW
        go_wp2_with fail
        refine CR.out.mono ?_
        intro e w12 hr
        obtain ⟨rfl, A9, d9, fs9, hpn⟩ := add_both HPM.out HPOST.out hr
        have HPN := Lib.hid hpn
        clear CR hr hpn
        go_wp2_with fail
        have CS := Lib.hid (same_any5 HPN.out.area HPN.out.rarea HPN.out.same HPN.out.use (by have := HPN.out.sec; omega))
        go_wp2_with fail
        refine CS.out.mono ?_
        rintro e ws ⟨rfl, hbs⟩
        have HPS := Lib.hid (HPN.out.later hbs)
        clear CS hbs
        go_wp2_with fail
        go_roundg (n - (j + 1))
        case measure => have := HJ.out; omega
        case rel => have := HJ.out; exact ⟨j + 1, A9, d9, fs9, p, q, by omega, by go_num, rfl, rfl, HPS⟩
      have b0 : (x.op == 0) = false := op_false o0
      by_cases o1 : x.op = 1
      · have b1 : (x.op == 1) = true := by rw [o1]; rfl
        clear o0
        have CB := Lib.hid (begin_any x.life HPA.out.area)
        go_wp2_with fail
        refine CB.out.mono ?_
        rintro e w6 ⟨rfl, ha6, hk6⟩
        obtain ⟨fz3, fz4, ⟨v3, cq3⟩, ⟨v4, cq4⟩, hpl⟩ := begin_both HPA.out x.life ha6 hk6
        have hk5 := act_prog HPA.out.disk HPA.out.area HKA.out (hk6.weak (fun k e => .inr (.inl e)))
        have y4' : w6.cell? ⟨wr.heap.size, 4, none⟩ = some (.int .u64 (x.life : Int)) := (hk5.cell 4).trans rfl
        have HPN := Lib.hid hpl
        clear CB ha6 hk6 hpl hk5 y0 y1 y2 y3 y4 y5
        go_wp2_with fail
        have CS := Lib.hid (same_any5 HPN.out.area HPN.out.rarea HPN.out.same HPN.out.use (by have := HPN.out.sec; omega))
        go_wp2_with fail
        refine CS.out.mono ?_
        rintro e ws ⟨rfl, hbs⟩
        have HPS := Lib.hid (HPN.out.later hbs)
        clear CS hbs
        go_wp2_with fail
        go_roundg (n - (j + 1))
        case measure => have := HJ.out; omega
        case rel => have := HJ.out; exact ⟨j + 1, { A with life := x.life, ats := [], used := 0 }, d, [], p, q, by omega, by go_num, rfl, rfl, HPS⟩
      have b1 : (x.op == 1) = false := op_false o1
      by_cases o3 : x.op = 3
      · have b3 : (x.op == 3) = true := by rw [o3]; rfl
        clear o0 o1
        have CB := Lib.hid (cut_any d x.n x.how HFX.out.1 HPA.out.disk)
        go_wp2_with fail
        refine CB.out.mono ?_
        rintro e w6 ⟨rfl, hd6, hk6⟩
        have hk6' : DKept (fun k => DS b a k ∨ AB Wa p k) Wa w6 := hk6.weak (fun k e => .inl e)
        have hk5 := act_prog HPA.out.disk HPA.out.area HKA.out hk6'
        have CR := Lib.hid (arm_any d x.n x.how HFX.out.1 (ref_stays HPA.out.disk HPA.out.area HPA.out.rdisk HPA.out.rarea hk6').1)
        have y1' : w6.cell? ⟨wr.heap.size, 1, none⟩ = some (.int .i64 x.n) := (hk5.cell 1).trans rfl
        have y2' : w6.cell? ⟨wr.heap.size, 2, none⟩ = some (.int .i64 x.how) := (hk5.cell 2).trans rfl
        have HD6 := Lib.hid hd6
        have HK6 := Lib.hid hk6
        clear CB hd6 hk6 hk6' hk5 y0 y1 y2 y3 y4 y5
        go_wp2_with fail
        refine CR.out.mono ?_
        rintro e w7 ⟨rfl, hd7, hk7⟩
        have HPN := Lib.hid (HPA.out.disks HD6.out HK6.out hd7 hk7 rfl)
        clear CR hd7 hk7
        go_wp2_with fail
        go_roundg (n - (j + 1))
        case measure => have := HJ.out; omega
        case rel => have := HJ.out; exact ⟨j + 1, A, d.armed x.n x.how, fs, p, q, by omega, by go_num, rfl, rfl, HPN⟩
      have b3 : (x.op == 3) = false := op_false o3
      by_cases o5 : x.op = 5
      · have b5 : (x.op == 5) = true := by rw [o5]; rfl
        clear o0 o1 o3
        have CB := Lib.hid (gets_any d x.n HPA.out.area HPA.out.disk HPA.out.rarea HPA.out.rdisk HPA.out.same HPA.out.use (by rw [HPA.out.fst, HPA.out.sec]; exact HPA.out.fit))
        go_wp2_with fail
        refine CB.out.mono ?_
        rintro e w6 ⟨rfl, hb6⟩
        have HPN := Lib.hid (HPA.out.later hb6)
        clear CB hb6 y0 y1 y2 y3 y4 y5
        go_wp2_with fail
        have CS := Lib.hid (same_any5 HPN.out.area HPN.out.rarea HPN.out.same HPN.out.use (by have := HPN.out.sec; omega))
        go_wp2_with fail
        refine CS.out.mono ?_
        rintro e ws ⟨rfl, hbs⟩
        have HPS := Lib.hid (HPN.out.later hbs)
        clear CS hbs
        go_wp2_with fail
        go_roundg (n - (j + 1))
        case measure => have := HJ.out; omega
        case rel => have := HJ.out; exact ⟨j + 1, A, d, fs, p, q, by omega, by go_num, rfl, rfl, HPS⟩
      have b5 : (x.op == 5) = false := op_false o5
      by_cases o6 : x.op = 6
      · have b6 : (x.op == 6) = true := by rw [o6]; rfl
        clear o0 o1 o3 o5
        by_cases h64 : 64 < m
        · have q1 : decide (64 < m) = true := decide_eq_true h64
          have q1' : decide ((64 : Int) < (m : Int)) = true := decide_eq_true (by omega)
          go_wp2_with fail
          go_roundg (n - (j + 1))
          case measure => have := HJ.out; omega
          case rel => have := HJ.out; exact ⟨j + 1, A, d, fs, p, q, by omega, by go_num, rfl, rfl, HPA⟩
        · have q1 : decide (64 < m) = false := decide_eq_false h64
          have q1' : decide ((64 : Int) < (m : Int)) = false := decide_eq_false (by omega)
          have CB := Lib.hid (write_any d x.n x.B HPA.out.disk ((HNB.out Wa HPA.out.below).bts HPA.out.below.size))
          go_wp2_with fail
          refine CB.out.mono ?_
          rintro e w6 ⟨rfl, hd6, hk6⟩
          have hk6' : DKept (fun k => DS b a k ∨ AB Wa p k) Wa w6 := hk6.weak (fun k e => .inl e)
          have hk5 := act_prog HPA.out.disk HPA.out.area HKA.out hk6'
          have hB6 := HPA.out.low_prog hk6'
          have CR := Lib.hid (rwrite_any d x.n x.B (ref_stays HPA.out.disk HPA.out.area HPA.out.rdisk HPA.out.rarea hk6').1 (by rw [HM6.out]; omega))
          have y1' : w6.cell? ⟨wr.heap.size, 1, none⟩ = some (.int .i64 x.n) := (hk5.cell 1).trans rfl
          have y5' : w6.cell? ⟨wr.heap.size, 5, none⟩ = some (.slice A' m cc) := (hk5.cell 5).trans rfl
          have cv := run_string_of w6 36 9 5 Try.underlying36 Try.underlying5 Try.underlying9 (c := cc) ((HNB.out w6 hB6).bts hB6.size).2.1
          have HD6 := Lib.hid hd6
          have HK6 := Lib.hid hk6
          clear CB hd6 hk6 hk6' hk5 hB6 y0 y1 y2 y3 y4 y5
          go_wp2_with fail
          refine CR.out.mono ?_
          rintro e w7 ⟨rfl, hd7, hk7⟩
          have HPN := Lib.hid (HPA.out.disks HD6.out HK6.out hd7 hk7 (dput_len _ _ _))
          clear CR hd7 hk7
          go_wp2_with fail
          go_roundg (n - (j + 1))
          case measure => have := HJ.out; omega
          case rel => have := HJ.out; exact ⟨j + 1, A, (d.write x.n x.B).1, fs, p, q, by omega, by go_num, rfl, rfl, HPN⟩
      have b6 : (x.op == 6) = false := op_false o6
      by_cases o4 : x.op = 4
      · have b4 : (x.op == 4) = true := by rw [o4]; rfl
        clear o0 o1 o3 o5 o6
        have CB := Lib.hid (on_any d HPA.out.disk)
        go_wp2_with fail
        refine CB.out.mono ?_
        rintro e w6 ⟨rfl, hd6, hk6⟩
        have hk6' : DKept (fun k => DS b a k ∨ AB Wa p k) Wa w6 := hk6.weak (fun k e => .inl e)
        have CR := Lib.hid (ron_any d (ref_stays HPA.out.disk HPA.out.area HPA.out.rdisk HPA.out.rarea hk6').1)
        have HD6 := Lib.hid hd6
        have HK6 := Lib.hid hk6
        clear CB hd6 hk6 hk6' y0 y1 y2 y3 y4 y5
        go_wp2_with fail
        refine CR.out.mono ?_
        rintro e w7 ⟨rfl, hd7, hk7⟩
        have HPO := Lib.hid (HPA.out.disks HD6.out HK6.out hd7 hk7 rfl)
        clear CR hd7 hk7
        rcases dk_opens d.on w7 b a rb ra first sectors HPO.out.disk HPO.out.rdisk H1.out HPO.out.fit with ⟨hoff, co⟩ | ⟨hoff, co⟩
        · have CO := Lib.hid co
          have CRO := Lib.hid (ropen_off d.on first sectors HPO.out.rdisk H1.out HPO.out.fit hoff)
          clear co hoff
          go_wp2_with fail
          refine CO.out.mono ?_
          rintro e w8 ⟨rfl, rfl⟩
          go_wp2_with fail
          refine CRO.out.mono ?_
          rintro e w8 ⟨rfl, rfl⟩
          go_wp2_with fail
          go_roundg (n - (j + 1))
          case measure => have := HJ.out; omega
          case rel => have := HJ.out; exact ⟨j + 1, A, (d.on), fs, p, q, by omega, by go_num, rfl, rfl, HPO⟩
        · have CO := Lib.hid co
          have h64 := (disk_len HPO.out.disk).2
          have hsk := scan_keeps (d.on).S (sectors + 1) ⟨(d.on).lives, first, sectors, 0, [], 0⟩ h64 HPO.out.fit (Nat.zero_le _)
          have HSK := Lib.hid hsk
          have H64 := Lib.hid h64
          have HOFF := Lib.hid hoff
          clear co hoff h64 hsk
          go_wp2_with fail
          refine CO.out.mono ?_
          rintro e w8 ⟨p8, rfl, ha8, hb8⟩
          have CRO := Lib.hid (ropen_any d.on first sectors (HPO.out.rdisk.below hb8) H64.out H1.out HPO.out.fit HOFF.out)
          have HA8 := Lib.hid ha8
          have HB8 := Lib.hid hb8
          clear CO ha8 hb8
          go_wp2_with fail
          refine CRO.out.mono ?_
          rintro e w9 ⟨q9, fs9, rfl, hra9, hsm9, hb9⟩
          have HPN : Hid (PL w w9 b a rb ra p8 q9 first sectors (scanA (d.on).S ⟨(d.on).lives, first, sectors, 0, [], 0⟩) (d.on) fs9) := Lib.hid (by
            have h7 := (HPO.out.later HB8.out).later hb9
            exact ⟨h7.disk, h7.rdisk, (HA8.out.below hb9).base HPO.out.below.size, hra9.base (Nat.le_trans HPO.out.below.size HB8.out.size), hsm9, HSK.out.1, HSK.out.2.1, by have h1 := HSK.out.2.2; have h2 := HSK.out.2.1; exact Nat.le_trans h1 (by rw [show (scanA (d.on).S ⟨(d.on).lives, first, sectors, 0, [], 0⟩).sectors = sectors from h2]; exact Nat.le_refl _), h7.fit, h7.below, h7.lb, h7.la, h7.lrb, h7.lra⟩)
          generalize scanA (d.on).S ⟨(d.on).lives, first, sectors, 0, [], 0⟩ = Ar9 at *
          clear CRO hra9 hsm9 hb9 HA8 HB8 HSK H64 HOFF
          go_wp2_with fail
          have CS := Lib.hid (same_any5 HPN.out.area HPN.out.rarea HPN.out.same HPN.out.use (by have := HPN.out.sec; omega))
          go_wp2_with fail
          refine CS.out.mono ?_
          rintro e ws ⟨rfl, hbs⟩
          have HPS := Lib.hid (HPN.out.later hbs)
          clear CS hbs
          go_wp2_with fail
          go_roundg (n - (j + 1))
          case measure => have := HJ.out; omega
          case rel => have := HJ.out; exact ⟨j + 1, Ar9, (d.on), fs9, p8, q9, by omega, by go_num, rfl, rfl, HPS⟩
      · have b4 : (x.op == 4) = false := op_false o4
        clear o0 o1 o3 o5 o6
        have HPO := HPA
        obtain ⟨w7, hw7⟩ : ∃ w7 : World, w7 = Wa := ⟨_, rfl⟩
        rw [← hw7] at HPO y0 y1 y2 y3 y4 y5 ⊢
        clear hw7
        rcases dk_opens d w7 b a rb ra first sectors HPO.out.disk HPO.out.rdisk H1.out HPO.out.fit with ⟨hoff, co⟩ | ⟨hoff, co⟩
        · have CO := Lib.hid co
          have CRO := Lib.hid (ropen_off d first sectors HPO.out.rdisk H1.out HPO.out.fit hoff)
          clear co hoff
          go_wp2_with fail
          refine CO.out.mono ?_
          rintro e w8 ⟨rfl, rfl⟩
          go_wp2_with fail
          refine CRO.out.mono ?_
          rintro e w8 ⟨rfl, rfl⟩
          go_wp2_with fail
          go_roundg (n - (j + 1))
          case measure => have := HJ.out; omega
          case rel => have := HJ.out; exact ⟨j + 1, A, (d), fs, p, q, by omega, by go_num, rfl, rfl, HPO⟩
        · have CO := Lib.hid co
          have h64 := (disk_len HPO.out.disk).2
          have hsk := scan_keeps (d).S (sectors + 1) ⟨(d).lives, first, sectors, 0, [], 0⟩ h64 HPO.out.fit (Nat.zero_le _)
          have HSK := Lib.hid hsk
          have H64 := Lib.hid h64
          have HOFF := Lib.hid hoff
          clear co hoff h64 hsk
          go_wp2_with fail
          refine CO.out.mono ?_
          rintro e w8 ⟨p8, rfl, ha8, hb8⟩
          have CRO := Lib.hid (ropen_any d first sectors (HPO.out.rdisk.below hb8) H64.out H1.out HPO.out.fit HOFF.out)
          have HA8 := Lib.hid ha8
          have HB8 := Lib.hid hb8
          clear CO ha8 hb8
          go_wp2_with fail
          refine CRO.out.mono ?_
          rintro e w9 ⟨q9, fs9, rfl, hra9, hsm9, hb9⟩
          have HPN : Hid (PL w w9 b a rb ra p8 q9 first sectors (scanA (d).S ⟨(d).lives, first, sectors, 0, [], 0⟩) (d) fs9) := Lib.hid (by
            have h7 := (HPO.out.later HB8.out).later hb9
            exact ⟨h7.disk, h7.rdisk, (HA8.out.below hb9).base HPO.out.below.size, hra9.base (Nat.le_trans HPO.out.below.size HB8.out.size), hsm9, HSK.out.1, HSK.out.2.1, by have h1 := HSK.out.2.2; have h2 := HSK.out.2.1; exact Nat.le_trans h1 (by rw [show (scanA (d).S ⟨(d).lives, first, sectors, 0, [], 0⟩).sectors = sectors from h2]; exact Nat.le_refl _), h7.fit, h7.below, h7.lb, h7.la, h7.lrb, h7.lra⟩)
          generalize scanA (d).S ⟨(d).lives, first, sectors, 0, [], 0⟩ = Ar9 at *
          clear CRO hra9 hsm9 hb9 HA8 HB8 HSK H64 HOFF
          go_wp2_with fail
          have CS := Lib.hid (same_any5 HPN.out.area HPN.out.rarea HPN.out.same HPN.out.use (by have := HPN.out.sec; omega))
          go_wp2_with fail
          refine CS.out.mono ?_
          rintro e ws ⟨rfl, hbs⟩
          have HPS := Lib.hid (HPN.out.later hbs)
          clear CS hbs
          go_wp2_with fail
          go_roundg (n - (j + 1))
          case measure => have := HJ.out; omega
          case rel => have := HJ.out; exact ⟨j + 1, Ar9, (d), fs9, p8, q9, by omega, by go_num, rfl, rfl, HPS⟩
    · obtain rfl : j = n := by have := HJ.out; omega
      go_wp2
      go_ret
      exact ⟨rfl, HPL.out.below⟩
end
end Go.Proofs.Ytlbikfamjogpnaa
end

/- FramePlays answers true, whatever comes in. Conditions: two ints, a slice of calls that reads. -/
section
namespace Go.Proofs.Ytlbikfamjogpnaa
open Go.RowKit
set_option linter.unusedVariables false
set_option linter.unusedSimpArgs false
section
variable {w : World} {A0 : Option Addr} {n c : Nat} {L : List Ac5}
set_option maxRecDepth 100000 in
set_option maxHeartbeats 4000000 in
theorem plays5_no (first sectors : Int) (h1 : -9223372036854775808 ≤ sectors) (h2 : sectors ≤ 9223372036854775807) (h3 : first ≤ 9223372036854775807) (hno : first < 0 ∨ sectors < 1 ∨ 24 < first ∨ 24 - first < sectors) :
    Calls Try.prog 5 #[.int .i64 first, .int .i64 sectors, .slice A0 n c] w fun e w' => e = .returned (.bool true) ∧ Below w.heap.size w w' := by
  have HNO := Lib.hid hno
  clear hno
  go_enter Try.func5, Try.ntmps5
  go_wp2_with fail
  refine (awake5 w).mono ?_
  rintro e w1 ⟨rfl, hB1⟩
  go_wp2_with fail
  refine (new_ok 24 w1 (by omega) (by omega)).mono ?_
  rintro e w2 ⟨b, a, rfl, hd2, hb, ha, hb2⟩
  have HB2 := Lib.hid (hB1.trans (hb2.mono hB1.size))
  clear hb ha hb2 hB1
  go_wp2_with fail
  refine (newdisk_any 24 (by omega) (by omega) w2).mono ?_
  rintro e w3 ⟨rb, ra, rfl, hrd3, hrb, hra, hb3⟩
  have CO := Lib.hid (open_arg (Dk.new 24) first sectors (hd2.below hb3) h1 h2 h3 HNO.out)
  have CR := Lib.hid (ropen_arg (Dk.new 24) first sectors hrd3 h1 h2 h3 HNO.out)
  have HB3 := Lib.hid (HB2.out.trans (hb3.mono HB2.out.size))
  clear hrb hra hb3 hd2 hrd3
  go_wp2_with fail
  refine CO.out.mono ?_
  rintro e w4 ⟨rfl, rfl⟩
  go_wp2_with fail
  refine CR.out.mono ?_
  rintro e w4 ⟨rfl, rfl⟩
  go_wp2_with fail
  go_ret
  exact ⟨rfl, HB3.out⟩
set_option maxRecDepth 100000 in
set_option maxHeartbeats 4000000 in
theorem plays5_wide (first sectors : Nat) (h1 : 1 ≤ sectors) (hfit : first + sectors ≤ 24) (hn : 60 < n) (hc : n ≤ c) (hcm : c ≤ maxLen) :
    Calls Try.prog 5 #[.int .i64 (first : Int), .int .i64 (sectors : Int), .slice A0 n c] w fun e w' => e = .returned (.bool true) ∧ Below w.heap.size w w' := by
  have H1 := Lib.hid h1
  unfold maxLen at hcm
  go_enter Try.func5, Try.ntmps5
  go_wp2_with fail
  refine (awake5 w).mono ?_
  rintro e w1 ⟨rfl, hB1⟩
  go_wp2_with fail
  refine (new_ok 24 w1 (by omega) (by omega)).mono ?_
  rintro e w2 ⟨b, a, rfl, hd2, hb, ha, hb2⟩
  have HB2 := Lib.hid (hB1.trans (hb2.mono hB1.size))
  clear hb ha hb2 hB1
  go_wp2_with fail
  refine (newdisk_any 24 (by omega) (by omega) w2).mono ?_
  rintro e w3 ⟨rb, ra, rfl, hrd3, hrb, hra, hb3⟩
  have hd3 := hd2.below hb3
  have H64 := Lib.hid (disk_len hd3).2
  have CO := Lib.hid (open_any (Dk.new 24) first sectors hd3 h1 (by show first + sectors ≤ 24; exact hfit) rfl)
  have HB3 := Lib.hid (HB2.out.trans (hb3.mono HB2.out.size))
  have HRD3 := Lib.hid hrd3
  clear hrb hra hb3 hd2 hrd3 hd3 h1
  go_wp2_with fail
  refine CO.out.mono ?_
  rintro e w4 ⟨p, rfl, ha4, hb4⟩
  have CRO := Lib.hid (ropen_any (Dk.new 24) first sectors (HRD3.out.below hb4) H64.out H1.out (by show first + sectors ≤ 24; exact hfit) rfl)
  have HB4 := Lib.hid (HB3.out.trans (hb4.mono HB3.out.size))
  clear CO ha4 hb4
  go_wp2_with fail
  refine CRO.out.mono ?_
  rintro e w5 ⟨q, fs0, rfl, -, -, hb5⟩
  have HB5 := Lib.hid (HB4.out.trans (hb5.mono HB4.out.size))
  have g60 : decide (60 < n) = true := decide_eq_true hn
  have g60' : decide ((60 : Int) < (n : Int)) = true := decide_eq_true (by omega)
  clear CRO hb5
  go_wp2_with fail
  go_ret
  exact ⟨rfl, HB5.out⟩
theorem framePlays_all (first sectors : Int) (w0 : (Lit.int .i64 first).wf = true) (w1 : (Lit.int .i64 sectors).wf = true) (h : n ≤ c ∧ c ≤ maxLen ∧ Acts5At w w.heap.size A0 n L) :
    Calls Try.prog 5 #[.int .i64 first, .int .i64 sectors, .slice A0 n c] w fun e w' => e = .returned (.bool true) ∧ Below w.heap.size w w' := by
  have b0 := wf_i64b w0
  have b1 := wf_i64b w1
  by_cases hno : first < 0 ∨ sectors < 1 ∨ 24 < first ∨ 24 - first < sectors
  · exact plays5_no first sectors b1.1 b1.2 b0.2 hno
  · obtain ⟨f, rfl⟩ := Int.eq_ofNat_of_zero_le (show 0 ≤ first by omega)
    obtain ⟨s, rfl⟩ := Int.eq_ofNat_of_zero_le (show 0 ≤ sectors by omega)
    by_cases hn : 60 < n
    · exact plays5_wide f s (by omega) (by omega) hn h.1 h.2.1
    · exact plays5_main f s (by omega) (by omega) h.2.2 (by omega) h.1 h.2.1
end
end Go.Proofs.Ytlbikfamjogpnaa
end
