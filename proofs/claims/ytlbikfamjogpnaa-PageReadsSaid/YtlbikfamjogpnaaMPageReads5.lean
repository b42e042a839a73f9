/- The texts of this proof, joined: contracts of the functions that the law reaches, and what they come to in plain Lean. Conditions: those that each theorem names. -/
import Derived.Test.YtlbikfamjogpnaaMPageReads4
import Derived.Test.YtlbikfamjogpnaaMPageReads3
import Derived.Deep.DeepCutAuto

/- The law's own 'awake' over page answers true. Conditions: none. -/
section
namespace Go.Proofs.Ytlbikfamjogpnaa
set_option linter.unusedSimpArgs false
set_option linter.unusedVariables false
open Go.RowKit Go.Proofs.YtlbikfamjogpnaaW.PrintWords Go.Proofs.Ytlbikfamjogpnaa.QPage
theorem row_blk {w : World} {g : Nat} {s : ByteArray} (h : Blk w g 9 #[.string s]) : Kd.C Kd.string w (some ⟨g, 0, none⟩) 1 [s] := by
  refine C_of_reads (h1 := fun _ => rfl) (B := w.heap.size) (n := 1) ?_ (by omega)
  refine ⟨by simp, fun _ => ⟨⟨g, 0, none⟩, rfl, h.lt, fun j u hu => ?_⟩⟩
  cases j with
  | zero => simp at hu; subst hu; exact h.cell 0
  | succ j => simp at hu

theorem u64_blk {w : World} {g : Nat} (h : Blk w g 32 #[.int .u64 1, .int .u64 2]) : Kd.C (Kd.int .u64) w (some ⟨g, 0, none⟩) 2 [1, 2] := by
  refine C_of_reads (h1 := fun _ => rfl) (B := w.heap.size) (n := 2) ?_ (by omega)
  refine ⟨by simp, fun _ => ⟨⟨g, 0, none⟩, rfl, h.lt, fun j u hu => ?_⟩⟩
  match j with
  | 0 => simp at hu; subst hu; exact h.cell 0
  | 1 => simp at hu; subst hu; exact h.cell 1
  | j + 2 => simp at hu
theorem kid_at {W : World} {g h : Nat} (k0 : W.heap[g]? = some (.cells #[.string sm] 9)) (k1 : W.heap[h]? = some (.cells #[.int .u64 1, .int .u64 2] 32)) : ∀ V, Later W V → Calls Try.prog 48 #[.agg #[.bool false, .slice (some ⟨g, 0, none⟩) 1 1, .slice none 0 0, .slice (some ⟨h, 0, none⟩) 2 2], .string sn] V fun e w' => e = .returned (.int .i64 1) ∧ Below V.heap.size V w' := fun V hV => by
  have hp : PgR W (some ⟨g, 0, none⟩) 1 none 0 (some ⟨h, 0, none⟩) 2 pM := ⟨row_blk k0, Nat.le_refl _, Kd.C_nil _ _, Nat.le_refl _, u64_blk k1, Nat.le_refl _⟩
  have h := kid_any sn (hp.below hV) ⟨by decide, by decide, by decide⟩ r_M
  rw [kid_M] at h
  exact h

set_option maxHeartbeats 8000000 in
set_option maxRecDepth 100000 in
theorem awake6 (w : World) : Calls Try.prog 35 #[] w fun e w' => e = .returned (.bool true) ∧ Below w.heap.size w w' := by
  obtain ⟨W1, hW1⟩ : ∃ W1, W1 = ((w.alloc (.cells #[.string sa] 9)).alloc (.cells #[.string s1] 9)).alloc (.cells #[.bool true, .slice (some ⟨w.heap.size, 0, none⟩) 1 1, .slice (some ⟨w.heap.size + 1, 0, none⟩) 1 1, .slice none 0 0] 67) := ⟨_, rfl⟩
  have hB1 : Below w.heap.size w W1 := by rw [hW1]; exact (((Below.refl _ _).alloc (Nat.le_refl _) _).alloc (by simp) _).alloc (by simp; omega) _
  have k0 : Blk W1 w.heap.size 9 #[.string sa] := by rw [hW1]; exact ((Blk.new _ _ _).alloc _).alloc _
  have k1 : Blk W1 (w.heap.size + 1) 9 #[.string s1] := by
    have := (Blk.new (w.alloc (.cells #[.string sa] 9)) 9 #[.string s1]).alloc (.cells #[.bool true, .slice (some ⟨w.heap.size, 0, none⟩) 1 1, .slice (some ⟨w.heap.size + 1, 0, none⟩) 1 1, .slice none 0 0] 67)
    rw [← hW1] at this
    simpa using this
  have k2 : Blk W1 (w.heap.size + 2) 67 #[.bool true, .slice (some ⟨w.heap.size, 0, none⟩) 1 1, .slice (some ⟨w.heap.size + 1, 0, none⟩) 1 1, .slice none 0 0] := by
    have := Blk.new ((w.alloc (.cells #[.string sa] 9)).alloc (.cells #[.string s1] 9)) 67 #[.bool true, .slice (some ⟨w.heap.size, 0, none⟩) 1 1, .slice (some ⟨w.heap.size + 1, 0, none⟩) 1 1, .slice none 0 0]
    rw [← hW1] at this
    simpa using this
  have hp1 : PgR W1 (some ⟨w.heap.size, 0, none⟩) 1 (some ⟨w.heap.size + 1, 0, none⟩) 1 none 0 pP := ⟨row_blk k0, Nat.le_refl _, row_blk k1, Nat.le_refl _, Kd.C_nil _ _, Nat.le_refl _⟩
  have HW1 := Lib.hid hW1
  have HB1 := Lib.hid hB1
  have HP1 := Lib.hid hp1
  have HK1 := Lib.hid k2
  obtain ⟨q0, q1, q2, q3⟩ := cells4 k2
  have CE := encode_any hp1 (small_P.enc nums_nil)
  rw [enc_P] at CE
  have CE := Lib.hid CE
  clear hW1 hB1 k0 k1 k2 hp1
  go_enter Try.func35, Try.ntmps35
  go_upto_region 2 with fail
  have e1 := HW1.out
  unfold sa s1 at e1
  rw [← e1]
  clear e1
  go_wp2_with fail
  refine CE.out.mono ?_
  rintro e w2 ⟨hb2, Ae, ce, rfl, hbt⟩
  have CD := decode_any hbt (by decide)
  have hdec : decP [76, 1, 1, 97, 1, 49] = some pP := by
    have := dec_enc good_P nums_nil (by decide) (fun s hs => by have := (good_key_size good_P s hs).2; omega) (fun s hs => by have := good_val_size good_P s hs; omega)
    rw [enc_P] at this
    exact this
  have HDEC := Lib.hid hdec
  have HB2 := Lib.hid (HB1.out.trans (hb2.mono HB1.out.size))
  have HP2 := Lib.hid (HP1.out.below hb2)
  have HK2 := Lib.hid (HK1.out.below hb2 HK1.out.lt)
  have HBT := Lib.hid hbt
  have CD := Lib.hid CD
  clear hb2 hbt hdec CE q0 q1 q2 q3 HP1 HK1 HW1
  go_wp2_with fail
  refine CD.out.mono ?_
  rintro e w3 ⟨hb3, hm⟩
  rw [HDEC.out] at hm
  obtain ⟨F1, f1, F2, f2, F3, f3, he, hq3⟩ := hm
  replace he : e = .returned (.tuple #[.agg #[.bool true, .slice F1 1 f1, .slice F2 1 f2, .slice F3 0 f3], .int .i64 0]) := he
  subst he
  obtain ⟨W4, hW4⟩ : ∃ W4, W4 = w3.alloc (.cells #[.bool true, .slice F1 1 f1, .slice F2 1 f2, .slice F3 0 f3] 67) := ⟨_, rfl⟩
  have hb4 : Below w2.heap.size w2 W4 := by rw [hW4]; exact hb3.alloc hb3.size _
  have HB4 := Lib.hid (HB2.out.trans (hb4.mono HB2.out.size))
  have HP4 := Lib.hid (HP2.out.below hb4)
  have HK4 := Lib.hid (HK2.out.below hb4 HK2.out.lt)
  have HBT4 := Lib.hid (HBT.out.below hb4)
  have HF4 : Hid (PgR W4 F1 f1 F2 f2 F3 f3 pP) := Lib.hid (by rw [hW4]; exact hq3.below ((Below.refl _ _).alloc (Nat.le_refl _) _))
  have HQ4 : Hid (Blk W4 w3.heap.size 67 #[.bool true, .slice F1 1 f1, .slice F2 1 f2, .slice F3 0 f3]) := Lib.hid (by rw [hW4]; exact Blk.new _ _ _)
  have HW4 := Lib.hid hW4
  have CF := find_any sa HP4.out small_P.few r_P
  rw [show findN pP.keys sa = 0 from f_Pa, show thereB pP.keys sa = true from t_Pa] at CF
  have CF := Lib.hid CF
  obtain ⟨q0, q1, q2, q3⟩ := cells4 HK4.out
  clear hW4 hb3 hb4 hq3 HB2 HP2 HK2 HBT CD
  go_upto_region 4 with fail
  rw [← HW4.out]
  go_wp2_with fail
  refine CF.out.mono ?_
  rintro e w5 ⟨rfl, hb5⟩
  have HB5 := Lib.hid (HB4.out.trans (hb5.mono HB4.out.size))
  have HP5 := Lib.hid (HP4.out.below hb5)
  have HK5 := Lib.hid (HK4.out.below hb5 HK4.out.lt)
  have HBT5 := Lib.hid (HBT4.out.below hb5)
  have HF5 := Lib.hid (HF4.out.below hb5)
  have HQ5 := Lib.hid (HQ4.out.below hb5 HQ4.out.lt)
  have CU := put_any sb s2 HP5.out small_P.few r_P (fun _ => rfl)
  rw [put_P] at CU
  have CU := Lib.hid CU
  obtain ⟨q0, q1, q2, q3⟩ := cells4 HK5.out
  clear hb5 HB4 HP4 HK4 HBT4 HF4 HQ4 HW4 CF
  go_wp2_with fail
  refine CU.out.mono ?_
  rintro e w6 ⟨hb6, G1, g1, G2, g2, G3, g3, he, hq6⟩
  replace he : e = .returned (.agg #[.bool true, .slice G1 2 g1, .slice G2 2 g2, .slice G3 0 g3]) := he
  subst he
  obtain ⟨W7, hW7⟩ : ∃ W7, W7 = w6.alloc (.cells #[.bool true, .slice G1 2 g1, .slice G2 2 g2, .slice G3 0 g3] 67) := ⟨_, rfl⟩
  have hb7 : Below w5.heap.size w5 W7 := by rw [hW7]; exact hb6.alloc hb6.size _
  have HB7 := Lib.hid (HB5.out.trans (hb7.mono HB5.out.size))
  have HP7 := Lib.hid (HP5.out.below hb7)
  have HK7 := Lib.hid (HK5.out.below hb7 HK5.out.lt)
  have HBT7 := Lib.hid (HBT5.out.below hb7)
  have HF7 := Lib.hid (HF5.out.below hb7)
  have HQ7 := Lib.hid (HQ5.out.below hb7 HQ5.out.lt)
  have HR7 : Hid (PgR W7 G1 g1 G2 g2 G3 g3 pR) := Lib.hid (by rw [hW7]; exact hq6.below ((Below.refl _ _).alloc (Nat.le_refl _) _))
  have HH7 : Hid (Blk W7 w6.heap.size 67 #[.bool true, .slice G1 2 g1, .slice G2 2 g2, .slice G3 0 g3]) := Lib.hid (by rw [hW7]; exact Blk.new _ _ _)
  have HW7 := Lib.hid hW7
  have CX := drop_any sa HR7.out small_R.few r_R (fun _ => rfl)
  rw [drop_R] at CX
  have CX := Lib.hid CX
  obtain ⟨q0, q1, q2, q3⟩ := cells4 HH7.out
  clear hW7 hb6 hb7 hq6 HB5 HP5 HK5 HBT5 HF5 HQ5 CU
  go_upto_region 6 with fail
  rw [← HW7.out]
  go_wp2_with fail
  refine CX.out.mono ?_
  rintro e w8 ⟨hb8, D1, d1, D2, d2, D3, d3, he, hq8⟩
  replace he : e = .returned (.agg #[.bool true, .slice D1 1 d1, .slice D2 1 d2, .slice D3 0 d3]) := he
  subst he
  obtain ⟨W9, hW9⟩ : ∃ W9, W9 = w8.alloc (.cells #[.bool true, .slice D1 1 d1, .slice D2 1 d2, .slice D3 0 d3] 67) := ⟨_, rfl⟩
  have hb9 : Below W7.heap.size W7 W9 := by rw [hW9]; exact hb8.alloc hb8.size _
  have HB9 := Lib.hid (HB7.out.trans (hb9.mono HB7.out.size))
  have HP9 := Lib.hid (HP7.out.below hb9)
  have HK9 := Lib.hid (HK7.out.below hb9 HK7.out.lt)
  have HBT9 := Lib.hid (HBT7.out.below hb9)
  have HF9 := Lib.hid (HF7.out.below hb9)
  have HQ9 := Lib.hid (HQ7.out.below hb9 HQ7.out.lt)
  have HR9 := Lib.hid (HR7.out.below hb9)
  have HH9 := Lib.hid (HH7.out.below hb9 HH7.out.lt)
  have HS9 : Hid (PgR W9 D1 d1 D2 d2 D3 d3 pS) := Lib.hid (by rw [hW9]; exact hq8.below ((Below.refl _ _).alloc (Nat.le_refl _) _))
  have HJ9 : Hid (Blk W9 w8.heap.size 67 #[.bool true, .slice D1 1 d1, .slice D2 1 d2, .slice D3 0 d3]) := Lib.hid (by rw [hW9]; exact Blk.new _ _ _)
  have HW9 := Lib.hid hW9
  have CSp : Calls Try.prog 37 #[.agg #[.bool true, .slice G1 2 g1, .slice G2 2 g2, .slice G3 0 g3]] W9 (SplitPost W9 pP pS sb) := by
    have h := split_leaf (ks := [sa, sb]) (vs := [s1, s2]) (ns := []) HR9.out small_R rfl (Nat.le_refl _)
    rw [show splitAt ⟨true, [sa, sb], [s1, s2], []⟩ = 1 from split_R] at h
    exact h
  have CSp := Lib.hid CSp
  obtain ⟨q0, q1, q2, q3⟩ := cells4 HH9.out
  clear hW9 hb8 hb9 hq8 HB7 HP7 HK7 HBT7 HF7 HQ7 HR7 HH7 HW7 CX
  go_upto_region 7 with fail
  rw [← HW9.out]
  go_wp2_with fail
  refine CSp.out.mono ?_
  rintro e w10 ⟨hb10, X1, x1, X2, x2, X3, x3, Y1, y1, Y2, y2, Y3, y3, he, hx10, hy10⟩
  replace he : e = .returned (.tuple #[.agg #[.bool true, .slice X1 1 x1, .slice X2 1 x2, .slice X3 0 x3], .string ⟨#[98]⟩, .agg #[.bool true, .slice Y1 1 y1, .slice Y2 1 y2, .slice Y3 0 y3]]) := he
  subst he
  have HB10 := Lib.hid (HB9.out.trans (hb10.mono HB9.out.size))
  have HP10 := Lib.hid (HP9.out.below hb10)
  have HK10 := Lib.hid (HK9.out.below hb10 HK9.out.lt)
  have HBT10 := Lib.hid (HBT9.out.below hb10)
  have HF10 := Lib.hid (HF9.out.below hb10)
  have HQ10 := Lib.hid (HQ9.out.below hb10 HQ9.out.lt)
  have HH10 := Lib.hid (HH9.out.below hb10 HH9.out.lt)
  have HS10 := Lib.hid (HS9.out.below hb10)
  have HJ10 := Lib.hid (HJ9.out.below hb10 HJ9.out.lt)
  obtain ⟨W11, hW11⟩ : ∃ W11, W11 = (w10.alloc (.cells #[.bool true, .slice X1 1 x1, .slice X2 1 x2, .slice X3 0 x3] 67)).alloc (.cells #[.bool true, .slice Y1 1 y1, .slice Y2 1 y2, .slice Y3 0 y3] 67) := ⟨_, rfl⟩
  have hb11 : Below w10.heap.size w10 W11 := by rw [hW11]; exact ((Below.refl _ _).alloc (Nat.le_refl _) _).alloc (by simp) _
  have kx : Blk W11 w10.heap.size 67 #[.bool true, .slice X1 1 x1, .slice X2 1 x2, .slice X3 0 x3] := by rw [hW11]; exact (Blk.new _ _ _).alloc _
  have ky : Blk W11 (w10.heap.size + 1) 67 #[.bool true, .slice Y1 1 y1, .slice Y2 1 y2, .slice Y3 0 y3] := by
    have := Blk.new (w10.alloc (.cells #[.bool true, .slice X1 1 x1, .slice X2 1 x2, .slice X3 0 x3] 67)) 67 #[.bool true, .slice Y1 1 y1, .slice Y2 1 y2, .slice Y3 0 y3]
    rw [← hW11] at this
    simpa using this
  obtain ⟨ad, rfl, had⟩ := str_at (HS10.out.below hb11).k (i := 0) (by decide)
  have HB11 := Lib.hid (HB10.out.trans (hb11.mono HB10.out.size))
  have HP11 := Lib.hid (HP10.out.below hb11)
  have HK11 := Lib.hid (HK10.out.below hb11 HK10.out.lt)
  have HBT11 := Lib.hid (HBT10.out.below hb11)
  have HF11 := Lib.hid (HF10.out.below hb11)
  have HQ11 := Lib.hid (HQ10.out.below hb11 HQ10.out.lt)
  have HH11 := Lib.hid (HH10.out.below hb11 HH10.out.lt)
  have HJ11 := Lib.hid (HJ10.out.below hb11 HJ10.out.lt)
  have HX11 := Lib.hid kx
  have HY11 := Lib.hid ky
  have HAD := Lib.hid had
  have HW11 := Lib.hid hW11
  have HS : Hid (∀ w', Below W11.heap.size W11 w' → (convert 36 9 (.slice Ae 6 ce)).run Try.prog w' = .ok (.string ⟨#[76, 1, 1, 97, 1, 49]⟩) w' ∧
      w'.cell? ⟨w.heap.size + 2, 0, none⟩ = some (.bool true) ∧ w'.cell? ⟨w.heap.size + 2, 1, none⟩ = some (.slice (some ⟨w.heap.size, 0, none⟩) 1 1) ∧ w'.cell? ⟨w.heap.size + 2, 2, none⟩ = some (.slice (some ⟨w.heap.size + 1, 0, none⟩) 1 1) ∧ w'.cell? ⟨w.heap.size + 2, 3, none⟩ = some (.slice none 0 0) ∧
      w'.cell? ⟨w3.heap.size, 0, none⟩ = some (.bool true) ∧ w'.cell? ⟨w3.heap.size, 1, none⟩ = some (.slice F1 1 f1) ∧ w'.cell? ⟨w3.heap.size, 2, none⟩ = some (.slice F2 1 f2) ∧ w'.cell? ⟨w3.heap.size, 3, none⟩ = some (.slice F3 0 f3) ∧
      w'.cell? ⟨w6.heap.size, 1, none⟩ = some (.slice G1 2 g1) ∧ w'.cell? ⟨w8.heap.size, 1, none⟩ = some (.slice (some ad) 1 d1) ∧ w'.cell? ad = some (.string ⟨#[98]⟩) ∧ w'.cell? ⟨w10.heap.size, 1, none⟩ = some (.slice X1 1 x1) ∧ w'.cell? ⟨w10.heap.size + 1, 1, none⟩ = some (.slice Y1 1 y1)) := Lib.hid (fun w' hb => by
    obtain ⟨a0, a1, a2, a3⟩ := cells4 (HK11.out.below hb HK11.out.lt)
    obtain ⟨b0, b1, b2, b3⟩ := cells4 (HQ11.out.below hb HQ11.out.lt)
    obtain ⟨-, c1, -, -⟩ := cells4 (HH11.out.below hb HH11.out.lt)
    obtain ⟨-, j1, -, -⟩ := cells4 (HJ11.out.below hb HJ11.out.lt)
    obtain ⟨-, m1, -, -⟩ := cells4 (HX11.out.below hb HX11.out.lt)
    obtain ⟨-, n1, -, -⟩ := cells4 (HY11.out.below hb HY11.out.lt)
    exact ⟨run_string_of w' 36 9 5 Try.underlying36 Try.underlying5 Try.underlying9 (c := ce) (HBT11.out.below hb).2.1, a0, a1, a2, a3, b0, b1, b2, b3, c1, j1, HAD.out w' hb, m1, n1⟩)
  have H0 : Hid (Below W11.heap.size W11 W11.drew) := Lib.hid (below_drew (Below.refl _ _))
  have CO : Hid (∀ w1, Later W11 w1 → Calls Try.prog 40 #[.agg #[.bool true, .slice (some ⟨w.heap.size, 0, none⟩) 1 1, .slice (some ⟨w.heap.size + 1, 0, none⟩) 1 1, .slice none 0 0]] w1 fun e w' => Below w1.heap.size w1 w' ∧ ∃ E1 d1 E2 d2 E3 d3, e = .returned (.agg #[.bool true, .slice E1 1 d1, .slice E2 1 d2, .slice E3 0 d3]) ∧ PgR w' E1 d1 E2 d2 E3 d3 pP) := Lib.hid (fun w1 hb => by
    refine (own_any (HP11.out.below hb) small_P.few).mono ?_
    rintro e w' ⟨h1, E1, d1, E2, d2, E3, d3, rfl, hq⟩
    exact ⟨h1, E1, d1, E2, d2, E3, d3, rfl, hq⟩)
  have CS : Hid (∀ w1, Later W11 w1 → ∀ E1 d1 E2 d2 E3 d3, PgR w1 E1 d1 E2 d2 E3 d3 pP → Calls Try.prog 45 #[.agg #[.bool true, .slice F1 1 f1, .slice F2 1 f2, .slice F3 0 f3], .agg #[.bool true, .slice E1 1 d1, .slice E2 1 d2, .slice E3 0 d3]] w1 fun e w' => e = .returned (.bool true) ∧ Below w1.heap.size w1 w') := Lib.hid (fun w1 hb E1 d1 E2 d2 E3 d3 hq => by
    have := same_any (HF11.out.below hb) hq small_P.few
    exact this.mono fun e w' h => ⟨h.1, h.2⟩)
  have CG : Hid (∀ w1, Later W11 w1 → Calls Try.prog 38 #[.agg #[.bool true, .slice (some ⟨w.heap.size, 0, none⟩) 1 1, .slice (some ⟨w.heap.size + 1, 0, none⟩) 1 1, .slice none 0 0]] w1 fun e w' => e = .returned (.bool true) ∧ Below w1.heap.size w1 w') := Lib.hid (fun w1 hb => by
    have := good_any (HP11.out.below hb) small_P.fits
    rw [good_P] at this
    exact this)
  have CY : Hid (∀ w1, Later W11 w1 → Calls Try.prog 44 #[.agg #[.bool true, .slice (some ⟨w.heap.size, 0, none⟩) 1 1, .slice (some ⟨w.heap.size + 1, 0, none⟩) 1 1, .slice none 0 0]] w1 fun e w' => e = .returned (.int .i64 6) ∧ Below w1.heap.size w1 w') := Lib.hid (fun w1 hb => by
    have := bytes_any (HP11.out.below hb) (small_P.enc nums_nil)
    rw [enc_P] at this
    exact this)
  clear hW11 hb11 kx ky had hx10 hy10 HB10 HP10 HK10 HBT10 HF10 HQ10 HH10 HS10 HJ10 H0
  go_upto_region 8 with fail
  rw [← HW11.out]
  dsimp only [List.append]
  have HL0 := Lib.hid (Later.refl W11)
  have ZF0 : Hid (∀ s, W11.heap.size ≤ s → W11.heap.size ≤ s) := Lib.hid (fun _ h => h)
  have ZS0 : Hid (∀ V, Later W11 V → (Later W11) V) := Lib.hid (fun _ h => h)
  refine walk_start 72 (S := Later W11) (T := Later W11) (by kernel_rfl) (fun r => W11.heap.size ≤ r) (fun _ h => h.size) ZS0.out (closed_later _) (Later.refl _).drew ?_
  refine walk_take (i := 0) (d := some 37) (v := ?_) rfl rfl (by kernel_rfl) (fun _ _ _ h => h) (Or.inl ⟨by rfl, fun V hV => ?_⟩) ?_
  rotate_left 1
  · (clear hV; go_simp; (try with_reducible rfl))
  try simp only [Act.put, List.setIfInBounds_toArray, List.set_cons_zero, List.set_cons_succ]
  refine walk_take (i := 1) (d := some 38) (v := ?_) rfl rfl (by kernel_rfl) (fun _ _ _ h => h) (Or.inl ⟨by rfl, fun V hV => ?_⟩) ?_
  rotate_left 1
  · (obtain ⟨cv, q0, q1, q2, q3, k0, k1, k2, k3, u1, v1, z1, m1, n1⟩ := HS.out V (HL0.out.trans hV); clear hV; go_simp; (try with_reducible rfl))
  try simp only [Act.put, List.setIfInBounds_toArray, List.set_cons_zero, List.set_cons_succ]
  refine walk_take (i := 2) (d := some 39) (v := ?_) rfl rfl (by kernel_rfl) (fun _ _ _ h => h) (Or.inl ⟨by rfl, fun V hV => ?_⟩) ?_
  rotate_left 1
  · (clear hV; go_simp; (try with_reducible rfl))
  try simp only [Act.put, List.setIfInBounds_toArray, List.set_cons_zero, List.set_cons_succ]
  refine walk_take (i := 3) (d := some 40) (v := ?_) rfl rfl (by kernel_rfl) (fun _ _ _ h => h) (Or.inl ⟨by rfl, fun V hV => ?_⟩) ?_
  rotate_left 1
  · (clear hV; go_simp; (try with_reducible rfl))
  try simp only [Act.put, List.setIfInBounds_toArray, List.set_cons_zero, List.set_cons_succ]
  refine walk_take (i := 4) (d := some 41) (v := ?_) rfl rfl (by kernel_rfl) (fun _ _ _ h => h) (Or.inl ⟨by rfl, fun V hV => ?_⟩) ?_
  rotate_left 1
  · (clear hV; go_simp; (try with_reducible rfl))
  try simp only [Act.put, List.setIfInBounds_toArray, List.set_cons_zero, List.set_cons_succ]
  refine walk_take (i := 5) (d := some 42) (v := ?_) rfl rfl (by kernel_rfl) (fun _ _ _ h => h) (Or.inl ⟨by rfl, fun V hV => ?_⟩) ?_
  rotate_left 1
  · (clear hV; go_simp; (try with_reducible rfl))
  try simp only [Act.put, List.setIfInBounds_toArray, List.set_cons_zero, List.set_cons_succ]
  refine walk_take (i := 6) (d := some 43) (v := ?_) rfl rfl (by kernel_rfl) (fun _ _ _ h => h) (Or.inl ⟨by rfl, fun V hV => ?_⟩) ?_
  rotate_left 1
  · (clear hV; go_simp; (try with_reducible rfl))
  try simp only [Act.put, List.setIfInBounds_toArray, List.set_cons_zero, List.set_cons_succ]
  refine walk_take (i := 7) (d := some 44) (v := ?_) rfl rfl (by kernel_rfl) (fun _ _ _ h => h) (Or.inl ⟨by rfl, fun V hV => ?_⟩) ?_
  rotate_left 1
  · (clear hV; go_simp; (try with_reducible rfl))
  try simp only [Act.put, List.setIfInBounds_toArray, List.set_cons_zero, List.set_cons_succ]
  refine walk_take (i := 8) (d := some 45) (v := ?_) rfl rfl (by kernel_rfl) (fun _ _ _ h => h) (Or.inl ⟨by rfl, fun V hV => ?_⟩) ?_
  rotate_left 1
  · (obtain ⟨cv, q0, q1, q2, q3, k0, k1, k2, k3, u1, v1, z1, m1, n1⟩ := HS.out V (HL0.out.trans hV); clear hV; go_simp; (try with_reducible rfl))
  try simp only [Act.put, List.setIfInBounds_toArray, List.set_cons_zero, List.set_cons_succ]
  refine walk_take (i := 9) (d := some 46) (v := ?_) rfl rfl (by kernel_rfl) (fun _ _ _ h => h) (Or.inl ⟨by rfl, fun V hV => ?_⟩) ?_
  rotate_left 1
  · (obtain ⟨cv, q0, q1, q2, q3, k0, k1, k2, k3, u1, v1, z1, m1, n1⟩ := HS.out V (HL0.out.trans hV); clear hV; go_simp; (try with_reducible rfl))
  try simp only [Act.put, List.setIfInBounds_toArray, List.set_cons_zero, List.set_cons_succ]
  refine walk_core 10 rfl (by kernel_rfl) (fun _ _ _ _ _ h => h) (fun V hV K hK => ?_)
  have hV0 := HL0.out.trans hV
  go_simp
  go_at_call 40
  refine (CO.out _ hV0).mono ?_
  rintro e x10 ⟨hb, E1, d1, E2, d2, E3, d3, rfl, hq12⟩
  have HQ12 := Lib.hid hq12
  clear hq12
  have HT10 := Lib.hid (hV.of hb)
  have HL1 := Lib.hid (hV0.of hb)
  have hsize := hb.size
  have hkeep := fun (r : Nat) (_ : True) (h : r < V.heap.size) => hb.block r h
  have ZF1 : Hid (∀ s, x10.heap.size ≤ s → _) := Lib.hid (fun s h => ZF0.out s (Nat.le_trans hV.size (Nat.le_trans hsize h)))
  refine hK.out _ _ (Later x10) (Later x10) _ (fun r _ h => hkeep r trivial h) (fun _ h _ => h) (fun V' h => (hV.of hb).trans h) (fun _ h => h) (fun V' h => ZF1.out _ h.size) (Later.refl _) (closed_later _) ?_
  clear hK K hV hsize hkeep hV0 hb
  try simp only [Act.put, List.setIfInBounds_toArray, List.set_cons_zero, List.set_cons_succ]
  refine walk_core 11 rfl (by kernel_rfl) (fun _ _ _ _ _ h => h) (fun V hV K hK => ?_)
  have hV0 := HL1.out.trans hV
  go_simp
  go_at_call 45
  refine (CS.out _ hV0 E1 d1 E2 d2 E3 d3 (HQ12.out.below hV)).mono ?_
  rintro e x11 ⟨rfl, hb⟩
  have HT11 := Lib.hid (hV.of hb)
  have HL2 := Lib.hid (hV0.of hb)
  have hsize := hb.size
  have hkeep := fun (r : Nat) (_ : True) (h : r < V.heap.size) => hb.block r h
  have ZF2 : Hid (∀ s, x11.heap.size ≤ s → _) := Lib.hid (fun s h => ZF1.out s (Nat.le_trans hV.size (Nat.le_trans hsize h)))
  refine hK.out _ _ (Later x11) (Later x11) _ (fun r _ h => hkeep r trivial h) (fun _ h _ => h) (fun V' h => (hV.of hb).trans h) (fun _ h => h) (fun V' h => ZF2.out _ h.size) (Later.refl _) (closed_later _) ?_
  clear hK K hV hsize hkeep hV0 hb
  try simp only [Act.put, List.setIfInBounds_toArray, List.set_cons_zero, List.set_cons_succ]
  refine walk_take (i := 12) (d := some 49) (v := ?_) rfl rfl (by kernel_rfl) (fun _ _ _ h => h) (Or.inl ⟨by rfl, fun V hV => ?_⟩) ?_
  rotate_left 1
  · (clear hV; go_simp; (try with_reducible rfl))
  try simp only [Act.put, List.setIfInBounds_toArray, List.set_cons_zero, List.set_cons_succ]
  refine walk_take (i := 13) (d := some 50) (v := ?_) rfl rfl (by kernel_rfl) (fun _ _ _ h => h) (Or.inl ⟨by rfl, fun V hV => ?_⟩) ?_
  rotate_left 1
  · (clear hV; go_simp; (try with_reducible rfl))
  try simp only [Act.put, List.setIfInBounds_toArray, List.set_cons_zero, List.set_cons_succ]
  refine walk_take (i := 14) (d := some 51) (v := ?_) rfl rfl (by kernel_rfl) (fun _ _ _ h => h) (Or.inl ⟨by rfl, fun V hV => ?_⟩) ?_
  rotate_left 1
  · (clear hV; go_simp; (try with_reducible rfl))
  try simp only [Act.put, List.setIfInBounds_toArray, List.set_cons_zero, List.set_cons_succ]
  refine walk_take (i := 15) (d := some 52) (v := ?_) rfl rfl (by kernel_rfl) (fun _ _ _ h => h) (Or.inl ⟨by rfl, fun V hV => ?_⟩) ?_
  rotate_left 1
  · (clear hV; go_simp; (try with_reducible rfl))
  try simp only [Act.put, List.setIfInBounds_toArray, List.set_cons_zero, List.set_cons_succ]
  refine walk_take (i := 16) (d := some 53) (v := ?_) rfl rfl (by kernel_rfl) (fun _ _ _ h => h) (Or.inl ⟨by rfl, fun V hV => ?_⟩) ?_
  rotate_left 1
  · (clear hV; go_simp; (try with_reducible rfl))
  try simp only [Act.put, List.setIfInBounds_toArray, List.set_cons_zero, List.set_cons_succ]
  refine walk_take (i := 17) (d := some 54) (v := ?_) rfl rfl (by kernel_rfl) (fun _ _ _ h => h) (Or.inl ⟨by rfl, fun V hV => ?_⟩) ?_
  rotate_left 1
  · (clear hV; go_simp; (try with_reducible rfl))
  try simp only [Act.put, List.setIfInBounds_toArray, List.set_cons_zero, List.set_cons_succ]
  refine walk_take (i := 18) (d := some 55) (v := ?_) rfl rfl (by kernel_rfl) (fun _ _ _ h => h) (Or.inl ⟨by rfl, fun V hV => ?_⟩) ?_
  rotate_left 1
  · (clear hV; go_simp; (try with_reducible rfl))
  try simp only [Act.put, List.setIfInBounds_toArray, List.set_cons_zero, List.set_cons_succ]
  refine walk_take (i := 19) (d := some 56) (v := ?_) rfl rfl (by kernel_rfl) (fun _ _ _ h => h) (Or.inl ⟨by rfl, fun V hV => ?_⟩) ?_
  rotate_left 1
  · (clear hV; go_simp; (try with_reducible rfl))
  try simp only [Act.put, List.setIfInBounds_toArray, List.set_cons_zero, List.set_cons_succ]
  refine walk_take (i := 20) (d := some 57) (v := ?_) rfl rfl (by kernel_rfl) (fun _ _ _ h => h) (Or.inl ⟨by rfl, fun V hV => ?_⟩) ?_
  rotate_left 1
  · (clear hV; go_simp; (try with_reducible rfl))
  try simp only [Act.put, List.setIfInBounds_toArray, List.set_cons_zero, List.set_cons_succ]
  refine walk_take (i := 21) (d := some 58) (v := ?_) rfl rfl (by kernel_rfl) (fun _ _ _ h => h) (Or.inl ⟨by rfl, fun V hV => ?_⟩) ?_
  rotate_left 1
  · (clear hV; go_simp; (try with_reducible rfl))
  try simp only [Act.put, List.setIfInBounds_toArray, List.set_cons_zero, List.set_cons_succ]
  refine walk_take (i := 22) (d := some 59) (v := ?_) rfl rfl (by kernel_rfl) (fun _ _ _ h => h) (Or.inl ⟨by rfl, fun V hV => ?_⟩) ?_
  rotate_left 1
  · (obtain ⟨cv, q0, q1, q2, q3, k0, k1, k2, k3, u1, v1, z1, m1, n1⟩ := HS.out V (HL2.out.trans hV); clear hV; go_simp; (try with_reducible rfl))
  try simp only [Act.put, List.setIfInBounds_toArray, List.set_cons_zero, List.set_cons_succ]
  refine walk_take (i := 23) (d := some 60) (v := ?_) rfl rfl (by kernel_rfl) (fun _ _ _ h => h) (Or.inl ⟨by rfl, fun V hV => ?_⟩) ?_
  rotate_left 1
  · (clear hV; go_simp; (try with_reducible rfl))
  try simp only [Act.put, List.setIfInBounds_toArray, List.set_cons_zero, List.set_cons_succ]
  refine walk_take (i := 24) (d := some 61) (v := ?_) rfl rfl (by kernel_rfl) (fun _ _ _ h => h) (Or.inl ⟨by rfl, fun V hV => ?_⟩) ?_
  rotate_left 1
  · (clear hV; go_simp; (try with_reducible rfl))
  try simp only [Act.put, List.setIfInBounds_toArray, List.set_cons_zero, List.set_cons_succ]
  refine walk_take (i := 25) (d := some 62) (v := ?_) rfl rfl (by kernel_rfl) (fun _ _ _ h => h) (Or.inl ⟨by rfl, fun V hV => ?_⟩) ?_
  rotate_left 1
  · (clear hV; go_simp; (try with_reducible rfl))
  try simp only [Act.put, List.setIfInBounds_toArray, List.set_cons_zero, List.set_cons_succ]
  refine walk_take (i := 26) (d := some 63) (v := ?_) rfl rfl (by kernel_rfl) (fun _ _ _ h => h) (Or.inl ⟨by rfl, fun V hV => ?_⟩) ?_
  rotate_left 1
  · (clear hV; go_simp; (try with_reducible rfl))
  try simp only [Act.put, List.setIfInBounds_toArray, List.set_cons_zero, List.set_cons_succ]
  refine walk_take (i := 27) (d := some 64) (v := ?_) rfl rfl (by kernel_rfl) (fun _ _ _ h => h) (Or.inl ⟨by rfl, fun V hV => ?_⟩) ?_
  rotate_left 1
  · (clear hV; go_simp; (try with_reducible rfl))
  try simp only [Act.put, List.setIfInBounds_toArray, List.set_cons_zero, List.set_cons_succ]
  refine walk_take (i := 28) (d := some 65) (v := ?_) rfl rfl (by kernel_rfl) (fun _ _ _ h => h) (Or.inl ⟨by rfl, fun V hV => ?_⟩) ?_
  rotate_left 1
  · (obtain ⟨cv, q0, q1, q2, q3, k0, k1, k2, k3, u1, v1, z1, m1, n1⟩ := HS.out V (HL2.out.trans hV); clear hV; go_simp; (try with_reducible rfl))
  try simp only [Act.put, List.setIfInBounds_toArray, List.set_cons_zero, List.set_cons_succ]
  refine walk_take (i := 29) (d := some 66) (v := ?_) rfl rfl (by kernel_rfl) (fun _ _ _ h => h) (Or.inl ⟨by rfl, fun V hV => ?_⟩) ?_
  rotate_left 1
  · (clear hV; go_simp; (try with_reducible rfl))
  try simp only [Act.put, List.setIfInBounds_toArray, List.set_cons_zero, List.set_cons_succ]
  refine walk_take (i := 30) (d := some 67) (v := ?_) rfl rfl (by kernel_rfl) (fun _ _ _ h => h) (Or.inl ⟨by rfl, fun V hV => ?_⟩) ?_
  rotate_left 1
  · (clear hV; go_simp; (try with_reducible rfl))
  try simp only [Act.put, List.setIfInBounds_toArray, List.set_cons_zero, List.set_cons_succ]
  refine walk_take (i := 31) (d := some 68) (v := ?_) rfl rfl (by kernel_rfl) (fun _ _ _ h => h) (Or.inl ⟨by rfl, fun V hV => ?_⟩) ?_
  rotate_left 1
  · (clear hV; go_simp; (try with_reducible rfl))
  try simp only [Act.put, List.setIfInBounds_toArray, List.set_cons_zero, List.set_cons_succ]
  refine walk_take (i := 32) (d := some 69) (v := ?_) rfl rfl (by kernel_rfl) (fun _ _ _ h => h) (Or.inl ⟨by rfl, fun V hV => ?_⟩) ?_
  rotate_left 1
  · (clear hV; go_simp; (try with_reducible rfl))
  try simp only [Act.put, List.setIfInBounds_toArray, List.set_cons_zero, List.set_cons_succ]
  refine walk_take (i := 33) (d := some 70) (v := ?_) rfl rfl (by kernel_rfl) (fun _ _ _ h => h) (Or.inl ⟨by rfl, fun V hV => ?_⟩) ?_
  rotate_left 1
  · (clear hV; go_simp; (try with_reducible rfl))
  try simp only [Act.put, List.setIfInBounds_toArray, List.set_cons_zero, List.set_cons_succ]
  refine walk_take (i := 34) (d := some 71) (v := ?_) rfl rfl (by kernel_rfl) (fun _ _ _ h => h) (Or.inl ⟨by rfl, fun V hV => ?_⟩) ?_
  rotate_left 1
  · (obtain ⟨cv, q0, q1, q2, q3, k0, k1, k2, k3, u1, v1, z1, m1, n1⟩ := HS.out V (HL2.out.trans hV); clear hV; go_simp; (try with_reducible rfl))
  try simp only [Act.put, List.setIfInBounds_toArray, List.set_cons_zero, List.set_cons_succ]
  refine walk_take (i := 35) (d := some 72) (v := ?_) rfl rfl (by kernel_rfl) (fun _ _ _ h => h) (Or.inl ⟨by rfl, fun V hV => ?_⟩) ?_
  rotate_left 1
  · (clear hV; go_simp; (try with_reducible rfl))
  try simp only [Act.put, List.setIfInBounds_toArray, List.set_cons_zero, List.set_cons_succ]
  refine walk_take (i := 36) (d := some 73) (v := ?_) rfl rfl (by kernel_rfl) (fun _ _ _ h => h) (Or.inl ⟨by rfl, fun V hV => ?_⟩) ?_
  rotate_left 1
  · (obtain ⟨cv, q0, q1, q2, q3, k0, k1, k2, k3, u1, v1, z1, m1, n1⟩ := HS.out V (HL2.out.trans hV); clear hV; go_simp; (try with_reducible rfl))
  try simp only [Act.put, List.setIfInBounds_toArray, List.set_cons_zero, List.set_cons_succ]
  refine walk_take (i := 37) (d := some 74) (v := ?_) rfl rfl (by kernel_rfl) (fun _ _ _ h => h) (Or.inl ⟨by rfl, fun V hV => ?_⟩) ?_
  rotate_left 1
  · (clear hV; go_simp; (try with_reducible rfl))
  try simp only [Act.put, List.setIfInBounds_toArray, List.set_cons_zero, List.set_cons_succ]
  refine walk_take (i := 38) (d := some 75) (v := ?_) rfl rfl (by kernel_rfl) (fun _ _ _ h => h) (Or.inl ⟨by rfl, fun V hV => ?_⟩) ?_
  rotate_left 1
  · (clear hV; go_simp; (try with_reducible rfl))
  try simp only [Act.put, List.setIfInBounds_toArray, List.set_cons_zero, List.set_cons_succ]
  refine walk_take (i := 39) (d := some 76) (v := ?_) rfl rfl (by kernel_rfl) (fun _ _ _ h => h) (Or.inl ⟨by rfl, fun V hV => ?_⟩) ?_
  rotate_left 1
  · (clear hV; go_simp; (try with_reducible rfl))
  try simp only [Act.put, List.setIfInBounds_toArray, List.set_cons_zero, List.set_cons_succ]
  refine walk_take (i := 40) (d := some 77) (v := ?_) rfl rfl (by kernel_rfl) (fun _ _ _ h => h) (Or.inl ⟨by rfl, fun V hV => ?_⟩) ?_
  rotate_left 1
  · (clear hV; go_simp; (try with_reducible rfl))
  try simp only [Act.put, List.setIfInBounds_toArray, List.set_cons_zero, List.set_cons_succ]
  refine walk_take (i := 41) (d := some 78) (v := ?_) rfl rfl (by kernel_rfl) (fun _ _ _ h => h) (Or.inl ⟨by rfl, fun V hV => ?_⟩) ?_
  rotate_left 1
  · (obtain ⟨cv, q0, q1, q2, q3, k0, k1, k2, k3, u1, v1, z1, m1, n1⟩ := HS.out V (HL2.out.trans hV); clear hV; go_simp; (try with_reducible rfl))
  try simp only [Act.put, List.setIfInBounds_toArray, List.set_cons_zero, List.set_cons_succ]
  refine walk_take (i := 42) (d := some 79) (v := ?_) rfl rfl (by kernel_rfl) (fun _ _ _ h => h) (Or.inl ⟨by rfl, fun V hV => ?_⟩) ?_
  rotate_left 1
  · (clear hV; go_simp; (try with_reducible rfl))
  try simp only [Act.put, List.setIfInBounds_toArray, List.set_cons_zero, List.set_cons_succ]
  refine walk_take (i := 43) (d := some 80) (v := ?_) rfl rfl (by kernel_rfl) (fun _ _ _ h => h) (Or.inl ⟨by rfl, fun V hV => ?_⟩) ?_
  rotate_left 1
  · (clear hV; go_simp; (try with_reducible rfl))
  try simp only [Act.put, List.setIfInBounds_toArray, List.set_cons_zero, List.set_cons_succ]
  refine walk_take (i := 44) (d := some 81) (v := ?_) rfl rfl (by kernel_rfl) (fun _ _ _ h => h) (Or.inl ⟨by rfl, fun V hV => ?_⟩) ?_
  rotate_left 1
  · (clear hV; go_simp; (try with_reducible rfl))
  try simp only [Act.put, List.setIfInBounds_toArray, List.set_cons_zero, List.set_cons_succ]
  refine walk_take (i := 45) (d := some 82) (v := ?_) rfl rfl (by kernel_rfl) (fun _ _ _ h => h) (Or.inl ⟨by rfl, fun V hV => ?_⟩) ?_
  rotate_left 1
  · (clear hV; go_simp; (try with_reducible rfl))
  try simp only [Act.put, List.setIfInBounds_toArray, List.set_cons_zero, List.set_cons_succ]
  refine walk_take (i := 46) (d := some 83) (v := ?_) rfl rfl (by kernel_rfl) (fun _ _ _ h => h) (Or.inl ⟨by rfl, fun V hV => ?_⟩) ?_
  rotate_left 1
  · (clear hV; go_simp; (try with_reducible rfl))
  try simp only [Act.put, List.setIfInBounds_toArray, List.set_cons_zero, List.set_cons_succ]
  refine walk_take (i := 47) (d := some 84) (v := ?_) rfl rfl (by kernel_rfl) (fun _ _ _ h => h) (Or.inl ⟨by rfl, fun V hV => ?_⟩) ?_
  rotate_left 1
  · (clear hV; go_simp; (try with_reducible rfl))
  try simp only [Act.put, List.setIfInBounds_toArray, List.set_cons_zero, List.set_cons_succ]
  refine walk_take (i := 48) (d := some 85) (v := ?_) rfl rfl (by kernel_rfl) (fun _ _ _ h => h) (Or.inl ⟨by rfl, fun V hV => ?_⟩) ?_
  rotate_left 1
  · (clear hV; go_simp; (try with_reducible rfl))
  try simp only [Act.put, List.setIfInBounds_toArray, List.set_cons_zero, List.set_cons_succ]
  refine walk_take (i := 49) (d := some 86) (v := ?_) rfl rfl (by kernel_rfl) (fun _ _ _ h => h) (Or.inl ⟨by rfl, fun V hV => ?_⟩) ?_
  rotate_left 1
  · (clear hV; go_simp; (try with_reducible rfl))
  try simp only [Act.put, List.setIfInBounds_toArray, List.set_cons_zero, List.set_cons_succ]
  refine walk_take (i := 50) (d := some 87) (v := ?_) rfl rfl (by kernel_rfl) (fun _ _ _ h => h) (Or.inl ⟨by rfl, fun V hV => ?_⟩) ?_
  rotate_left 1
  · (clear hV; go_simp; (try with_reducible rfl))
  try simp only [Act.put, List.setIfInBounds_toArray, List.set_cons_zero, List.set_cons_succ]
  refine walk_take (i := 51) (d := some 88) (v := ?_) rfl rfl (by kernel_rfl) (fun _ _ _ h => h) (Or.inl ⟨by rfl, fun V hV => ?_⟩) ?_
  rotate_left 1
  · (obtain ⟨cv, q0, q1, q2, q3, k0, k1, k2, k3, u1, v1, z1, m1, n1⟩ := HS.out V (HL2.out.trans hV); clear hV; go_simp; (try with_reducible rfl))
  try simp only [Act.put, List.setIfInBounds_toArray, List.set_cons_zero, List.set_cons_succ]
  refine walk_take (i := 52) (d := some 89) (v := ?_) rfl rfl (by kernel_rfl) (fun _ _ _ h => h) (Or.inl ⟨by rfl, fun V hV => ?_⟩) ?_
  rotate_left 1
  · (clear hV; go_simp; (try with_reducible rfl))
  try simp only [Act.put, List.setIfInBounds_toArray, List.set_cons_zero, List.set_cons_succ]
  refine walk_take (i := 53) (d := some 90) (v := ?_) rfl rfl (by kernel_rfl) (fun _ _ _ h => h) (Or.inl ⟨by rfl, fun V hV => ?_⟩) ?_
  rotate_left 1
  · (clear hV; go_simp; (try with_reducible rfl))
  try simp only [Act.put, List.setIfInBounds_toArray, List.set_cons_zero, List.set_cons_succ]
  refine walk_take (i := 54) (d := some 91) (v := ?_) rfl rfl (by kernel_rfl) (fun _ _ _ h => h) (Or.inl ⟨by rfl, fun V hV => ?_⟩) ?_
  rotate_left 1
  · (clear hV; go_simp; (try with_reducible rfl))
  try simp only [Act.put, List.setIfInBounds_toArray, List.set_cons_zero, List.set_cons_succ]
  refine walk_take (i := 55) (d := some 92) (v := ?_) rfl rfl (by kernel_rfl) (fun _ _ _ h => h) (Or.inl ⟨by rfl, fun V hV => ?_⟩) ?_
  rotate_left 1
  · (clear hV; go_simp; (try with_reducible rfl))
  try simp only [Act.put, List.setIfInBounds_toArray, List.set_cons_zero, List.set_cons_succ]
  refine walk_take (i := 56) (d := some 93) (v := ?_) rfl rfl (by kernel_rfl) (fun _ _ _ h => h) (Or.inl ⟨by rfl, fun V hV => ?_⟩) ?_
  rotate_left 1
  · (obtain ⟨cv, q0, q1, q2, q3, k0, k1, k2, k3, u1, v1, z1, m1, n1⟩ := HS.out V (HL2.out.trans hV); clear hV; go_simp; (try with_reducible rfl))
  try simp only [Act.put, List.setIfInBounds_toArray, List.set_cons_zero, List.set_cons_succ]
  refine walk_core 57 rfl (by kernel_rfl) (fun _ _ _ _ _ h => h) (fun V hV K hK => ?_)
  have hV0 := HL2.out.trans hV
  go_simp
  go_at_call 38
  refine (CG.out _ hV0).mono ?_
  rintro e x57 ⟨rfl, hb⟩
  have HT57 := Lib.hid (hV.of hb)
  have HL3 := Lib.hid (hV0.of hb)
  have hsize := hb.size
  have hkeep := fun (r : Nat) (_ : True) (h : r < V.heap.size) => hb.block r h
  have ZF3 : Hid (∀ s, x57.heap.size ≤ s → _) := Lib.hid (fun s h => ZF2.out s (Nat.le_trans hV.size (Nat.le_trans hsize h)))
  refine hK.out _ _ (Later x57) (Later x57) _ (fun r _ h => hkeep r trivial h) (fun _ h _ => h) (fun V' h => (hV.of hb).trans h) (fun _ h => h) (fun V' h => ZF3.out _ h.size) (Later.refl _) (closed_later _) ?_
  clear hK K hV hsize hkeep hV0 hb
  try simp only [Act.put, List.setIfInBounds_toArray, List.set_cons_zero, List.set_cons_succ]
  refine walk_take (i := 58) (d := some 95) (v := ?_) rfl rfl (by kernel_rfl) (fun _ _ _ h => h) (Or.inl ⟨by rfl, fun V hV => ?_⟩) ?_
  rotate_left 1
  · (clear hV; go_simp; (try with_reducible rfl))
  try simp only [Act.put, List.setIfInBounds_toArray, List.set_cons_zero, List.set_cons_succ]
  refine walk_take (i := 59) (d := some 96) (v := ?_) rfl rfl (by kernel_rfl) (fun _ _ _ h => h) (Or.inl ⟨by rfl, fun V hV => ?_⟩) ?_
  rotate_left 1
  · (clear hV; go_simp; (try with_reducible rfl))
  try simp only [Act.put, List.setIfInBounds_toArray, List.set_cons_zero, List.set_cons_succ]
  refine walk_take (i := 60) (d := some 97) (v := ?_) rfl rfl (by kernel_rfl) (fun _ _ _ h => h) (Or.inl ⟨by rfl, fun V hV => ?_⟩) ?_
  rotate_left 1
  · (obtain ⟨cv, q0, q1, q2, q3, k0, k1, k2, k3, u1, v1, z1, m1, n1⟩ := HS.out V (HL3.out.trans hV); clear hV; go_simp; (try with_reducible rfl))
  try simp only [Act.put, List.setIfInBounds_toArray, List.set_cons_zero, List.set_cons_succ]
  refine walk_core 61 rfl (by kernel_rfl) (fun _ _ _ _ _ h => h) (fun V hV K hK => ?_)
  have hV0 := HL3.out.trans hV
  go_simp
  go_at_call 44
  refine (CY.out _ hV0).mono ?_
  rintro e x61 ⟨rfl, hb⟩
  have HT61 := Lib.hid (hV.of hb)
  have HL4 := Lib.hid (hV0.of hb)
  have hsize := hb.size
  have hkeep := fun (r : Nat) (_ : True) (h : r < V.heap.size) => hb.block r h
  have ZF4 : Hid (∀ s, x61.heap.size ≤ s → _) := Lib.hid (fun s h => ZF3.out s (Nat.le_trans hV.size (Nat.le_trans hsize h)))
  refine hK.out _ _ (Later x61) (Later x61) _ (fun r _ h => hkeep r trivial h) (fun _ h _ => h) (fun V' h => (hV.of hb).trans h) (fun _ h => h) (fun V' h => ZF4.out _ h.size) (Later.refl _) (closed_later _) ?_
  clear hK K hV hsize hkeep hV0 hb
  try simp only [Act.put, List.setIfInBounds_toArray, List.set_cons_zero, List.set_cons_succ]
  refine walk_take (i := 62) (d := some 99) (v := ?_) rfl rfl (by kernel_rfl) (fun _ _ _ h => h) (Or.inl ⟨by rfl, fun V hV => ?_⟩) ?_
  rotate_left 1
  · (clear hV; go_simp; (try with_reducible rfl))
  try simp only [Act.put, List.setIfInBounds_toArray, List.set_cons_zero, List.set_cons_succ]
  refine walk_take (i := 63) (d := some 100) (v := ?_) rfl rfl (by kernel_rfl) (fun _ _ _ h => h) (Or.inl ⟨by rfl, fun V hV => ?_⟩) ?_
  rotate_left 1
  · (clear hV; go_simp; (try with_reducible rfl))
  try simp only [Act.put, List.setIfInBounds_toArray, List.set_cons_zero, List.set_cons_succ]
  refine walk_take (i := 64) (d := some 101) (v := ?_) rfl rfl (by kernel_rfl) (fun _ _ _ h => h) (Or.inl ⟨by rfl, fun V hV => ?_⟩) ?_
  rotate_left 1
  · (clear hV; go_simp; (try with_reducible rfl))
  try simp only [Act.put, List.setIfInBounds_toArray, List.set_cons_zero, List.set_cons_succ]
  refine walk_pend ⟨66, 103, (.cells #[.int .u64 1, .int .u64 2] 32), fun r => .slice (some ⟨r, 0, none⟩) 2 2⟩ ⟨_, rfl, rfl, rfl, fun W => ?_⟩ ?_
  · (go_simp; (try with_reducible rfl))
  refine walk_pend ⟨65, 102, (.cells #[.string ⟨#[109]⟩] 9), fun r => .slice (some ⟨r, 0, none⟩) 1 1⟩ ⟨_, rfl, rfl, rfl, fun W => ?_⟩ ?_
  · (go_simp; (try with_reducible rfl))
  refine walk_force (by kernel_rfl) (by kernel_rfl) (by kernel_rfl) (by kernel_rfl) (fun r65 x65 hV hr65 hB65 => ?_)
  have lt65 : r65 < x65.heap.size := (Array.getElem?_eq_some_iff.1 hr65).1
  have HL5 := Lib.hid (HL4.out.trans hV)
  have ZF5 : Hid (∀ s, x65.heap.size ≤ s → _ ∧ s ≠ r65) := Lib.hid (fun s h => ⟨ZF4.out s (Nat.le_trans hV.size h), Nat.ne_of_gt (Nat.lt_of_lt_of_le lt65 h)⟩)
  refine ⟨Later x65, Later x65, Later.refl _, fun V' h => hV.trans h, fun _ h => h, fun V' h => ZF4.out _ (Nat.le_trans hV.size h.size), fun V' h => Nat.lt_of_lt_of_le lt65 h.size, closed_later _, ?_⟩
  try simp only [Act.put, List.setIfInBounds_toArray, List.set_cons_zero, List.set_cons_succ]
  have HT65 := Lib.hid hV
  clear hV
  refine walk_force (by kernel_rfl) (by kernel_rfl) (by kernel_rfl) (by kernel_rfl) (fun r66 x66 hV hr66 hB66 => ?_)
  have lt66 : r66 < x66.heap.size := (Array.getElem?_eq_some_iff.1 hr66).1
  have HL6 := Lib.hid (HL5.out.trans hV)
  have ZF6 : Hid (∀ s, x66.heap.size ≤ s → _ ∧ s ≠ r66) := Lib.hid (fun s h => ⟨ZF5.out s (Nat.le_trans hV.size h), Nat.ne_of_gt (Nat.lt_of_lt_of_le lt66 h)⟩)
  refine ⟨Later x66, Later x66, Later.refl _, fun V' h => hV.trans h, fun _ h => h, fun V' h => ZF5.out _ (Nat.le_trans hV.size h.size), fun V' h => Nat.lt_of_lt_of_le lt66 h.size, closed_later _, ?_⟩
  try simp only [Act.put, List.setIfInBounds_toArray, List.set_cons_zero, List.set_cons_succ]
  have k65 := Lib.hid (Blk.below (show Blk x65 r65 9 #[.string ⟨#[109]⟩] from hr65) hV lt65)
  have CK := Lib.hid (kid_at k65.out (show Blk x66 r66 32 #[.int .u64 1, .int .u64 2] from hr66))
  have HT66 := Lib.hid hV
  clear hV
  refine walk_take (i := 67) (d := some 104) (v := ?_) rfl rfl (by kernel_rfl) (fun _ _ _ h => h) (Or.inl ⟨by rfl, fun V hV => ?_⟩) ?_
  rotate_left 1
  · (clear hV; go_simp; (try with_reducible rfl))
  try simp only [Act.put, List.setIfInBounds_toArray, List.set_cons_zero, List.set_cons_succ]
  refine walk_core 68 rfl (by kernel_rfl) (fun _ _ _ _ _ h => h) (fun V hV K hK => ?_)
  have hV0 := HL6.out.trans hV
  go_simp
  go_at_call 48
  refine (CK.out _ hV).mono ?_
  rintro e x68 ⟨rfl, hb⟩
  have HT68 := Lib.hid (hV.of hb)
  have HL7 := Lib.hid (hV0.of hb)
  have hsize := hb.size
  have hkeep := fun (r : Nat) (_ : True) (h : r < V.heap.size) => hb.block r h
  have ZF7 : Hid (∀ s, x68.heap.size ≤ s → _) := Lib.hid (fun s h => ZF6.out s (Nat.le_trans hV.size (Nat.le_trans hsize h)))
  refine hK.out _ _ (Later x68) (Later x68) _ (fun r _ h => hkeep r trivial h) (fun _ h _ => h) (fun V' h => (hV.of hb).trans h) (fun _ h => h) (fun V' h => ZF7.out _ h.size) (Later.refl _) (closed_later _) ?_
  clear hK K hV hsize hkeep hV0 hb
  try simp only [Act.put, List.setIfInBounds_toArray, List.set_cons_zero, List.set_cons_succ]
  refine walk_take (i := 69) (d := some 106) (v := ?_) rfl rfl (by kernel_rfl) (fun _ _ _ h => h) (Or.inl ⟨by rfl, fun V hV => ?_⟩) ?_
  rotate_left 1
  · (clear hV; go_simp; (try with_reducible rfl))
  try simp only [Act.put, List.setIfInBounds_toArray, List.set_cons_zero, List.set_cons_succ]
  refine walk_take (i := 70) (d := some 107) (v := ?_) rfl rfl (by kernel_rfl) (fun _ _ _ h => h) (Or.inl ⟨by rfl, fun V hV => ?_⟩) ?_
  rotate_left 1
  · (clear hV; go_simp; (try with_reducible rfl))
  try simp only [Act.put, List.setIfInBounds_toArray, List.set_cons_zero, List.set_cons_succ]
  refine walk_take (i := 71) (d := some 0) (v := ?_) rfl rfl (by kernel_rfl) (fun _ _ _ h => h) (Or.inl ⟨by rfl, fun V hV => ?_⟩) ?_
  rotate_left 1
  · (clear hV; go_simp; (try with_reducible rfl))
  try simp only [Act.put, List.setIfInBounds_toArray, List.set_cons_zero, List.set_cons_succ]
  refine walk_exit (fun V hV => wpAnyJ_done (by kernel_rfl) ?_ _)
  have hV0 := HL7.out.trans hV
  have HZ := Lib.hid (HB11.out.trans ((show Below _ _ _ from hV0).mono HB11.out.size))
  clear hV hV0
  go_wp2_with fail
  go_ret
  exact ⟨rfl, HZ.out⟩
end Go.Proofs.Ytlbikfamjogpnaa
end

/- PageReads. Conditions: the bytes read in memory. -/
section
namespace Go.Proofs.Ytlbikfamjogpnaa
open Go.RowKit Go.Proofs.YtlbikfamjogpnaaW.PrintWords Go.Proofs.Ytlbikfamjogpnaa.QPage
set_option linter.unusedVariables false
set_option linter.unusedSimpArgs false
theorem dec_enough {l : List UInt8} {p : Pg} (h : decP l = some p) (hl : l.length ≤ 1500) : Few p ∧ Enc p := by
  obtain ⟨he, hg, hn⟩ := enc_dec h
  have h1 := encP_len p
  rw [he] at h1
  rcases good_shape hg with ⟨_, hv, hk⟩ | ⟨_, hv, hk⟩
  · exact ⟨⟨by rw [hk]; simp, by omega, by omega⟩, ⟨hn, by rw [hk]; simp, by rw [he]; omega, by omega⟩⟩
  · exact ⟨⟨by omega, by omega, by rw [hv]; simp⟩, ⟨hn, by omega, by rw [he]; omega, by omega⟩⟩
/-- What both readings answer. -/
structure Rds (l : List UInt8) (ok : Bool) (p : Pg) : Prop where
  d : decP l = if ok then some p else none
  f : Few p
  e : ok = true → Enc p ∧ encP p = l
  z : ok = false → p = ⟨false, [], [], []⟩
theorem rds_of (l : List UInt8) (hl : l.length ≤ 1500) : ∃ ok p, Rds l ok p := by
  cases h : decP l with
  | none => exact ⟨false, ⟨false, [], [], []⟩, by rw [h]; rfl, ⟨by decide, by decide, by decide⟩, fun h => (by cases h), fun _ => rfl⟩
  | some p =>
    have := dec_enough h hl
    exact ⟨true, p, by rw [h]; rfl, this.1, fun _ => ⟨this.2, (enc_dec h).1⟩, fun h => (by cases h)⟩
theorem pgr_nil (w : World) : PgR w none 0 none 0 none 0 ⟨false, [], [], []⟩ := ⟨Kd.C_nil _ _, Nat.le_refl _, Kd.C_nil _ _, Nat.le_refl _, Kd.C_nil _ _, Nat.le_refl _⟩
theorem post_dec {w w' : World} {l : List UInt8} {e : Ending} {ok : Bool} {p : Pg} (h : DecPost w l e w') (hr : Rds l ok p) {ev : Int} (hev : ev = if ok then 0 else 3) : Below w.heap.size w w' ∧ ∃ A1 c1 A2 c2 A3 c3, e = .returned (.tuple #[.agg #[.bool p.leaf, .slice A1 p.keys.length c1, .slice A2 p.vals.length c2, .slice A3 p.kids.length c3], .int .i64 ev]) ∧ PgR w' A1 c1 A2 c2 A3 c3 p := by
  obtain ⟨hb, hm⟩ := h
  rw [hr.d] at hm
  subst hev
  cases ok with
  | true => exact ⟨hb, hm⟩
  | false =>
    have hz := hr.z rfl
    subst hz
    exact ⟨hb, none, 0, none, 0, none, 0, hm, pgr_nil _⟩
theorem post_rdec {w w' : World} {l : List UInt8} {e : Ending} {ok : Bool} {p : Pg} (h : RDecPost w l e w') (hr : Rds l ok p) : Below w.heap.size w w' ∧ ∃ A1 c1 A2 c2 A3 c3, e = .returned (.tuple #[.agg #[.bool p.leaf, .slice A1 p.keys.length c1, .slice A2 p.vals.length c2, .slice A3 p.kids.length c3], .bool ok]) ∧ PgR w' A1 c1 A2 c2 A3 c3 p := by
  obtain ⟨hb, hm⟩ := h
  rw [hr.d] at hm
  cases ok with
  | true => exact ⟨hb, hm⟩
  | false =>
    have hz := hr.z rfl
    subst hz
    exact ⟨hb, none, 0, none, 0, none, 0, hm, pgr_nil _⟩
section
variable {w : World} {A : Option Addr} {n c : Nat} {l : List UInt8}
set_option maxRecDepth 100000 in
set_option maxHeartbeats 8000000 in
theorem pageReads_all (h : Bts w A n c l) : Calls Try.prog 9 #[.slice A n c] w fun e w' => e = .returned (.bool true) ∧ Below w.heap.size w w' := by
  have hm : n ≤ 9223372036854775807 := by have := h.2.2.1; have h1 := h.2.2.2.1; unfold maxLen at h1; omega
  by_cases b1 : 1500 < n
  · have g1 : decide ((1500 : Int) < (n : Int)) = true := decide_eq_true (by omega)
    have g2 : decide (1500 < n) = true := decide_eq_true (by omega)
    clear h b1
    go_enter Try.func9, Try.ntmps9
    go_wp2_with fail
    refine (awake6 w).mono ?_
    rintro e w1 ⟨rfl, hb1⟩
    go_wp2_with fail
    go_ret
    exact ⟨rfl, hb1⟩
  have g1 : decide ((1500 : Int) < (n : Int)) = false := decide_eq_false (by omega)
  have g2 : decide (1500 < n) = false := decide_eq_false (by omega)
  have HN : Hid (n ≤ 1500) := Lib.hid (by omega)
  have hn : n ≤ 1500 := HN.out
  have HBT := Lib.hid h
  have HL : Hid (l.length = n) := Lib.hid h.2.2.2.2
  obtain ⟨b0, hbi0, bz0, bz1, bz2⟩ := info_parts info_u8
  clear h b1
  go_enter Try.func9, Try.ntmps9
  go_wp2_with fail
  refine (awake6 w).mono ?_
  rintro e w1 ⟨rfl, hb1⟩
  have HB1 := Lib.hid hb1
  have HBT1 := Lib.hid (HBT.out.below hb1)
  clear hb1
  go_wp2_with (first
    | (at_builtin
       go_must (refine wpList_append_any _ rfl (.tmp 13) (.tmp 14) _ rfl w1.heap.size 5 b0 _ 1 1 Try.underlying36 hbi0 bz0 bz1 bz2 rfl (by omega) (.slice (some ⟨w1.heap.size, 0, none⟩) 0 0) 0 [] rfl (World.ownsRow_lit w1 #[] 0 (Nat.le_refl _) (by unfold maxLen; omega) rfl) w1.heap.size A n c (l.map byt) rfl (HBT1.out.2.1.alloc (Nat.le_refl _) _) (byt_one _) (by unfold maxLen; omega) (by omega) (by simp) ?_)
       intro v1 w2 hown2 hg2 hat2
       have hown2' : w2.ownsRow w1.heap.size 5 1 v1 n (l.map byt) := by simpa using hown2
       obtain ⟨A3, c3, rfl⟩ := own_shape hown2'
       have HB2 : Hid (Below w1.heap.size w1 w2) := Lib.hid (((Below.refl _ _).alloc (Nat.le_refl _) _).grown hg2 (by simp) (fun k hk => by simp [Value.ownBlock] at hk; omega))
       have HBT2 : Hid (Bts w2 A3 n c3 l) := Lib.hid (own_bts hown2')
       clear hown2 hg2 hat2 hown2'))
  refine (decode_any HBT2.out (by omega)).mono ?_
  obtain ⟨ok, p, hr⟩ := rds_of l (by rw [HL.out]; exact hn)
  have HR := Lib.hid hr
  clear hr
  rintro e w3 hm3
  obtain ⟨ev, hev⟩ : ∃ ev : Int, ev = if ok then 0 else 3 := ⟨_, rfl⟩
  obtain ⟨hb3, F1, f1, F2, f2, F3, f3, rfl, hp3⟩ := post_dec hm3 HR.out hev
  have HEV := Lib.hid hev
  clear hev
  have HB3 : Hid (Below w1.heap.size w1 w3) := Lib.hid (HB2.out.trans (hb3.mono HB2.out.size))
  have HP3 := Lib.hid hp3
  have CSM : Hid (∀ V A1 c1 A2 c2 A3 c3 B1 d1 B2 d2 B3 d3, PgR V A1 c1 A2 c2 A3 c3 p → PgR V B1 d1 B2 d2 B3 d3 p → Calls Try.prog 45 #[.agg #[.bool p.leaf, .slice A1 p.keys.length c1, .slice A2 p.vals.length c2, .slice A3 p.kids.length c3], .agg #[.bool p.leaf, .slice B1 p.keys.length d1, .slice B2 p.vals.length d2, .slice B3 p.kids.length d3]] V fun e w' => e = .returned (.bool true) ∧ Below V.heap.size V w') := Lib.hid fun V _ _ _ _ _ _ _ _ _ _ _ _ h1 h2 => by
    have := same_any h1 h2 HR.out.f
    exact this
  have CEN : Hid (∀ V A1 c1 A2 c2 A3 c3, ok = true → PgR V A1 c1 A2 c2 A3 c3 p → Calls Try.prog 42 #[.agg #[.bool p.leaf, .slice A1 p.keys.length c1, .slice A2 p.vals.length c2, .slice A3 p.kids.length c3]] V fun e w' => Below V.heap.size V w' ∧ ∃ A c, e = .returned (.slice A n c) ∧ ∀ V', Later w' V' → (convert 36 9 (.slice A n c)).run Try.prog V' = .ok (.string ⟨l.toArray⟩) V') := Lib.hid fun V A1 c1 A2 c2 A3 c3 ho hp => by
    have := encode_any hp (HR.out.e ho).1
    rw [(HR.out.e ho).2, HL.out] at this
    refine this.mono ?_
    rintro e w' ⟨hb, A, c, rfl, hq⟩
    exact ⟨hb, A, c, rfl, fun V' hV' => run_string_of V' 36 9 5 Try.underlying36 Try.underlying5 Try.underlying9 (c := c) (hq.below hV').2.1⟩
  have CRD : Hid (∀ V, Below w1.heap.size w1 V → Calls Try.prog 46 #[.slice A n c] V fun e w' => Below V.heap.size V w' ∧ ∃ A1 c1 A2 c2 A3 c3, e = .returned (.tuple #[.agg #[.bool p.leaf, .slice A1 p.keys.length c1, .slice A2 p.vals.length c2, .slice A3 p.kids.length c3], .bool ok]) ∧ PgR w' A1 c1 A2 c2 A3 c3 p) := Lib.hid fun V hV => (rdecode_any (HBT1.out.below hV) (by omega)).mono fun e w' h => post_rdec h HR.out
  have CVB : Hid (∀ V, Below w1.heap.size w1 V → (convert 36 9 (.slice A n c)).run Try.prog V = .ok (.string ⟨l.toArray⟩) V) := Lib.hid fun V hV => run_string_of V 36 9 5 Try.underlying36 Try.underlying5 Try.underlying9 (c := c) (HBT1.out.below hV).2.1
  clear hb3 hm3 hp3 HB2 HBT2 HR HBT
  have HW : Hid (w = w) := Lib.hid rfl
  generalize (⟨l.toArray⟩ : ByteArray) = sl at *
  obtain ⟨W4, hW4⟩ : ∃ W4, W4 = w3.alloc (.cells #[.bool p.leaf, .slice F1 p.keys.length f1, .slice F2 p.vals.length f2, .slice F3 p.kids.length f3] 67) := ⟨_, rfl⟩
  have hk4 : Blk W4 w3.heap.size 67 #[.bool p.leaf, .slice F1 p.keys.length f1, .slice F2 p.vals.length f2, .slice F3 p.kids.length f3] := by rw [hW4]; exact Blk.new _ _ _
  have hb4 : Below w3.heap.size w3 W4 := by rw [hW4]; exact (Below.refl _ _).alloc (Nat.le_refl _) _
  have HK4 := Lib.hid hk4
  have HP4 := Lib.hid (HP3.out.below hb4)
  have HB4 : Hid (Below w1.heap.size w1 W4) := Lib.hid (HB3.out.trans (hb4.mono HB3.out.size))
  have HW4 := Lib.hid hW4
  clear hW4 hk4 hb4 HP3 HB3
  go_upto_region 6 with fail
  rw [← HW4.out]
  clear HW4
  go_wp2_with fail
  refine (CRD.out W4 HB4.out).mono ?_
  rintro e w5 ⟨hb5, G1, k1, G2, k2, G3, k3, rfl, hq5⟩
  obtain ⟨W6, hW6⟩ : ∃ W6, W6 = w5.alloc (.cells #[.bool p.leaf, .slice G1 p.keys.length k1, .slice G2 p.vals.length k2, .slice G3 p.kids.length k3] 73) := ⟨_, rfl⟩
  have hk6 : Blk W6 w5.heap.size 73 #[.bool p.leaf, .slice G1 p.keys.length k1, .slice G2 p.vals.length k2, .slice G3 p.kids.length k3] := by rw [hW6]; exact Blk.new _ _ _
  have hb6 : Below w5.heap.size w5 W6 := by rw [hW6]; exact (Below.refl _ _).alloc (Nat.le_refl _) _
  have h46 : Below W4.heap.size W4 W6 := hb5.trans (hb6.mono hb5.size)
  have hk46 := HK4.out.below h46 HK4.out.lt
  have SF : Hid (∀ V, Later W6 V → (V.cell? ⟨w3.heap.size, 0, none⟩ = some (.bool p.leaf) ∧ V.cell? ⟨w3.heap.size, 1, none⟩ = some (.slice F1 p.keys.length f1) ∧ V.cell? ⟨w3.heap.size, 2, none⟩ = some (.slice F2 p.vals.length f2) ∧ V.cell? ⟨w3.heap.size, 3, none⟩ = some (.slice F3 p.kids.length f3)) ∧
      (V.cell? ⟨w5.heap.size, 0, none⟩ = some (.bool p.leaf) ∧ V.cell? ⟨w5.heap.size, 1, none⟩ = some (.slice G1 p.keys.length k1) ∧ V.cell? ⟨w5.heap.size, 2, none⟩ = some (.slice G2 p.vals.length k2) ∧ V.cell? ⟨w5.heap.size, 3, none⟩ = some (.slice G3 p.kids.length k3)) ∧
      (convert 36 9 (.slice A n c)).run Try.prog V = .ok (.string sl) V) := Lib.hid fun V hV =>
    ⟨cells4 (hk46.below hV hk46.lt), cells4 (hk6.below hV hk6.lt), CVB.out V ((HB4.out.trans (h46.mono HB4.out.size)).trans ((show Below _ _ _ from hV).mono (HB4.out.trans (h46.mono HB4.out.size)).size))⟩
  have HP6 := Lib.hid (HP4.out.below h46)
  have HQ6 := Lib.hid (hq5.below hb6)
  have HB6 : Hid (Below w.heap.size w W6) := Lib.hid (HB1.out.trans ((HB4.out.trans (h46.mono HB4.out.size)).mono HB1.out.size))
  have HW6 := Lib.hid hW6
  clear hW6 hk6 hb6 h46 hk46 hb5 hq5 HP4 HK4 HB4 CRD CVB
  go_upto_region 7 with fail
  rw [← HW6.out]
  clear HW6
  cases ok with
  | false =>
    obtain rfl : ev = 3 := HEV.out
    have HL0 := Lib.hid (Later.refl W6)
    have ZF0 : Hid (∀ s, W6.heap.size ≤ s → W6.heap.size ≤ s) := Lib.hid (fun _ h => h)
    have ZS0 : Hid (∀ V, Later W6 V → (Later W6) V) := Lib.hid (fun _ h => h)
    refine walk_start 29 (S := Later W6) (T := Later W6) (by kernel_rfl) (fun r => W6.heap.size ≤ r) (fun _ h => h.size) ZS0.out (closed_later _) (Later.refl _).drew ?_
    refine walk_take (i := 0) (d := some 24) (v := ?_) rfl rfl (by kernel_rfl) (fun _ _ _ h => h) (Or.inl ⟨by rfl, fun V hV => ?_⟩) ?_
    rotate_left 1
    · (clear hV; go_simp; (try with_reducible rfl))
    try simp only [Act.put, List.setIfInBounds_toArray, List.set_cons_zero, List.set_cons_succ]
    refine walk_take (i := 1) (d := some 25) (v := ?_) rfl rfl (by kernel_rfl) (fun _ _ _ h => h) (Or.inl ⟨by rfl, fun V hV => ?_⟩) ?_
    rotate_left 1
    · (clear hV; go_simp; (try with_reducible rfl))
    try simp only [Act.put, List.setIfInBounds_toArray, List.set_cons_zero, List.set_cons_succ]
    refine walk_take (i := 2) (d := some 26) (v := ?_) rfl rfl (by kernel_rfl) (fun _ _ _ h => h) (Or.inl ⟨by rfl, fun V hV => ?_⟩) ?_
    rotate_left 1
    · (clear hV; go_simp; (try with_reducible rfl))
    try simp only [Act.put, List.setIfInBounds_toArray, List.set_cons_zero, List.set_cons_succ]
    refine walk_take (i := 3) (d := some 27) (v := ?_) rfl rfl (by kernel_rfl) (fun _ _ _ h => h) (Or.inl ⟨by rfl, fun V hV => ?_⟩) ?_
    rotate_left 1
    · (clear hV; go_simp; (try with_reducible rfl))
    try simp only [Act.put, List.setIfInBounds_toArray, List.set_cons_zero, List.set_cons_succ]
    refine walk_take (i := 4) (d := some 28) (v := ?_) rfl rfl (by kernel_rfl) (fun _ _ _ h => h) (Or.inl ⟨by rfl, fun V hV => ?_⟩) ?_
    rotate_left 1
    · (clear hV; go_simp; (try with_reducible rfl))
    try simp only [Act.put, List.setIfInBounds_toArray, List.set_cons_zero, List.set_cons_succ]
    refine walk_take (i := 5) (d := some 29) (v := ?_) rfl rfl (by kernel_rfl) (fun _ _ _ h => h) (Or.inl ⟨by rfl, fun V hV => ?_⟩) ?_
    rotate_left 1
    · (clear hV; go_simp; (try with_reducible rfl))
    try simp only [Act.put, List.setIfInBounds_toArray, List.set_cons_zero, List.set_cons_succ]
    refine walk_take (i := 6) (d := some 30) (v := ?_) rfl rfl (by kernel_rfl) (fun _ _ _ h => h) (Or.inl ⟨by rfl, fun V hV => ?_⟩) ?_
    rotate_left 1
    · (clear hV; go_simp; (try with_reducible rfl))
    try simp only [Act.put, List.setIfInBounds_toArray, List.set_cons_zero, List.set_cons_succ]
    refine walk_take (i := 7) (d := some 31) (v := ?_) rfl rfl (by kernel_rfl) (fun _ _ _ h => h) (Or.inl ⟨by rfl, fun V hV => ?_⟩) ?_
    rotate_left 1
    · (clear hV; go_simp; (try with_reducible rfl))
    try simp only [Act.put, List.setIfInBounds_toArray, List.set_cons_zero, List.set_cons_succ]
    refine walk_take (i := 8) (d := some 32) (v := ?_) rfl rfl (by kernel_rfl) (fun _ _ _ h => h) (Or.inl ⟨by rfl, fun V hV => ?_⟩) ?_
    rotate_left 1
    · (clear hV; go_simp; (try with_reducible rfl))
    try simp only [Act.put, List.setIfInBounds_toArray, List.set_cons_zero, List.set_cons_succ]
    refine walk_take (i := 9) (d := some 33) (v := ?_) rfl rfl (by kernel_rfl) (fun _ _ _ h => h) (Or.inl ⟨by rfl, fun V hV => ?_⟩) ?_
    rotate_left 1
    · (clear hV; go_simp; (try with_reducible rfl))
    try simp only [Act.put, List.setIfInBounds_toArray, List.set_cons_zero, List.set_cons_succ]
    refine walk_take (i := 10) (d := some 34) (v := ?_) rfl rfl (by kernel_rfl) (fun _ _ _ h => h) (Or.inl ⟨by rfl, fun V hV => ?_⟩) ?_
    rotate_left 1
    · (clear hV; go_simp; (try with_reducible rfl))
    try simp only [Act.put, List.setIfInBounds_toArray, List.set_cons_zero, List.set_cons_succ]
    refine walk_take (i := 11) (d := some 35) (v := ?_) rfl rfl (by kernel_rfl) (fun _ _ _ h => h) (Or.inl ⟨by rfl, fun V hV => ?_⟩) ?_
    rotate_left 1
    · (clear hV; go_simp; (try with_reducible rfl))
    try simp only [Act.put, List.setIfInBounds_toArray, List.set_cons_zero, List.set_cons_succ]
    refine walk_take (i := 12) (d := some 36) (v := ?_) rfl rfl (by kernel_rfl) (fun _ _ _ h => h) (Or.inl ⟨by rfl, fun V hV => ?_⟩) ?_
    rotate_left 1
    · (obtain ⟨⟨q0, q1, q2, q3⟩, ⟨y0, y1, y2, y3⟩, cv⟩ := SF.out V (HL0.out.trans hV); clear hV; go_simp; (try with_reducible rfl))
    try simp only [Act.put, List.setIfInBounds_toArray, List.set_cons_zero, List.set_cons_succ]
    refine walk_take (i := 13) (d := some 37) (v := ?_) rfl rfl (by kernel_rfl) (fun _ _ _ h => h) (Or.inl ⟨by rfl, fun V hV => ?_⟩) ?_
    rotate_left 1
    · (obtain ⟨⟨q0, q1, q2, q3⟩, ⟨y0, y1, y2, y3⟩, cv⟩ := SF.out V (HL0.out.trans hV); clear hV; go_simp; (try with_reducible rfl))
    try simp only [Act.put, List.setIfInBounds_toArray, List.set_cons_zero, List.set_cons_succ]
    refine walk_core 14 rfl (by kernel_rfl) (fun _ _ _ _ _ h => h) (fun V hV K hK => ?_)
    have hV0 := HL0.out.trans hV
    go_simp
    go_at_call 45
    refine (CSM.out V _ _ _ _ _ _ _ _ _ _ _ _ (HP6.out.below hV0) (HQ6.out.below hV0)).mono ?_
    rintro e x14 ⟨rfl, hb⟩
    have HT14 := Lib.hid (hV.of hb)
    have HL1 := Lib.hid (hV0.of hb)
    have hsize := hb.size
    have hkeep := fun (r : Nat) (_ : True) (h : r < V.heap.size) => hb.block r h
    have ZF1 : Hid (∀ s, x14.heap.size ≤ s → _) := Lib.hid (fun s h => ZF0.out s (Nat.le_trans hV.size (Nat.le_trans hsize h)))
    refine hK.out _ _ (Later x14) (Later x14) _ (fun r _ h => hkeep r trivial h) (fun _ h _ => h) (fun V' h => (hV.of hb).trans h) (fun _ h => h) (fun V' h => ZF1.out _ h.size) (Later.refl _) (closed_later _) ?_
    clear hK K hV hsize hkeep hV0 hb
    try simp only [Act.put, List.setIfInBounds_toArray, List.set_cons_zero, List.set_cons_succ]
    refine walk_take (i := 15) (d := some 39) (v := ?_) rfl rfl (by kernel_rfl) (fun _ _ _ h => h) (Or.inl ⟨by rfl, fun V hV => ?_⟩) ?_
    rotate_left 1
    · (clear hV; go_simp; (try with_reducible rfl))
    try simp only [Act.put, List.setIfInBounds_toArray, List.set_cons_zero, List.set_cons_succ]
    refine walk_take (i := 16) (d := some 40) (v := ?_) rfl rfl (by kernel_rfl) (fun _ _ _ h => h) (Or.inl ⟨by rfl, fun V hV => ?_⟩) ?_
    rotate_left 1
    · (clear hV; go_simp; (try with_reducible rfl))
    try simp only [Act.put, List.setIfInBounds_toArray, List.set_cons_zero, List.set_cons_succ]
    refine walk_take (i := 17) (d := some 41) (v := ?_) rfl rfl (by kernel_rfl) (fun _ _ _ h => h) (Or.inl ⟨by rfl, fun V hV => ?_⟩) ?_
    rotate_left 1
    · (clear hV; go_simp; (try with_reducible rfl))
    try simp only [Act.put, List.setIfInBounds_toArray, List.set_cons_zero, List.set_cons_succ]
    refine walk_take (i := 18) (d := some 42) (v := ?_) rfl rfl (by kernel_rfl) (fun _ _ _ h => h) (Or.inl ⟨by rfl, fun V hV => ?_⟩) ?_
    rotate_left 1
    · (clear hV; go_simp; (try with_reducible rfl))
    try simp only [Act.put, List.setIfInBounds_toArray, List.set_cons_zero, List.set_cons_succ]
    refine walk_take (i := 19) (d := some 43) (v := ?_) rfl rfl (by kernel_rfl) (fun _ _ _ h => h) (Or.inl ⟨by rfl, fun V hV => ?_⟩) ?_
    rotate_left 1
    · (clear hV; go_simp; (try with_reducible rfl))
    try simp only [Act.put, List.setIfInBounds_toArray, List.set_cons_zero, List.set_cons_succ]
    refine walk_take (i := 20) (d := some 44) (v := undef) rfl rfl (by kernel_rfl) (fun _ _ _ h => h) (Or.inr ⟨by rfl, rfl⟩) ?_
    try simp only [Act.put, List.setIfInBounds_toArray, List.set_cons_zero, List.set_cons_succ]
    refine walk_take (i := 21) (d := some 45) (v := undef) rfl rfl (by kernel_rfl) (fun _ _ _ h => h) (Or.inr ⟨by rfl, rfl⟩) ?_
    try simp only [Act.put, List.setIfInBounds_toArray, List.set_cons_zero, List.set_cons_succ]
    refine walk_take (i := 22) (d := some 46) (v := undef) rfl rfl (by kernel_rfl) (fun _ _ _ h => h) (Or.inr ⟨by rfl, rfl⟩) ?_
    try simp only [Act.put, List.setIfInBounds_toArray, List.set_cons_zero, List.set_cons_succ]
    refine walk_take (i := 23) (d := some 47) (v := undef) rfl rfl (by kernel_rfl) (fun _ _ _ h => h) (Or.inr ⟨by rfl, rfl⟩) ?_
    try simp only [Act.put, List.setIfInBounds_toArray, List.set_cons_zero, List.set_cons_succ]
    refine walk_take (i := 24) (d := some 48) (v := undef) rfl rfl (by kernel_rfl) (fun _ _ _ h => h) (Or.inr ⟨by rfl, rfl⟩) ?_
    try simp only [Act.put, List.setIfInBounds_toArray, List.set_cons_zero, List.set_cons_succ]
    refine walk_take (i := 25) (d := some 49) (v := undef) rfl rfl (by kernel_rfl) (fun _ _ _ h => h) (Or.inr ⟨by rfl, rfl⟩) ?_
    try simp only [Act.put, List.setIfInBounds_toArray, List.set_cons_zero, List.set_cons_succ]
    refine walk_take (i := 26) (d := some 50) (v := ?_) rfl rfl (by kernel_rfl) (fun _ _ _ h => h) (Or.inl ⟨by rfl, fun V hV => ?_⟩) ?_
    rotate_left 1
    · (clear hV; go_simp; (try with_reducible rfl))
    try simp only [Act.put, List.setIfInBounds_toArray, List.set_cons_zero, List.set_cons_succ]
    refine walk_take (i := 27) (d := some 51) (v := ?_) rfl rfl (by kernel_rfl) (fun _ _ _ h => h) (Or.inl ⟨by rfl, fun V hV => ?_⟩) ?_
    rotate_left 1
    · (clear hV; go_simp; (try with_reducible rfl))
    try simp only [Act.put, List.setIfInBounds_toArray, List.set_cons_zero, List.set_cons_succ]
    refine walk_take (i := 28) (d := some 2) (v := ?_) rfl rfl (by kernel_rfl) (fun _ _ _ h => h) (Or.inl ⟨by rfl, fun V hV => ?_⟩) ?_
    rotate_left 1
    · (clear hV; go_simp; (try with_reducible rfl))
    try simp only [Act.put, List.setIfInBounds_toArray, List.set_cons_zero, List.set_cons_succ]
    refine walk_exit (fun V hV => wpAnyJ_done (by kernel_rfl) ?_ _)
    have hV0 := HL1.out.trans hV
    have HZ : Hid (Below w.heap.size w V) := Lib.hid (HB6.out.trans ((show Below _ _ _ from hV0).mono HB6.out.size))
    clear hV hV0
    go_wp2_with fail
    go_ret
    exact ⟨rfl, HZ.out⟩
  | true =>
    obtain rfl : ev = 0 := HEV.out
    have HL0 := Lib.hid (Later.refl W6)
    have ZF0 : Hid (∀ s, W6.heap.size ≤ s → W6.heap.size ≤ s) := Lib.hid (fun _ h => h)
    have ZS0 : Hid (∀ V, Later W6 V → (Later W6) V) := Lib.hid (fun _ h => h)
    refine walk_start 29 (S := Later W6) (T := Later W6) (by kernel_rfl) (fun r => W6.heap.size ≤ r) (fun _ h => h.size) ZS0.out (closed_later _) (Later.refl _).drew ?_
    refine walk_take (i := 0) (d := some 24) (v := ?_) rfl rfl (by kernel_rfl) (fun _ _ _ h => h) (Or.inl ⟨by rfl, fun V hV => ?_⟩) ?_
    rotate_left 1
    · (clear hV; go_simp; (try with_reducible rfl))
    try simp only [Act.put, List.setIfInBounds_toArray, List.set_cons_zero, List.set_cons_succ]
    refine walk_take (i := 1) (d := some 25) (v := ?_) rfl rfl (by kernel_rfl) (fun _ _ _ h => h) (Or.inl ⟨by rfl, fun V hV => ?_⟩) ?_
    rotate_left 1
    · (clear hV; go_simp; (try with_reducible rfl))
    try simp only [Act.put, List.setIfInBounds_toArray, List.set_cons_zero, List.set_cons_succ]
    refine walk_take (i := 2) (d := some 26) (v := ?_) rfl rfl (by kernel_rfl) (fun _ _ _ h => h) (Or.inl ⟨by rfl, fun V hV => ?_⟩) ?_
    rotate_left 1
    · (clear hV; go_simp; (try with_reducible rfl))
    try simp only [Act.put, List.setIfInBounds_toArray, List.set_cons_zero, List.set_cons_succ]
    refine walk_take (i := 3) (d := some 27) (v := ?_) rfl rfl (by kernel_rfl) (fun _ _ _ h => h) (Or.inl ⟨by rfl, fun V hV => ?_⟩) ?_
    rotate_left 1
    · (clear hV; go_simp; (try with_reducible rfl))
    try simp only [Act.put, List.setIfInBounds_toArray, List.set_cons_zero, List.set_cons_succ]
    refine walk_take (i := 4) (d := some 28) (v := ?_) rfl rfl (by kernel_rfl) (fun _ _ _ h => h) (Or.inl ⟨by rfl, fun V hV => ?_⟩) ?_
    rotate_left 1
    · (clear hV; go_simp; (try with_reducible rfl))
    try simp only [Act.put, List.setIfInBounds_toArray, List.set_cons_zero, List.set_cons_succ]
    refine walk_take (i := 5) (d := some 29) (v := ?_) rfl rfl (by kernel_rfl) (fun _ _ _ h => h) (Or.inl ⟨by rfl, fun V hV => ?_⟩) ?_
    rotate_left 1
    · (clear hV; go_simp; (try with_reducible rfl))
    try simp only [Act.put, List.setIfInBounds_toArray, List.set_cons_zero, List.set_cons_succ]
    refine walk_take (i := 6) (d := some 30) (v := ?_) rfl rfl (by kernel_rfl) (fun _ _ _ h => h) (Or.inl ⟨by rfl, fun V hV => ?_⟩) ?_
    rotate_left 1
    · (clear hV; go_simp; (try with_reducible rfl))
    try simp only [Act.put, List.setIfInBounds_toArray, List.set_cons_zero, List.set_cons_succ]
    refine walk_take (i := 7) (d := some 31) (v := undef) rfl rfl (by kernel_rfl) (fun _ _ _ h => h) (Or.inr ⟨by rfl, rfl⟩) ?_
    try simp only [Act.put, List.setIfInBounds_toArray, List.set_cons_zero, List.set_cons_succ]
    refine walk_take (i := 8) (d := some 32) (v := undef) rfl rfl (by kernel_rfl) (fun _ _ _ h => h) (Or.inr ⟨by rfl, rfl⟩) ?_
    try simp only [Act.put, List.setIfInBounds_toArray, List.set_cons_zero, List.set_cons_succ]
    refine walk_take (i := 9) (d := some 33) (v := ?_) rfl rfl (by kernel_rfl) (fun _ _ _ h => h) (Or.inl ⟨by rfl, fun V hV => ?_⟩) ?_
    rotate_left 1
    · (clear hV; go_simp; (try with_reducible rfl))
    try simp only [Act.put, List.setIfInBounds_toArray, List.set_cons_zero, List.set_cons_succ]
    refine walk_take (i := 10) (d := some 34) (v := ?_) rfl rfl (by kernel_rfl) (fun _ _ _ h => h) (Or.inl ⟨by rfl, fun V hV => ?_⟩) ?_
    rotate_left 1
    · (clear hV; go_simp; (try with_reducible rfl))
    try simp only [Act.put, List.setIfInBounds_toArray, List.set_cons_zero, List.set_cons_succ]
    refine walk_take (i := 11) (d := some 35) (v := ?_) rfl rfl (by kernel_rfl) (fun _ _ _ h => h) (Or.inl ⟨by rfl, fun V hV => ?_⟩) ?_
    rotate_left 1
    · (clear hV; go_simp; (try with_reducible rfl))
    try simp only [Act.put, List.setIfInBounds_toArray, List.set_cons_zero, List.set_cons_succ]
    refine walk_take (i := 12) (d := some 36) (v := ?_) rfl rfl (by kernel_rfl) (fun _ _ _ h => h) (Or.inl ⟨by rfl, fun V hV => ?_⟩) ?_
    rotate_left 1
    · (obtain ⟨⟨q0, q1, q2, q3⟩, ⟨y0, y1, y2, y3⟩, cv⟩ := SF.out V (HL0.out.trans hV); clear hV; go_simp; (try with_reducible rfl))
    try simp only [Act.put, List.setIfInBounds_toArray, List.set_cons_zero, List.set_cons_succ]
    refine walk_take (i := 13) (d := some 37) (v := ?_) rfl rfl (by kernel_rfl) (fun _ _ _ h => h) (Or.inl ⟨by rfl, fun V hV => ?_⟩) ?_
    rotate_left 1
    · (obtain ⟨⟨q0, q1, q2, q3⟩, ⟨y0, y1, y2, y3⟩, cv⟩ := SF.out V (HL0.out.trans hV); clear hV; go_simp; (try with_reducible rfl))
    try simp only [Act.put, List.setIfInBounds_toArray, List.set_cons_zero, List.set_cons_succ]
    refine walk_core 14 rfl (by kernel_rfl) (fun _ _ _ _ _ h => h) (fun V hV K hK => ?_)
    have hV0 := HL0.out.trans hV
    go_simp
    go_at_call 45
    refine (CSM.out V _ _ _ _ _ _ _ _ _ _ _ _ (HP6.out.below hV0) (HQ6.out.below hV0)).mono ?_
    rintro e x14 ⟨rfl, hb⟩
    have HT14 := Lib.hid (hV.of hb)
    have HL1 := Lib.hid (hV0.of hb)
    have hsize := hb.size
    have hkeep := fun (r : Nat) (_ : True) (h : r < V.heap.size) => hb.block r h
    have ZF1 : Hid (∀ s, x14.heap.size ≤ s → _) := Lib.hid (fun s h => ZF0.out s (Nat.le_trans hV.size (Nat.le_trans hsize h)))
    refine hK.out _ _ (Later x14) (Later x14) _ (fun r _ h => hkeep r trivial h) (fun _ h _ => h) (fun V' h => (hV.of hb).trans h) (fun _ h => h) (fun V' h => ZF1.out _ h.size) (Later.refl _) (closed_later _) ?_
    clear hK K hV hsize hkeep hV0 hb
    try simp only [Act.put, List.setIfInBounds_toArray, List.set_cons_zero, List.set_cons_succ]
    refine walk_take (i := 15) (d := some 39) (v := ?_) rfl rfl (by kernel_rfl) (fun _ _ _ h => h) (Or.inl ⟨by rfl, fun V hV => ?_⟩) ?_
    rotate_left 1
    · (clear hV; go_simp; (try with_reducible rfl))
    try simp only [Act.put, List.setIfInBounds_toArray, List.set_cons_zero, List.set_cons_succ]
    refine walk_take (i := 16) (d := some 40) (v := ?_) rfl rfl (by kernel_rfl) (fun _ _ _ h => h) (Or.inl ⟨by rfl, fun V hV => ?_⟩) ?_
    rotate_left 1
    · (clear hV; go_simp; (try with_reducible rfl))
    try simp only [Act.put, List.setIfInBounds_toArray, List.set_cons_zero, List.set_cons_succ]
    refine walk_take (i := 17) (d := some 41) (v := ?_) rfl rfl (by kernel_rfl) (fun _ _ _ h => h) (Or.inl ⟨by rfl, fun V hV => ?_⟩) ?_
    rotate_left 1
    · (clear hV; go_simp; (try with_reducible rfl))
    try simp only [Act.put, List.setIfInBounds_toArray, List.set_cons_zero, List.set_cons_succ]
    refine walk_take (i := 18) (d := some 42) (v := ?_) rfl rfl (by kernel_rfl) (fun _ _ _ h => h) (Or.inl ⟨by rfl, fun V hV => ?_⟩) ?_
    rotate_left 1
    · (clear hV; go_simp; (try with_reducible rfl))
    try simp only [Act.put, List.setIfInBounds_toArray, List.set_cons_zero, List.set_cons_succ]
    refine walk_take (i := 19) (d := some 43) (v := ?_) rfl rfl (by kernel_rfl) (fun _ _ _ h => h) (Or.inl ⟨by rfl, fun V hV => ?_⟩) ?_
    rotate_left 1
    · (clear hV; go_simp; (try with_reducible rfl))
    try simp only [Act.put, List.setIfInBounds_toArray, List.set_cons_zero, List.set_cons_succ]
    refine walk_take (i := 20) (d := some 44) (v := ?_) rfl rfl (by kernel_rfl) (fun _ _ _ h => h) (Or.inl ⟨by rfl, fun V hV => ?_⟩) ?_
    rotate_left 1
    · (obtain ⟨⟨q0, q1, q2, q3⟩, ⟨y0, y1, y2, y3⟩, cv⟩ := SF.out V (HL1.out.trans hV); clear hV; go_simp; (try with_reducible rfl))
    try simp only [Act.put, List.setIfInBounds_toArray, List.set_cons_zero, List.set_cons_succ]
    refine walk_take (i := 23) (d := some 47) (v := ?_) rfl rfl (by kernel_rfl) (fun _ _ _ h => h) (Or.inl ⟨by rfl, fun V hV => ?_⟩) ?_
    rotate_left 1
    · (clear hV; go_simp; (try with_reducible rfl))
    try simp only [Act.put, List.setIfInBounds_toArray, List.set_cons_zero, List.set_cons_succ]
    refine walk_take (i := 24) (d := some 48) (v := ?_) rfl rfl (by kernel_rfl) (fun _ _ _ h => h) (Or.inl ⟨by rfl, fun V hV => ?_⟩) ?_
    rotate_left 1
    · (obtain ⟨⟨q0, q1, q2, q3⟩, ⟨y0, y1, y2, y3⟩, cv⟩ := SF.out V (HL1.out.trans hV); clear hV; go_simp; (try with_reducible rfl))
    try simp only [Act.put, List.setIfInBounds_toArray, List.set_cons_zero, List.set_cons_succ]
    refine walk_core 21 rfl (by kernel_rfl) (fun _ _ _ _ _ h => h) (fun V hV K hK => ?_)
    have hV0 := HL1.out.trans hV
    go_simp
    go_at_call 42
    refine (CEN.out V _ _ _ _ _ _ rfl (HP6.out.below hV0)).mono ?_
    rintro e x21 ⟨hb, Ae, ce, rfl, cve⟩
    have CVE := Lib.hid cve
    clear cve
    have HT21 := Lib.hid (hV.of hb)
    have HL2 := Lib.hid (hV0.of hb)
    have hsize := hb.size
    have hkeep := fun (r : Nat) (_ : True) (h : r < V.heap.size) => hb.block r h
    have ZF2 : Hid (∀ s, x21.heap.size ≤ s → _) := Lib.hid (fun s h => ZF1.out s (Nat.le_trans hV.size (Nat.le_trans hsize h)))
    refine hK.out _ _ (Later x21) (Later x21) _ (fun r _ h => hkeep r trivial h) (fun _ h _ => h) (fun V' h => (hV.of hb).trans h) (fun _ h => h) (fun V' h => ZF2.out _ h.size) (Later.refl _) (closed_later _) ?_
    clear hK K hV hsize hkeep hV0 hb
    try simp only [Act.put, List.setIfInBounds_toArray, List.set_cons_zero, List.set_cons_succ]
    refine walk_take (i := 22) (d := some 46) (v := ?_) rfl rfl (by kernel_rfl) (fun _ _ _ h => h) (Or.inl ⟨by rfl, fun V hV => ?_⟩) ?_
    rotate_left 1
    · (have cve := CVE.out V hV; clear hV; go_simp; (try with_reducible rfl))
    try simp only [Act.put, List.setIfInBounds_toArray, List.set_cons_zero, List.set_cons_succ]
    refine walk_take (i := 25) (d := some 49) (v := ?_) rfl rfl (by kernel_rfl) (fun _ _ _ h => h) (Or.inl ⟨by rfl, fun V hV => ?_⟩) ?_
    rotate_left 1
    · (clear hV; go_simp; (try with_reducible rfl))
    try simp only [Act.put, List.setIfInBounds_toArray, List.set_cons_zero, List.set_cons_succ]
    refine walk_take (i := 26) (d := some 50) (v := ?_) rfl rfl (by kernel_rfl) (fun _ _ _ h => h) (Or.inl ⟨by rfl, fun V hV => ?_⟩) ?_
    rotate_left 1
    · (clear hV; go_simp; (try with_reducible rfl))
    try simp only [Act.put, List.setIfInBounds_toArray, List.set_cons_zero, List.set_cons_succ]
    refine walk_take (i := 27) (d := some 51) (v := ?_) rfl rfl (by kernel_rfl) (fun _ _ _ h => h) (Or.inl ⟨by rfl, fun V hV => ?_⟩) ?_
    rotate_left 1
    · (clear hV; go_simp; (try with_reducible rfl))
    try simp only [Act.put, List.setIfInBounds_toArray, List.set_cons_zero, List.set_cons_succ]
    refine walk_take (i := 28) (d := some 2) (v := ?_) rfl rfl (by kernel_rfl) (fun _ _ _ h => h) (Or.inl ⟨by rfl, fun V hV => ?_⟩) ?_
    rotate_left 1
    · (clear hV; go_simp; (try with_reducible rfl))
    try simp only [Act.put, List.setIfInBounds_toArray, List.set_cons_zero, List.set_cons_succ]
    refine walk_exit (fun V hV => wpAnyJ_done (by kernel_rfl) ?_ _)
    have hV0 := HL2.out.trans hV
    have HZ : Hid (Below w.heap.size w V) := Lib.hid (HB6.out.trans ((show Below _ _ _ from hV0).mono HB6.out.size))
    clear hV hV0
    go_wp2_with fail
    go_ret
    exact ⟨rfl, HZ.out⟩
end
end Go.Proofs.Ytlbikfamjogpnaa
end
