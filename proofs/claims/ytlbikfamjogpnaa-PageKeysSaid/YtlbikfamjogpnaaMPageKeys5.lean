/- The texts of this proof, joined: contracts of the functions that the law reaches, and what they come to in plain Lean. Conditions: those that each theorem names. -/
import Derived.Test.YtlbikfamjogpnaaMPageKeys4
import Derived.Test.YtlbikfamjogpnaaMPageKeys0
import Derived.Test.YtlbikfamjogpnaaMPageKeys3
import Derived.Lib.SmallJoins
import Derived.WideShapes
import Derived.OpenShut

/- page.Split of a branch: what it answers; and of any page that may be. Conditions: the page reads in memory and is small. -/
section
namespace Go.Proofs.Ytlbikfamjogpnaa
open Go.RowKit Go.Proofs.YtlbikfamjogpnaaW.PrintWords Go.Proofs.Ytlbikfamjogpnaa.QPage
set_option linter.unusedVariables false
set_option linter.unusedSimpArgs false

/-- A branch's halves. -/
def brA (ks : List ByteArray) (ns : List Int) : Pg := ⟨false, ks.take (ks.length / 2), [], ns.take (ks.length / 2 + 1)⟩
def brB (ks : List ByteArray) (ns : List Int) : Pg := ⟨false, ks.drop (ks.length / 2 + 1), [], ns.drop (ks.length / 2 + 1)⟩
section
variable {w : World} {A1 A2 A3 : Option Addr} {c1 c2 c3 : Nat} {ks vs : List ByteArray} {ns : List Int}
set_option maxRecDepth 100000 in
set_option maxHeartbeats 8000000 in
theorem split_branch (h : PgR w A1 c1 A2 c2 A3 c3 ⟨false, ks, vs, ns⟩) (hs : Small ⟨false, ks, vs, ns⟩) (hv : ns.length = ks.length + 1) (h2 : 3 ≤ ks.length) :
    Calls Try.prog 37 #[pgv A1 c1 A2 c2 A3 c3 ⟨false, ks, vs, ns⟩] w (SplitPost w (brA ks ns) (brB ks ns) (ks.getD (ks.length / 2) ByteArray.empty)) := by
  obtain ⟨p, hp⟩ : ∃ p : Pg, p = ⟨false, ks, vs, ns⟩ := ⟨_, rfl⟩
  have hpk : p.keys = ks := by rw [hp]
  have hpv : p.vals = vs := by rw [hp]
  have hn60 : ks.length ≤ 60 := hs.1
  obtain ⟨W0, hW0⟩ : ∃ W0, W0 = w.alloc (.cells #[.bool false, .slice A1 ks.length c1, .slice A2 vs.length c2, .slice A3 ns.length c3] 67) := ⟨_, rfl⟩
  obtain ⟨W1, hW1⟩ : ∃ W1, W1 = W0.alloc (.cells #[.bool false, .slice none 0 0, .slice none 0 0, .slice none 0 0] 67) := ⟨_, rfl⟩
  obtain ⟨W2, hW2⟩ : ∃ W2, W2 = W1.alloc (.cells #[.bool false, .slice none 0 0, .slice none 0 0, .slice none 0 0] 67) := ⟨_, rfl⟩
  have hb0 : Below w.heap.size w W0 := by rw [hW0]; exact (Below.refl _ _).alloc (Nat.le_refl _) _
  have hs0 : W0.heap.size = w.heap.size + 1 := by rw [hW0]; simp
  have hb1 : Below w.heap.size w W1 := by rw [hW1]; exact hb0.alloc hb0.size _
  have hs1 : W1.heap.size = w.heap.size + 2 := by rw [hW1]; simp [hs0]
  have hb2 : Below w.heap.size w W2 := by rw [hW2]; exact hb1.alloc hb1.size _
  have hs2 : W2.heap.size = w.heap.size + 3 := by rw [hW2]; simp [hs1]
  have kp : Blk W2 w.heap.size 67 #[.bool false, .slice A1 ks.length c1, .slice A2 vs.length c2, .slice A3 ns.length c3] := by rw [hW2, hW1, hW0]; exact ((Blk.new _ _ _).alloc _).alloc _
  have kx : Blk W2 (w.heap.size + 1) 67 #[.bool false, .slice none 0 0, .slice none 0 0, .slice none 0 0] := by rw [hW2, hW1, ← hs0]; exact (Blk.new _ _ _).alloc _
  have ky : Blk W2 (w.heap.size + 2) 67 #[.bool false, .slice none 0 0, .slice none 0 0, .slice none 0 0] := by rw [hW2, ← hs1]; exact Blk.new _ _ _
  obtain ⟨q0, q1, q2, q3⟩ := cells4 kp
  have HC := Lib.hid (pgn_clone (h.below hb2) hs.few)
  have HKP := Lib.hid kp
  have HKX := Lib.hid kx
  have HKY := Lib.hid ky
  have HB2 := Lib.hid hb2
  have HS2 := Lib.hid hs2
  have HS := Lib.hid hs
  have HP := Lib.hid hp
  have HPK := Lib.hid hpk
  have HPV := Lib.hid hpv
  have HV := Lib.hid hv
  have HW0 := Lib.hid hW0
  have HW1 := Lib.hid hW1
  have HW2 := Lib.hid hW2
  have t1 : decide ((ks.length : Int) < 3) = false := decide_eq_false (by omega)
  have t2 : decide (ks.length < 3) = false := decide_eq_false (by omega)
  clear h hs hW0 hW1 hW2 hb0 hb1 hb2 hs0 hs1 hs2 kp kx ky hp hpk hpv hv
  unfold pgv
  dsimp only
  go_enter Try.func37, Try.ntmps37
  go_upto_region 1 with fail
  rw [← HW0.out, ← HW1.out, ← HW2.out]
  go_wp2_with fail
  refine HC.out.mono ?_
  rintro e w3 ⟨hb3, B1, d1, B2, d2, B3, d3, he, hp3⟩
  unfold pgv at he
  dsimp only at he
  subst he
  obtain ⟨W4, hW4⟩ : ∃ W4, W4 = (((w3.setCell ⟨w.heap.size, 0, none⟩ (.bool false)).setCell ⟨w.heap.size, 1, none⟩ (.slice B1 ks.length d1)).setCell ⟨w.heap.size, 2, none⟩ (.slice B2 vs.length d2)).setCell ⟨w.heap.size, 3, none⟩ (.slice B3 ns.length d3) := ⟨_, rfl⟩
  have kp3 : Blk w3 w.heap.size 67 #[.bool false, .slice A1 ks.length c1, .slice A2 vs.length c2, .slice A3 ns.length c3] := HKP.out.below hb3 (by rw [HS2.out]; omega)
  have kx3 : Blk w3 (w.heap.size + 1) 67 #[.bool false, .slice none 0 0, .slice none 0 0, .slice none 0 0] := HKX.out.below hb3 (by rw [HS2.out]; omega)
  have ky3 : Blk w3 (w.heap.size + 2) 67 #[.bool false, .slice none 0 0, .slice none 0 0, .slice none 0 0] := HKY.out.below hb3 (by rw [HS2.out]; omega)
  have hp4 : PgN W4 (w.heap.size + 3) B1 d1 B2 d2 B3 d3 ⟨false, ks, vs, ns⟩ := by
    rw [hW4]
    have := hp3
    rw [HS2.out] at this
    exact this.far4 (by omega) _ _ _ _
  have kp4 : Blk W4 w.heap.size 67 #[.bool false, .slice B1 ks.length d1, .slice B2 vs.length d2, .slice B3 ns.length d3] := by rw [hW4]; exact set4 kp3
  have far4 : ∀ {g : Nat} {t : TypeId} {cs : Array Value}, g ≠ w.heap.size → Blk w3 g t cs → Blk W4 g t cs := fun hne hg => by
    rw [hW4]
    exact (((hg.far (p := ⟨w.heap.size, 0, none⟩) hne _).far (p := ⟨w.heap.size, 1, none⟩) hne _).far (p := ⟨w.heap.size, 2, none⟩) hne _).far (p := ⟨w.heap.size, 3, none⟩) hne _
  have kx4 := far4 (by omega) kx3
  have ky4 := far4 (by omega) ky3
  have hb4 : Below w.heap.size w W4 := by
    rw [hW4]
    exact ((((HB2.out.trans (hb3.mono HB2.out.size)).setCell (p := ⟨w.heap.size, 0, none⟩) (Nat.le_refl _) _).setCell (p := ⟨w.heap.size, 1, none⟩) (Nat.le_refl _) _).setCell (p := ⟨w.heap.size, 2, none⟩) (Nat.le_refl _) _).setCell (p := ⟨w.heap.size, 3, none⟩) (Nat.le_refl _) _
  have hs4 : w.heap.size + 3 ≤ W4.heap.size := by have := hb3.size; rw [HS2.out] at this; rw [hW4]; simpa using this
  obtain ⟨q0, q1, q2, q3⟩ := cells4 kp3
  have f0 := kp3.frozen 0
  have f1 := kp3.frozen 1
  have f2 := kp3.frozen 2
  have f3 := kp3.frozen 3
  obtain ⟨r0, r1, r2, r3⟩ := cells4 kp4
  have HP4 := Lib.hid hp4
  have HKP4 := Lib.hid kp4
  have HKX4 := Lib.hid kx4
  have HKY4 := Lib.hid ky4
  have HB4 := Lib.hid hb4
  have HS4 := Lib.hid hs4
  have HW4 := Lib.hid hW4
  clear hW4 kp3 kx3 ky3 hp3 hp4 kp4 kx4 ky4 hb4 hs4 far4 hb3 HC HKP HKX HKY HB2 HW0 HW1 HW2
  go_upto_region 6 with fail
  rw [← HW4.out]
  clear HW4
  clear q0 q1 q2 q3 f0 f1 f2 f3
  obtain ⟨m, hm⟩ : ∃ m, m = ks.length / 2 := ⟨_, rfl⟩
  have e2 : (ks.length : Int) / 2 = (m : Int) := by omega
  rw [e2]
  clear e2
  have HM := Lib.hid hm
  have hpr := HP4.out.pgr
  have hv := HV.out
  have hk1 : ks.length ≤ d1 := hpr.kc
  have hk3 : ns.length ≤ d3 := hpr.nc
  have hm1 : m + 1 ≤ ks.length := by omega
  obtain ⟨i0, hi0, hz0, hz1, hz2⟩ := info_parts cinfo_str
  obtain ⟨i1, hi1, hy0, hy1, hy2⟩ := info_parts cinfo_u64
  have r1 := cut_toc (P := Try.prog) 64 9 .i64 Try.underlying64 hi0 B1 ks.length d1 (m : Int) (by omega) (by omega) hk1
  have r2 := cut_toc (P := Try.prog) 65 32 .i64 Try.underlying65 hi1 B3 ns.length d3 ((m : Int) + 1) (by omega) (by omega) hk3
  rw [show (m : Int).toNat = m by omega] at r1
  rw [show ((m : Int) + 1).toNat = m + 1 by omega] at r2
  have r3 := cut_from (P := Try.prog) 64 9 .i64 Try.underlying64 hi0 1 hz1 B1 ks.length d1 ((m : Int) + 1) (by omega) (by omega)
  have r4 := cut_from (P := Try.prog) 65 32 .i64 Try.underlying65 hi1 1 hy1 B3 ns.length d3 ((m : Int) + 1) (by omega) (by omega)
  rw [show ((m : Int) + 1).toNat = m + 1 by omega] at r3 r4
  have x1 := Kd.C_take hpr.k (show m ≤ ks.length by omega)
  have x2 := Kd.C_take hpr.n (show m + 1 ≤ ns.length by omega)
  have x3 := Kd.C_drop hpr.k (show m + 1 ≤ ks.length by omega) hk1
  have x4 := Kd.C_drop hpr.n (show m + 1 ≤ ns.length by omega) hk3
  replace x3 : Kd.C Kd.string W4 (if d1 = m + 1 then B1 else B1.map (fun x => x.add ((m + 1) * 1))) (ks.drop (m + 1)).length (ks.drop (m + 1)) := x3
  replace x4 : Kd.C (Kd.int .u64) W4 (if d3 = m + 1 then B3 else B3.map (fun x => x.add ((m + 1) * 1))) (ns.drop (m + 1)).length (ns.drop (m + 1)) := x4
  generalize (if d1 = m + 1 then B1 else B1.map (fun x => x.add ((m + 1) * 1))) = Ab at *
  generalize (if d3 = m + 1 then B3 else B3.map (fun x => x.add ((m + 1) * 1))) = Ad at *
  have y1 : (ks.take m).length = m := by rw [List.length_take]; omega
  have y2 : (ns.take (m + 1)).length = m + 1 := by rw [List.length_take]; omega
  have y3 : (ks.drop (m + 1)).length = ks.length - (m + 1) := List.length_drop
  have y4 : (ns.drop (m + 1)).length = ns.length - (m + 1) := List.length_drop
  obtain ⟨kb, ko, rfl, hkc⟩ : ∃ b o, B1 = some ⟨b, o, none⟩ ∧ ∀ W', Later W4 W' → W'.cell? ⟨b, o + m, none⟩ = some (.string (ks.getD m ByteArray.empty)) := by
    obtain ⟨b, o, e, hc⟩ := strs_all hpr.k (show 0 < ks.length by omega)
    exact ⟨b, o, e, fun W' hW => hc m (show m < ks.length by omega) W' hW⟩
  have hap : PgR W4 (some ⟨kb, ko, none⟩) m none 0 B3 (m + 1) (brA ks ns) := by unfold brA; rw [← hm]; exact ⟨x1, Nat.le_of_eq y1, Kd.C_nil _ _, Nat.le_refl _, x2, Nat.le_of_eq y2⟩
  have hbp : PgR W4 Ab (d1 - (m + 1)) none 0 Ad (d3 - (m + 1)) (brB ks ns) := by unfold brB; rw [← hm]; exact ⟨x3, by show (ks.drop (m + 1)).length ≤ _; omega, Kd.C_nil _ _, Nat.le_refl _, x4, by show (ns.drop (m + 1)).length ≤ _; omega⟩
  have HAP := Lib.hid hap
  have HBP := Lib.hid hbp
  have HAL : Hid ((brA ks ns).keys.length = m ∧ (brA ks ns).kids.length = m + 1) := Lib.hid (by unfold brA; rw [← hm]; exact ⟨y1, y2⟩)
  have HBL : Hid ((brB ks ns).keys.length = ks.length - (m + 1) ∧ (brB ks ns).kids.length = ns.length - (m + 1)) := Lib.hid (by unfold brB; rw [← hm]; exact ⟨y3, y4⟩)
  have HKC := Lib.hid hkc
  generalize ks.length - (m + 1) = k1 at *
  generalize ns.length - (m + 1) = k2 at *
  generalize d1 - (m + 1) = kc1 at *
  generalize d3 - (m + 1) = kc2 at *
  have kp := HKP4.out
  have SF : Hid (∀ V, Later W4 V → V.cell? ⟨w.heap.size, 0, none⟩ = some (.bool false) ∧ V.cell? ⟨w.heap.size, 1, none⟩ = some (.slice (some ⟨kb, ko, none⟩) ks.length d1) ∧ V.cell? ⟨w.heap.size, 2, none⟩ = some (.slice B2 vs.length d2) ∧ V.cell? ⟨w.heap.size, 3, none⟩ = some (.slice B3 ns.length d3)) := Lib.hid fun V hV => cells4 (kp.below hV kp.lt)
  have i5 : (m : Int) < (ks.length : Int) := by omega
  have i6 : (0 : Int) ≤ (m : Int) := by omega
  have hz9 : Hid (ks.length ≤ 60) := Lib.hid hn60
  clear x1 x2 x3 x4 y1 y2 y3 y4 hap hbp hkc hpr hv hk1 hk3 kp hm hi0 hz0 hz1 hz2 hi1 hy0 hy1 hy2 h2 hm1
  go_upto_region 13 with fail
  clear r0 t1 t2
  have ew : IntKind.i64.wrap ((m : Int) + 1) = (m : Int) + 1 := IntWalk.i64_in _ (by omega)
  have HL0 := Lib.hid (Later.refl W4)
  have ZF0 : Hid (∀ s, W4.heap.size ≤ s → W4.heap.size ≤ s) := Lib.hid (fun _ h => h)
  have ZS0 : Hid (∀ V, Later W4 V → (Later W4) V) := Lib.hid (fun _ h => h)
  refine walk_start 14 (S := Later W4) (T := Later W4) (by kernel_rfl) (fun r => W4.heap.size ≤ r) (fun _ h => h.size) ZS0.out (closed_later _) (Later.refl _).drew ?_
  refine wt 0 75 ?_ (fun V hV => ?_) ?_
  rotate_left 1
  · (clear hV; go_simp; (try with_reducible rfl))
  try simp only [pa, List.set]
  refine wt 1 76 ?_ (fun V hV => ?_) ?_
  rotate_left 1
  · (obtain ⟨q0, q1, q2, q3⟩ := SF.out V ((HL0.out.trans hV)); clear hV; go_simp; (try with_reducible rfl))
  try simp only [pa, List.set]
  refine wt 2 77 ?_ (fun V hV => ?_) ?_
  rotate_left 1
  · (clear hV; go_simp; (try with_reducible rfl))
  try simp only [pa, List.set]
  refine wt 3 78 ?_ (fun V hV => ?_) ?_
  rotate_left 1
  · (clear hV; go_simp; (try with_reducible rfl))
  try simp only [pa, List.set]
  refine wt 4 79 ?_ (fun V hV => ?_) ?_
  rotate_left 1
  · (clear hV; go_simp; (try with_reducible rfl))
  try simp only [pa, List.set]
  refine wt 5 80 ?_ (fun V hV => ?_) ?_
  rotate_left 1
  · (clear hV; go_simp; (try with_reducible rfl))
  try simp only [pa, List.set]
  refine wt 6 81 ?_ (fun V hV => ?_) ?_
  rotate_left 1
  · (obtain ⟨q0, q1, q2, q3⟩ := SF.out V ((HL0.out.trans hV)); clear hV; go_simp; (try with_reducible rfl))
  try simp only [pa, List.set]
  refine wt 7 82 ?_ (fun V hV => ?_) ?_
  rotate_left 1
  · (clear hV; go_simp; (try with_reducible rfl))
  try simp only [pa, List.set]
  refine wt 8 83 ?_ (fun V hV => ?_) ?_
  rotate_left 1
  · (clear hV; go_simp; (try with_reducible rfl))
  try simp only [pa, List.set]
  refine wt 9 84 ?_ (fun V hV => ?_) ?_
  rotate_left 1
  · (clear hV; go_simp; (try with_reducible rfl))
  try simp only [pa, List.set]
  refine wt 10 85 ?_ (fun V hV => ?_) ?_
  rotate_left 1
  · (clear hV; go_simp; (try with_reducible rfl))
  try simp only [pa, List.set]
  refine wt 11 86 ?_ (fun V hV => ?_) ?_
  rotate_left 1
  · (clear hV; go_simp; (try with_reducible rfl))
  try simp only [pa, List.set]
  refine wt 12 87 ?_ (fun V hV => ?_) ?_
  rotate_left 1
  · (clear hV; go_simp; (try with_reducible rfl))
  try simp only [pa, List.set]
  refine walk_pend ⟨13, 9, (.cells #[.bool false, .slice none 0 0, .slice none 0 0, .slice none 0 0] 67), fun r => .pointer (some ⟨r, 0, none⟩)⟩ ⟨_, rfl, rfl, rfl, fun W => ?_⟩ ?_
  · (go_simp; (try with_reducible rfl))
  refine walk_force (by kernel_rfl) (by kernel_rfl) (by kernel_rfl) (by kernel_rfl) (fun r13 x13 hV hr13 hB13 => ?_)
  have lt13 : r13 < x13.heap.size := (Array.getElem?_eq_some_iff.1 hr13).1
  have HL1 := Lib.hid (HL0.out.trans hV)
  have ZF1 : Hid (∀ s, x13.heap.size ≤ s → _ ∧ s ≠ r13) := Lib.hid (fun s h => ⟨ZF0.out s (Nat.le_trans hV.size h), Nat.ne_of_gt (Nat.lt_of_lt_of_le lt13 h)⟩)
  refine ⟨Later x13, Later x13, Later.refl _, fun V' h => hV.trans h, fun _ h => h, fun V' h => ZF0.out _ (Nat.le_trans hV.size h.size), fun V' h => Nat.lt_of_lt_of_le lt13 h.size, closed_later _, ?_⟩
  try simp only [pa, List.set]
  have HT13 := Lib.hid hV
  clear hV
  refine walk_exit (fun V hV => ?_)
  have hV0 := HL1.out.trans hV
  try simp only [pa, List.set]
  have kr : Blk V r13 67 #[.bool false, .slice none 0 0, .slice none 0 0, .slice none 0 0] := Blk.below (show Blk x13 r13 67 #[.bool false, .slice none 0 0, .slice none 0 0, .slice none 0 0] from hr13) hV lt13
  have hge : W4.heap.size ≤ r13 := hB13
  obtain ⟨z0, z1, z2, z3⟩ := cells4 kr
  have f0 := kr.frozen 0
  have f1 := kr.frozen 1
  have f2 := kr.frozen 2
  have f3 := kr.frozen 3
  have KR := Lib.hid kr
  have HVV := Lib.hid hV0
  clear kr hV hV0 HL0
  refine wpAnyJ_one (i := 14) (by kernel_rfl) rfl (fun K hK => ?_)
  simp only [List.getElem_toArray, List.getElem_cons_succ, List.getElem_cons_zero]
  go_simp
  refine hK.out _ _ (fun h _ => absurd rfl h) ?_
  clear hK K
  try simp only [pa, List.set]
  refine wpAnyJ_done (by kernel_rfl) ?_ _
  obtain ⟨W5, hW5⟩ : ∃ W5, W5 = (((V.setCell ⟨r13, 0, none⟩ (.bool false)).setCell ⟨r13, 1, none⟩ (.slice (some ⟨kb, ko, none⟩) m m)).setCell ⟨r13, 2, none⟩ (.slice none 0 0)).setCell ⟨r13, 3, none⟩ (.slice B3 (m + 1) (m + 1)) := ⟨_, rfl⟩
  have HKW5 : Hid (Blk W5 r13 67 #[.bool false, .slice (some ⟨kb, ko, none⟩) m m, .slice none 0 0, .slice B3 (m + 1) (m + 1)]) := Lib.hid (by rw [hW5]; exact set4 KR.out)
  have HLW5 : Hid (Later W4 W5) := Lib.hid (by rw [hW5]; exact ((((show Below _ _ _ from HVV.out).setCell (p := ⟨r13, 0, none⟩) hge _).setCell (p := ⟨r13, 1, none⟩) hge _).setCell (p := ⟨r13, 2, none⟩) hge _).setCell (p := ⟨r13, 3, none⟩) hge _)
  rw [← hW5]
  have HGW5 := Lib.hid hge
  have HMW5 : Hid (Later W4 V ∧ Blk V r13 67 #[.bool false, .slice none 0 0, .slice none 0 0, .slice none 0 0] ∧ W5 = (((V.setCell ⟨r13, 0, none⟩ (.bool false)).setCell ⟨r13, 1, none⟩ (.slice (some ⟨kb, ko, none⟩) m m)).setCell ⟨r13, 2, none⟩ (.slice none 0 0)).setCell ⟨r13, 3, none⟩ (.slice B3 (m + 1) (m + 1))) := Lib.hid ⟨HVV.out, KR.out, hW5⟩
  clear hW5 z0 z1 z2 z3 f0 f1 f2 f3 HVV KR hge
  have hap5 : PgR W5 (some ⟨kb, ko, none⟩) m none 0 B3 (m + 1) (brA ks ns) := by
    obtain ⟨h1, h2, h3⟩ := HMW5.out
    rw [h3]
    exact (HAP.out.below h1).set4 h2
  have hbp5 : PgR W5 Ab kc1 none 0 Ad kc2 (brB ks ns) := by
    obtain ⟨h1, h2, h3⟩ := HMW5.out
    rw [h3]
    exact (HBP.out.below h1).set4 h2
  have HAP5 := Lib.hid hap5
  have HBP5 := Lib.hid hbp5
  generalize r13 = r at *
  clear hap5 hbp5 HAP HBP HMW5 r1 r2
  go_upto_region 14 with fail
  have ew : IntKind.i64.wrap ((m : Int) + 1) = (m : Int) + 1 := IntWalk.i64_in _ (by omega)
  have HL0 := Lib.hid (Later.refl W5)
  have ZF0 : Hid (∀ s, W5.heap.size ≤ s → W5.heap.size ≤ s) := Lib.hid (fun _ h => h)
  have ZS0 : Hid (∀ V, Later W5 V → (Later W5) V) := Lib.hid (fun _ h => h)
  refine walk_start 12 (S := Later W5) (T := Later W5) (by kernel_rfl) (fun r => W5.heap.size ≤ r) (fun _ h => h.size) ZS0.out (closed_later _) (Later.refl _).drew ?_
  refine wt 0 88 ?_ (fun V hV => ?_) ?_
  rotate_left 1
  · (clear hV; go_simp; (try with_reducible rfl))
  try simp only [pa, List.set]
  refine wt 1 89 ?_ (fun V hV => ?_) ?_
  rotate_left 1
  · (obtain ⟨q0, q1, q2, q3⟩ := SF.out V (HLW5.out.trans (HL0.out.trans hV)); clear hV; go_simp; (try with_reducible rfl))
  try simp only [pa, List.set]
  refine wt 2 90 ?_ (fun V hV => ?_) ?_
  rotate_left 1
  · (clear hV; go_simp; (try with_reducible rfl))
  try simp only [pa, List.set]
  refine wt 3 91 ?_ (fun V hV => ?_) ?_
  rotate_left 1
  · (clear hV; go_simp; (try with_reducible rfl))
  try simp only [pa, List.set]
  refine wt 4 92 ?_ (fun V hV => ?_) ?_
  rotate_left 1
  · (clear hV; go_simp; (try with_reducible rfl))
  try simp only [pa, List.set]
  refine wt 5 93 ?_ (fun V hV => ?_) ?_
  rotate_left 1
  · (clear hV; go_simp; (try with_reducible rfl))
  try simp only [pa, List.set]
  refine wt 6 94 ?_ (fun V hV => ?_) ?_
  rotate_left 1
  · (obtain ⟨q0, q1, q2, q3⟩ := SF.out V (HLW5.out.trans (HL0.out.trans hV)); clear hV; go_simp; (try with_reducible rfl))
  try simp only [pa, List.set]
  refine wt 7 95 ?_ (fun V hV => ?_) ?_
  rotate_left 1
  · (clear hV; go_simp; (try with_reducible rfl))
  try simp only [pa, List.set]
  refine wt 8 96 ?_ (fun V hV => ?_) ?_
  rotate_left 1
  · (clear hV; go_simp; (try with_reducible rfl))
  try simp only [pa, List.set]
  refine wt 9 97 ?_ (fun V hV => ?_) ?_
  rotate_left 1
  · (clear hV; go_simp; (try with_reducible rfl))
  try simp only [pa, List.set]
  refine wt 10 98 ?_ (fun V hV => ?_) ?_
  rotate_left 1
  · (clear hV; go_simp; (try with_reducible rfl))
  try simp only [pa, List.set]
  refine walk_pend ⟨11, 10, (.cells #[.bool false, .slice none 0 0, .slice none 0 0, .slice none 0 0] 67), fun r => .pointer (some ⟨r, 0, none⟩)⟩ ⟨_, rfl, rfl, rfl, fun W => ?_⟩ ?_
  · (go_simp; (try with_reducible rfl))
  refine walk_force (by kernel_rfl) (by kernel_rfl) (by kernel_rfl) (by kernel_rfl) (fun r11 x11 hV hr11 hB11 => ?_)
  have lt11 : r11 < x11.heap.size := (Array.getElem?_eq_some_iff.1 hr11).1
  have HL1 := Lib.hid (HL0.out.trans hV)
  have ZF1 : Hid (∀ s, x11.heap.size ≤ s → _ ∧ s ≠ r11) := Lib.hid (fun s h => ⟨ZF0.out s (Nat.le_trans hV.size h), Nat.ne_of_gt (Nat.lt_of_lt_of_le lt11 h)⟩)
  refine ⟨Later x11, Later x11, Later.refl _, fun V' h => hV.trans h, fun _ h => h, fun V' h => ZF0.out _ (Nat.le_trans hV.size h.size), fun V' h => Nat.lt_of_lt_of_le lt11 h.size, closed_later _, ?_⟩
  try simp only [pa, List.set]
  have HT11 := Lib.hid hV
  clear hV
  refine walk_exit (fun V hV => ?_)
  have hV0 := HL1.out.trans hV
  try simp only [pa, List.set]
  have kr : Blk V r11 67 #[.bool false, .slice none 0 0, .slice none 0 0, .slice none 0 0] := Blk.below (show Blk x11 r11 67 #[.bool false, .slice none 0 0, .slice none 0 0, .slice none 0 0] from hr11) hV lt11
  have hge : W5.heap.size ≤ r11 := hB11
  obtain ⟨z0, z1, z2, z3⟩ := cells4 kr
  have f0 := kr.frozen 0
  have f1 := kr.frozen 1
  have f2 := kr.frozen 2
  have f3 := kr.frozen 3
  have KR := Lib.hid kr
  have HVV := Lib.hid hV0
  clear kr hV hV0 HL0
  refine wpAnyJ_one (i := 12) (by kernel_rfl) rfl (fun K hK => ?_)
  simp only [List.getElem_toArray, List.getElem_cons_succ, List.getElem_cons_zero]
  go_simp
  refine hK.out _ _ (fun h _ => absurd rfl h) ?_
  clear hK K
  try simp only [pa, List.set]
  refine wpAnyJ_done (by kernel_rfl) ?_ _
  obtain ⟨W6, hW6⟩ : ∃ W6, W6 = (((V.setCell ⟨r11, 0, none⟩ (.bool false)).setCell ⟨r11, 1, none⟩ (.slice Ab k1 kc1)).setCell ⟨r11, 2, none⟩ (.slice none 0 0)).setCell ⟨r11, 3, none⟩ (.slice Ad k2 kc2) := ⟨_, rfl⟩
  have HKW6 : Hid (Blk W6 r11 67 #[.bool false, .slice Ab k1 kc1, .slice none 0 0, .slice Ad k2 kc2]) := Lib.hid (by rw [hW6]; exact set4 KR.out)
  have HLW6 : Hid (Later W5 W6) := Lib.hid (by rw [hW6]; exact ((((show Below _ _ _ from HVV.out).setCell (p := ⟨r11, 0, none⟩) hge _).setCell (p := ⟨r11, 1, none⟩) hge _).setCell (p := ⟨r11, 2, none⟩) hge _).setCell (p := ⟨r11, 3, none⟩) hge _)
  rw [← hW6]
  have HGW6 := Lib.hid hge
  have HMW6 : Hid (Later W5 V ∧ Blk V r11 67 #[.bool false, .slice none 0 0, .slice none 0 0, .slice none 0 0] ∧ W6 = (((V.setCell ⟨r11, 0, none⟩ (.bool false)).setCell ⟨r11, 1, none⟩ (.slice Ab k1 kc1)).setCell ⟨r11, 2, none⟩ (.slice none 0 0)).setCell ⟨r11, 3, none⟩ (.slice Ad k2 kc2)) := Lib.hid ⟨HVV.out, KR.out, hW6⟩
  clear hW6 z0 z1 z2 z3 f0 f1 f2 f3 HVV KR hge
  have hap6 : PgR W6 (some ⟨kb, ko, none⟩) m none 0 B3 (m + 1) (brA ks ns) := by
    obtain ⟨h1, h2, h3⟩ := HMW6.out
    rw [h3]
    exact (HAP5.out.below h1).set4 h2
  have hbp6 : PgR W6 Ab kc1 none 0 Ad kc2 (brB ks ns) := by
    obtain ⟨h1, h2, h3⟩ := HMW6.out
    rw [h3]
    exact (HBP5.out.below h1).set4 h2
  have HAP6 := Lib.hid hap6
  have HBP6 := Lib.hid hbp6
  have h46 : Later W4 W6 := HLW5.out.trans HLW6.out
  have kr6 := HKW5.out.below HLW6.out HKW5.out.lt
  have ks6 := HKW6.out
  have kx6 := HKX4.out.below h46 HKX4.out.lt
  have ky6 := HKY4.out.below h46 HKY4.out.lt
  have hg5 := HGW5.out
  have hg6 := HGW6.out
  have h45 := (show Below _ _ _ from HLW5.out).size
  have h4 := HS4.out
  have nr1 : w.heap.size + 1 ≠ r := by omega
  have nr2 : w.heap.size + 2 ≠ r := by omega
  have ns1 : w.heap.size + 1 ≠ r11 := by omega
  have ns2 : w.heap.size + 2 ≠ r11 := by omega
  have hc6 := HKC.out W6 h46
  have hab : ∀ {g : Nat}, Blk W6 g 67 #[.bool false, .slice none 0 0, .slice none 0 0, .slice none 0 0] → g ≠ kb := fun {g} hg e => by
    have h9 := hg.cell (ko + m)
    rw [e, hc6] at h9
    match hoff : ko + m, h9 with
    | 0, h9 => simp at h9
    | 1, h9 => simp at h9
    | 2, h9 => simp at h9
    | 3, h9 => simp at h9
    | n + 4, h9 => simp at h9
  have np2 : w.heap.size + 2 ≠ w.heap.size := by omega
  have np3 : w.heap.size ≠ w.heap.size + 1 + 1 := by omega
  have na1 : w.heap.size + 1 ≠ kb := hab kx6
  have na2 : w.heap.size + 2 ≠ kb := hab ky6
  have HB6 : Hid (Below w.heap.size w W6) := Lib.hid (HB4.out.trans ((show Below _ _ _ from h46).mono HB4.out.size))
  obtain ⟨q0, q1, q2, q3⟩ := SF.out W6 h46
  obtain ⟨r0, r1, r2, r3⟩ := cells4 kr6
  obtain ⟨s0, s1, s2, s3⟩ := cells4 ks6
  obtain ⟨x0, x1, x2, x3⟩ := cells4 kx6
  obtain ⟨y0, y1, y2, y3⟩ := cells4 ky6
  have xf0 := kx6.frozen 0
  have xf1 := kx6.frozen 1
  have xf2 := kx6.frozen 2
  have xf3 := kx6.frozen 3
  have yf0 := ky6.frozen 0
  have yf1 := ky6.frozen 1
  have yf2 := ky6.frozen 2
  have yf3 := ky6.frozen 3
  have KX := Lib.hid kx6
  have KY := Lib.hid ky6
  clear hab kr6 ks6 kx6 ky6 hap6 hbp6 hg5 hg6 h45 h4 h46 HKX4 HKY4
  have i7 : (m : Int) < (ks.length : Int) := i5
  go_upto_region 15 with fail
  go_region_held3 (fun V => V.cell? ⟨r, 0, none⟩ = some (.bool false) ∧ V.cell? ⟨r, 1, none⟩ = some (.slice (some ⟨kb, ko, none⟩) m m) ∧ V.cell? ⟨r, 2, none⟩ = some (.slice none 0 0) ∧ V.cell? ⟨r, 3, none⟩ = some (.slice B3 (m + 1) (m + 1)) ∧ V.cell? ⟨r11, 0, none⟩ = some (.bool false) ∧ V.cell? ⟨r11, 1, none⟩ = some (.slice Ab k1 kc1) ∧ V.cell? ⟨r11, 2, none⟩ = some (.slice none 0 0) ∧ V.cell? ⟨r11, 3, none⟩ = some (.slice Ad k2 kc2) ∧ V.cell? ⟨w.heap.size, 1, none⟩ = some (.slice (some ⟨kb, ko, none⟩) ks.length d1) ∧
      V.cell? ⟨kb, ko + m, none⟩ = some (.string (ks.getD m ByteArray.empty)))
    (go_keep) (fail)
  all_goals
    obtain ⟨W9, hW9⟩ : ∃ W9, W9 = ((((((((W6.setCell ⟨w.heap.size + 1, 0, none⟩ (.bool false)).setCell ⟨w.heap.size + 1, 1, none⟩ (.slice (some ⟨kb, ko, none⟩) m m)).setCell ⟨w.heap.size + 1, 2, none⟩ (.slice none 0 0)).setCell ⟨w.heap.size + 1, 3, none⟩ (.slice B3 (m + 1) (m + 1))).setCell ⟨w.heap.size + 1 + 1, 0, none⟩ (.bool false)).setCell ⟨w.heap.size + 1 + 1, 1, none⟩ (.slice Ab k1 kc1)).setCell ⟨w.heap.size + 1 + 1, 2, none⟩ (.slice none 0 0)).setCell ⟨w.heap.size + 1 + 1, 3, none⟩ (.slice Ad k2 kc2)).drew := ⟨_, rfl⟩
    rw [← hW9]
    have HW9 := Lib.hid hW9
    clear hW9
    go_wp2_with fail
    have k1' : Blk W9 (w.heap.size + 1) 67 #[.bool false, .slice (some ⟨kb, ko, none⟩) m m, .slice none 0 0, .slice B3 (m + 1) (m + 1)] := by
      rw [HW9.out]
      exact (blk_far4 (set4 KX.out) (by omega) _ _ _ _).drew
    have k2' : Blk W9 (w.heap.size + 1 + 1) 67 #[.bool false, .slice Ab k1 kc1, .slice none 0 0, .slice Ad k2 kc2] := by
      rw [HW9.out]
      exact (set4 (blk_far4 KY.out (by omega) _ _ _ _)).drew
    have hb9 : Below w.heap.size w W9 := by
      rw [HW9.out]
      exact (((((((((HB6.out).setCell (p := ⟨w.heap.size + 1, 0, none⟩) (by simp; try omega) _).setCell (p := ⟨w.heap.size + 1, 1, none⟩) (by simp; try omega) _).setCell (p := ⟨w.heap.size + 1, 2, none⟩) (by simp; try omega) _).setCell (p := ⟨w.heap.size + 1, 3, none⟩) (by simp; try omega) _).setCell (p := ⟨w.heap.size + 1 + 1, 0, none⟩) (by simp; try omega) _).setCell (p := ⟨w.heap.size + 1 + 1, 1, none⟩) (by simp; try omega) _).setCell (p := ⟨w.heap.size + 1 + 1, 2, none⟩) (by simp; try omega) _).setCell (p := ⟨w.heap.size + 1 + 1, 3, none⟩) (by simp; try omega) _).drew
    have far9 : ∀ {A1 A2 A3 : Option Addr} {c1 c2 c3 : Nat} {p : Pg}, PgR W6 A1 c1 A2 c2 A3 c3 p → PgR W9 A1 c1 A2 c2 A3 c3 p := fun h => by
      rw [HW9.out]
      exact ((h.set4 KX.out).set4 (blk_far4 KY.out (by omega) _ _ _ _)).below (Below.refl _ _).drew
    have hq1 := far9 HAP6.out
    have hq2 := far9 HBP6.out
    refine bodyPost_ret_by (results_csc rfl _ _ (w.heap.size + 1) (w.heap.size + 1 + 1) 67 _ _ (0, 0) (0, 0) _ rfl rfl k1' k2' Try.underlying67 rfl (by kernel_rfl) (by kernel_rfl)) rfl ?_
    refine ⟨hb9, some ⟨kb, ko, none⟩, m, none, 0, B3, m + 1, Ab, kc1, none, 0, Ad, kc2, ?_, hq1, hq2⟩
    unfold pgv
    rw [HAL.out.1, HAL.out.2, HBL.out.1, HBL.out.2, ← HM.out]
    simp [brA, brB]
end
end Go.Proofs.Ytlbikfamjogpnaa
end

/- publicanref4.Split: what it answers. Conditions: the page reads in memory and is small. -/
section
namespace Go.Proofs.Ytlbikfamjogpnaa
open Go.RowKit Go.Proofs.YtlbikfamjogpnaaW.PrintWords Go.Proofs.Ytlbikfamjogpnaa.QPage
set_option linter.unusedVariables false
set_option linter.unusedSimpArgs false

section
variable {w : World} {A1 A2 A3 : Option Addr} {c1 c2 c3 : Nat} {lf : Bool} {ks vs : List ByteArray} {ns : List Int}
theorem partP_end (hv : vs.length = ks.length) (i : Nat) : partP ⟨lf, ks, vs, ns⟩ i ks.length = ⟨true, ks.drop i, vs.drop i, []⟩ := by
  unfold partP
  simp only [List.take_length]
  rw [← hv, List.take_length]
theorem partP_start (i : Nat) : partP ⟨lf, ks, vs, ns⟩ 0 i = ⟨true, ks.take i, vs.take i, []⟩ := by
  unfold partP
  simp only [List.drop_zero]
/-- A leaf's rows from a place on. -/
theorem rcut_from (h : PgR w A1 c1 A2 c2 A3 c3 ⟨lf, ks, vs, ns⟩) (hv : vs.length = ks.length) {i : Nat} (hi : i ≤ ks.length) : ∃ B1 B2,
    (∀ V, (Instr.slice 64 (.slice A1 ks.length c1) (some (.int .i64 (i : Int))) none none).run Try.prog V = .ok (.slice B1 (ks.length - i) (c1 - i)) V) ∧
    (∀ V, (Instr.slice 64 (.slice A2 vs.length c2) (some (.int .i64 (i : Int))) none none).run Try.prog V = .ok (.slice B2 (ks.length - i) (c2 - i)) V) ∧
    PgR w B1 (c1 - i) B2 (c2 - i) none 0 (partP ⟨lf, ks, vs, ns⟩ i ks.length) ∧ (partP ⟨lf, ks, vs, ns⟩ i ks.length).keys.length = ks.length - i ∧ (partP ⟨lf, ks, vs, ns⟩ i ks.length).vals.length = ks.length - i := by
  obtain ⟨i0, hi0, hz0, hz1, hz2⟩ := info_parts cinfo_str
  have hk1 : ks.length ≤ c1 := h.kc
  have hk2 : vs.length ≤ c2 := h.vc
  have r1 := cut_from (P := Try.prog) 64 9 .i64 Try.underlying64 hi0 1 hz1 A1 ks.length c1 (i : Int) (by omega) (by omega)
  have r2 := cut_from (P := Try.prog) 64 9 .i64 Try.underlying64 hi0 1 hz1 A2 vs.length c2 (i : Int) (by omega) (by omega)
  rw [show (i : Int).toNat = i by omega] at r1 r2
  rw [show vs.length - i = ks.length - i by omega] at r2
  have x1 := Kd.C_drop h.k (show i ≤ ks.length from hi) hk1
  have x2 := Kd.C_drop h.v (show i ≤ vs.length by omega) hk2
  refine ⟨_, _, r1, r2, ?_, ?_, ?_⟩
  · rw [partP_end hv]
    exact ⟨x1, by show (ks.drop i).length ≤ _; rw [List.length_drop]; omega, x2, by show (vs.drop i).length ≤ _; rw [List.length_drop]; omega, Kd.C_nil _ _, Nat.le_refl _⟩
  · rw [partP_end hv]; exact List.length_drop
  · rw [partP_end hv]; show (vs.drop i).length = _; rw [List.length_drop, hv]
/-- A leaf's rows up to a place. -/
theorem rcut_to (h : PgR w A1 c1 A2 c2 A3 c3 ⟨lf, ks, vs, ns⟩) (hv : vs.length = ks.length) {i : Nat} (hi : i ≤ ks.length) :
    (∀ V, (Instr.slice 64 (.slice A1 ks.length c1) none (some (.int .i64 (i : Int))) none).run Try.prog V = .ok (.slice A1 i c1) V) ∧
    (∀ V, (Instr.slice 64 (.slice A2 vs.length c2) none (some (.int .i64 (i : Int))) none).run Try.prog V = .ok (.slice A2 i c2) V) ∧
    PgR w A1 c1 A2 c2 none 0 (partP ⟨lf, ks, vs, ns⟩ 0 i) ∧ (partP ⟨lf, ks, vs, ns⟩ 0 i).keys.length = i ∧ (partP ⟨lf, ks, vs, ns⟩ 0 i).vals.length = i := by
  obtain ⟨i0, hi0, hz0, hz1, hz2⟩ := info_parts cinfo_str
  have hk1 : ks.length ≤ c1 := h.kc
  have hk2 : vs.length ≤ c2 := h.vc
  have r1 := cut_to (P := Try.prog) 64 9 .i64 Try.underlying64 hi0 A1 ks.length c1 (i : Int) (by omega) (by omega) hk1
  have r2 := cut_to (P := Try.prog) 64 9 .i64 Try.underlying64 hi0 A2 vs.length c2 (i : Int) (by omega) (by omega) hk2
  rw [show (i : Int).toNat = i by omega] at r1 r2
  have x1 := Kd.C_take h.k (show i ≤ ks.length from hi)
  have x2 := Kd.C_take h.v (show i ≤ vs.length by omega)
  refine ⟨r1, r2, ?_, ?_, ?_⟩
  · rw [partP_start]
    exact ⟨x1, by show (ks.take i).length ≤ _; rw [List.length_take]; omega, x2, by show (vs.take i).length ≤ _; rw [List.length_take]; omega, Kd.C_nil _ _, Nat.le_refl _⟩
  · rw [partP_start]; show (ks.take i).length = _; rw [List.length_take]; omega
  · rw [partP_start]; show (vs.take i).length = _; rw [List.length_take]; omega
/-- The reference's Encode of such rows. -/
theorem renc_of {W : World} {B1 B2 : Option Addr} {d1 d2 n1 : Nat} {p : Pg} (h : PgR W B1 d1 B2 d2 none 0 p) (hf : Enc p) (hl : p.leaf = true) (h1 : p.keys.length = n1) (h2 : p.vals.length = n1) (h3 : p.kids = []) :
    ∀ V, Later W V → Calls Try.prog 43 #[.agg #[.bool true, .slice B1 n1 d1, .slice B2 n1 d2, .slice none 0 0]] V fun e w' => Below V.heap.size V w' ∧ ∃ A c, e = .returned (.slice A (encP p).length c) := fun V hV => by
  have := refencode_any (h.below hV) hf
  unfold pgv at this
  rw [hl, h1, h2, h3] at this
  refine this.mono ?_
  rintro e w' ⟨hb, A, c, rfl, _⟩
  exact ⟨hb, A, c, rfl⟩

set_option maxRecDepth 100000 in
set_option maxHeartbeats 8000000 in
theorem rsplit_leaf (h : PgR w A1 c1 A2 c2 A3 c3 ⟨true, ks, vs, ns⟩) (hs : Small ⟨true, ks, vs, ns⟩) (hv : vs.length = ks.length) (h2 : 2 ≤ ks.length) :
    Calls Try.prog 47 #[pgv A1 c1 A2 c2 A3 c3 ⟨true, ks, vs, ns⟩] w (SplitPost w (partP ⟨true, ks, vs, ns⟩ 0 (splitAt ⟨true, ks, vs, ns⟩)) (partP ⟨true, ks, vs, ns⟩ (splitAt ⟨true, ks, vs, ns⟩) ks.length) (ks.getD (splitAt ⟨true, ks, vs, ns⟩) ByteArray.empty)) := by
  obtain ⟨W2, hW2⟩ : ∃ W2, W2 = ((w.alloc (.cells #[.bool true, .slice A1 ks.length c1, .slice A2 vs.length c2, .slice A3 ns.length c3] 73)).alloc (.cells #[.bool false, .slice none 0 0, .slice none 0 0, .slice none 0 0] 73)).alloc (.cells #[.bool false, .slice none 0 0, .slice none 0 0, .slice none 0 0] 73) := ⟨_, rfl⟩
  have hb2 : Below w.heap.size w W2 := by rw [hW2]; exact (((Below.refl _ _).alloc (Nat.le_refl _) _).alloc (by simp) _).alloc (by simp; omega) _
  have kp : Blk W2 w.heap.size 73 #[.bool true, .slice A1 ks.length c1, .slice A2 vs.length c2, .slice A3 ns.length c3] := by rw [hW2]; exact ((Blk.new _ _ _).alloc _).alloc _
  have kx : Blk W2 (w.heap.size + 1) 73 #[.bool false, .slice none 0 0, .slice none 0 0, .slice none 0 0] := by
    have := (Blk.new (w.alloc (.cells #[.bool true, .slice A1 ks.length c1, .slice A2 vs.length c2, .slice A3 ns.length c3] 73)) 73 #[.bool false, .slice none 0 0, .slice none 0 0, .slice none 0 0]).alloc (.cells #[.bool false, .slice none 0 0, .slice none 0 0, .slice none 0 0] 73)
    rw [← hW2] at this
    simpa using this
  have ky : Blk W2 (w.heap.size + 1 + 1) 73 #[.bool false, .slice none 0 0, .slice none 0 0, .slice none 0 0] := by
    have := Blk.new ((w.alloc (.cells #[.bool true, .slice A1 ks.length c1, .slice A2 vs.length c2, .slice A3 ns.length c3] 73)).alloc (.cells #[.bool false, .slice none 0 0, .slice none 0 0, .slice none 0 0] 73)) 73 #[.bool false, .slice none 0 0, .slice none 0 0, .slice none 0 0]
    rw [← hW2] at this
    simpa using this
  have hr2 := h.below hb2
  have SF : Hid (∀ V, Later W2 V → V.cell? ⟨w.heap.size, 0, none⟩ = some (.bool true) ∧ V.cell? ⟨w.heap.size, 1, none⟩ = some (.slice A1 ks.length c1) ∧ V.cell? ⟨w.heap.size, 2, none⟩ = some (.slice A2 vs.length c2) ∧ V.cell? ⟨w.heap.size, 3, none⟩ = some (.slice A3 ns.length c3)) := Lib.hid fun V hV => cells4 (kp.below hV kp.lt)
  have HR := Lib.hid hr2
  have HKX := Lib.hid kx
  have HKY := Lib.hid ky
  have HB2 := Lib.hid hb2
  have HS := Lib.hid hs
  have HV := Lib.hid hv
  have HW2 := Lib.hid hW2
  have hn60 : ks.length ≤ 60 := hs.1
  obtain ⟨q0, q1, q2, q3⟩ := SF.out W2 (Later.refl _)
  clear h hr2 kp kx ky hb2 hs hW2 hv
  unfold pgv
  dsimp only
  have t1 : decide ((2 : Int) ≤ (ks.length : Int)) = true := decide_eq_true (by omega)
  have t2 : decide (2 ≤ ks.length) = true := decide_eq_true h2
  obtain ⟨n, hn⟩ : ∃ n, n = ks.length := ⟨_, rfl⟩
  go_enter Try.func47, Try.ntmps47
  go_upto_block 0 with fail
  rw [← HW2.out]
  clear HW2
  obtain ⟨H1, hH1⟩ : ∃ H1, H1 = upN ⟨true, ks, vs, ns⟩ (n - 1 - n / 2) (n / 2) := ⟨_, rfl⟩
  have HN := Lib.hid hn
  have HH1 := Lib.hid hH1
  have e2 : (n : Int) / 2 = ((n / 2 : Nat) : Int) := by omega
  rw [← hn] at h2 hn60 q1
  rw [← hn]
  clear hn hH1 t1 t2 q0 q1 q2 q3
  go_cut [6] (fun cv wx => cv = .int .i64 (H1 : Int) ∧ Hid (Later W2 wx))
  case first =>
    go_wp2_with fail
    rw [e2]
    have hle := upN_le ⟨true, ks, vs, ns⟩ (n - 1 - n / 2) (n / 2)
    go_loopg [6] (n - 1 - n / 2) (fun m cv wr => ∃ i : Nat, cv = .int .i64 (i : Int) ∧ i + m = n - 1 ∧ 1 ≤ i ∧ Hid (Later W2 wr) ∧ Hid (upN ⟨true, ks, vs, ns⟩ (n - 1 - i) i = H1))
    case atStart => exact ⟨n / 2, rfl, by omega, by omega, Lib.hid (Later.refl _), Lib.hid (by rw [HH1.out])⟩
    case round =>
      obtain ⟨i, rfl, hi, h1, HJ, HU⟩ := hrel
      have ew : IntKind.i64.wrap ((n : Int) - 1) = (n : Int) - 1 := IntWalk.i64_in _ (by omega)
      by_cases hlt : i + 1 < n
      · have g1 : decide ((i : Int) < (n : Int) - 1) = true := decide_eq_true (by omega)
        have hU : (if bigB ⟨true, ks, vs, ns⟩ i n then upN ⟨true, ks, vs, ns⟩ (n - 1 - (i + 1)) (i + 1) else i) = H1 := by
          have hU := HU.out
          rw [show n - 1 - i = (n - 1 - (i + 1)) + 1 by omega, upN] at hU
          dsimp only at hU
          rw [← HN.out] at hU
          exact hU
        obtain ⟨B1, B2, r3, r4, hpr, y1, y2⟩ := rcut_from HR.out HV.out (i := i) (by rw [← HN.out]; omega)
        rw [← HN.out] at r3 r4 hpr y1 y2
        have CE := Lib.hid (renc_of hpr (enc_part HS.out i n) rfl y1 y2 rfl)
        have HUU := Lib.hid hU
        have HM := Lib.hid hi
        clear hU hi hle e2 hpr y1 y2
        generalize hbg : bigB ⟨true, ks, vs, ns⟩ i n = bg at HUU
        have HBG := Lib.hid hbg
        clear hbg
        have hb : decide (900 < ((encP (partP ⟨true, ks, vs, ns⟩ i n)).length : Int)) = bg := by rw [← HBG.out, bigB, decide_eq_decide]; omega
        have hb' : decide (900 < (encP (partP ⟨true, ks, vs, ns⟩ i n)).length) = bg := HBG.out
        have hj1 : n - i ≤ 100 := by omega
        generalize (encP (partP ⟨true, ks, vs, ns⟩ i n)).length = LE at *
        generalize n - i = k at *
        generalize c1 - i = d1 at *
        generalize c2 - i = d2 at *
        go_upto_region 4 with fail
        have HL0 := Lib.hid (Later.refl wr)
        have ZF0 : Hid (∀ s, wr.heap.size ≤ s → wr.heap.size ≤ s) := Lib.hid (fun _ h => h)
        have ZS0 : Hid (∀ V, Later wr V → (Later wr) V) := Lib.hid (fun _ h => h)
        refine walk_start 18 (S := Later wr) (T := Later wr) (by kernel_rfl) (fun r => wr.heap.size ≤ r) (fun _ h => h.size) ZS0.out (closed_later _) (Later.refl _).drew ?_
        refine wt 0 18 ?_ (fun V hV => ?_) ?_
        rotate_left 1
        · (clear hV; go_simp; (try with_reducible rfl))
        try simp only [pa, List.set]
        refine wt 1 19 ?_ (fun V hV => ?_) ?_
        rotate_left 1
        · (clear hV; go_simp; (try with_reducible rfl))
        try simp only [pa, List.set]
        refine wt 2 20 ?_ (fun V hV => ?_) ?_
        rotate_left 1
        · (clear hV; go_simp; (try with_reducible rfl))
        try simp only [pa, List.set]
        refine wt 3 21 ?_ (fun V hV => ?_) ?_
        rotate_left 1
        · (clear hV; go_simp; (try with_reducible rfl))
        try simp only [pa, List.set]
        refine wt 4 22 ?_ (fun V hV => ?_) ?_
        rotate_left 1
        · (clear hV; go_simp; (try with_reducible rfl))
        try simp only [pa, List.set]
        refine wt 5 23 ?_ (fun V hV => ?_) ?_
        rotate_left 1
        · (clear hV; go_simp; (try with_reducible rfl))
        try simp only [pa, List.set]
        refine wt 6 24 ?_ (fun V hV => ?_) ?_
        rotate_left 1
        · (obtain ⟨q0, q1, q2, q3⟩ := SF.out V (HJ.out.trans (HL0.out.trans hV)); rw [← HN.out] at q1; clear hV; go_simp; (try with_reducible rfl))
        try simp only [pa, List.set]
        refine wt 7 25 ?_ (fun V hV => ?_) ?_
        rotate_left 1
        · (clear hV; go_simp; (try with_reducible rfl))
        try simp only [pa, List.set]
        refine wt 8 26 ?_ (fun V hV => ?_) ?_
        rotate_left 1
        · (clear hV; go_simp; (try with_reducible rfl))
        try simp only [pa, List.set]
        refine wt 9 27 ?_ (fun V hV => ?_) ?_
        rotate_left 1
        · (clear hV; go_simp; (try with_reducible rfl))
        try simp only [pa, List.set]
        refine wt 10 28 ?_ (fun V hV => ?_) ?_
        rotate_left 1
        · (obtain ⟨q0, q1, q2, q3⟩ := SF.out V (HJ.out.trans (HL0.out.trans hV)); rw [← HN.out] at q1; clear hV; go_simp; (try with_reducible rfl))
        try simp only [pa, List.set]
        refine wt 11 29 ?_ (fun V hV => ?_) ?_
        rotate_left 1
        · (clear hV; go_simp; (try with_reducible rfl))
        try simp only [pa, List.set]
        refine wt 12 30 ?_ (fun V hV => ?_) ?_
        rotate_left 1
        · (clear hV; go_simp; (try with_reducible rfl))
        try simp only [pa, List.set]
        refine wt 13 31 ?_ (fun V hV => ?_) ?_
        rotate_left 1
        · (clear hV; go_simp; (try with_reducible rfl))
        try simp only [pa, List.set]
        refine walk_core 14 rfl (by kernel_rfl) (fun _ _ _ _ _ h => h) (fun V hV K hK => ?_)
        have hV0 := HL0.out.trans hV
        go_simp
        go_at_call 43
        refine (CE.out V (HJ.out.trans hV0)).mono ?_
        rintro e x14 ⟨hb, Ae, ce, rfl⟩
        have HT14 := Lib.hid (hV.of hb)
        have HL1 := Lib.hid (hV0.of hb)
        have hsize := hb.size
        have hkeep := fun (r : Nat) (_ : True) (h : r < V.heap.size) => hb.block r h
        have ZF1 : Hid (∀ s, x14.heap.size ≤ s → _) := Lib.hid (fun s h => ZF0.out s (Nat.le_trans hV.size (Nat.le_trans hsize h)))
        refine hK.out _ _ (Later x14) (Later x14) _ (fun r _ h => hkeep r trivial h) (fun _ h _ => h) (fun V' h => (hV.of hb).trans h) (fun _ h => h) (fun V' h => ZF1.out _ h.size) (Later.refl _) (closed_later _) ?_
        clear hK K hV hsize hkeep hV0 hb
        try simp only [pa, List.set]
        refine wt 15 33 ?_ (fun V hV => ?_) ?_
        rotate_left 1
        · (clear hV; go_simp; (try with_reducible rfl))
        try simp only [pa, List.set]
        refine wt 16 34 ?_ (fun V hV => ?_) ?_
        rotate_left 1
        · (clear hV; go_simp; (try with_reducible rfl))
        try simp only [pa, List.set]
        refine wt 17 35 ?_ (fun V hV => ?_) ?_
        rotate_left 1
        · (clear hV; go_simp; (try with_reducible rfl))
        try simp only [pa, List.set]
        refine walk_exit (fun V hV => wpAnyJ_done (by kernel_rfl) ?_ _)
        have hV0 := HL1.out.trans hV
        have HV0 := Lib.hid (HJ.out.trans hV0)
        clear hV hV0
        cases bg with
        | true =>
          have hU2 := HUU.out
          rw [if_pos (by rfl)] at hU2
          have HU2 := Lib.hid hU2
          clear hU2 HUU
          go_wp2_with fail
          go_roundg (n - 1 - (i + 1))
          case measure => have := HM.out; omega
          case rel => exact ⟨i + 1, by go_num, by omega, by omega, HV0, HU2⟩
        | false =>
          have hU2 : i = H1 := HUU.out
          subst hU2
          clear HUU
          go_wp2_with fail
          go_meet
          exact ⟨rfl, HV0⟩
      · have g1 : decide ((i : Int) < (n : Int) - 1) = false := decide_eq_false (by omega)
        have hU := HU.out
        rw [show n - 1 - i = 0 by omega, upN] at hU
        subst hU
        clear e2 hle
        go_upto_region 4 with fail
        have HL0 := Lib.hid (Later.refl wr)
        have ZF0 : Hid (∀ s, wr.heap.size ≤ s → wr.heap.size ≤ s) := Lib.hid (fun _ h => h)
        have ZS0 : Hid (∀ V, Later wr V → (Later wr) V) := Lib.hid (fun _ h => h)
        refine walk_start 18 (S := Later wr) (T := Later wr) (by kernel_rfl) (fun r => wr.heap.size ≤ r) (fun _ h => h.size) ZS0.out (closed_later _) (Later.refl _).drew ?_
        refine wt 0 18 ?_ (fun V hV => ?_) ?_
        rotate_left 1
        · (clear hV; go_simp; (try with_reducible rfl))
        try simp only [pa, List.set]
        refine wt 1 19 ?_ (fun V hV => ?_) ?_
        rotate_left 1
        · (clear hV; go_simp; (try with_reducible rfl))
        try simp only [pa, List.set]
        refine wt 2 20 ?_ (fun V hV => ?_) ?_
        rotate_left 1
        · (clear hV; go_simp; (try with_reducible rfl))
        try simp only [pa, List.set]
        refine wt 3 21 ?_ (fun V hV => ?_) ?_
        rotate_left 1
        · (clear hV; go_simp; (try with_reducible rfl))
        try simp only [pa, List.set]
        refine wt 4 22 ?_ (fun V hV => ?_) ?_
        rotate_left 1
        · (clear hV; go_simp; (try with_reducible rfl))
        try simp only [pa, List.set]
        refine ws 5 23 ?_
        try simp only [pa, List.set]
        refine ws 6 24 ?_
        try simp only [pa, List.set]
        refine ws 7 25 ?_
        try simp only [pa, List.set]
        refine ws 8 26 ?_
        try simp only [pa, List.set]
        refine ws 9 27 ?_
        try simp only [pa, List.set]
        refine ws 10 28 ?_
        try simp only [pa, List.set]
        refine ws 11 29 ?_
        try simp only [pa, List.set]
        refine ws 12 30 ?_
        try simp only [pa, List.set]
        refine ws 13 31 ?_
        try simp only [pa, List.set]
        refine ws 14 32 ?_
        try simp only [pa, List.set]
        refine ws 15 33 ?_
        try simp only [pa, List.set]
        refine ws 16 34 ?_
        try simp only [pa, List.set]
        refine wt 17 35 ?_ (fun V hV => ?_) ?_
        rotate_left 1
        · (clear hV; go_simp; (try with_reducible rfl))
        try simp only [pa, List.set]
        refine walk_exit (fun V hV => wpAnyJ_done (by kernel_rfl) ?_ _)
        have hV0 := HL0.out.trans hV
        have HV0 := Lib.hid (HJ.out.trans hV0)
        clear hV hV0
        go_wp2_with fail
        go_meet
        exact ⟨rfl, HV0⟩
  case rest =>
    obtain ⟨rfl, HB⟩ := hcut
    have h11 := upN_le ⟨true, ks, vs, ns⟩ (n - 1 - n / 2) (n / 2)
    rw [← HH1.out] at h11
    obtain ⟨H2, hH2⟩ : ∃ H2, H2 = downN ⟨true, ks, vs, ns⟩ H1 := ⟨_, rfl⟩
    have h1n : H1 + 1 ≤ n := by omega
    have h11 : 1 ≤ H1 := by omega
    have h21 := downN_le ⟨true, ks, vs, ns⟩ H1
    rw [← hH2] at h21
    have HSA : Hid (splitAt ⟨true, ks, vs, ns⟩ = H2) := Lib.hid (by
      rw [hH2, HH1.out, splitAt]
      dsimp only
      rw [← HN.out])
    have HH2 := Lib.hid hH2
    clear e2 hH2
    obtain ⟨wb, rfl⟩ : ∃ wb : World, wb = wc := ⟨_, rfl⟩
    have HBb := HB
    clear HB
    go_upto_block 2 with fail
    go_cut [6] (fun cv wx => cv = .int .i64 (H2 : Int) ∧ Hid (Later W2 wx))
    case first =>
      go_wp2_with fail
      go_loopg [6] H1 (fun m cv wr => ∃ i : Nat, cv = .int .i64 (i : Int) ∧ i = m ∧ 1 ≤ i ∧ i ≤ H1 ∧ Hid (Later W2 wr) ∧ Hid (downN ⟨true, ks, vs, ns⟩ i = H2))
      case atStart => exact ⟨H1, rfl, rfl, by omega, by omega, HBb, Lib.hid HH2.out.symm⟩
      case round =>
        obtain ⟨i, rfl, hi, h1, hiH, HJ, HU⟩ := hrel
        by_cases hlt : 1 < i
        · have g1 : decide (1 < (i : Int)) = true := decide_eq_true (by omega)
          have g2 : decide (1 < i) = true := decide_eq_true hlt
          have hU : (if bigB ⟨true, ks, vs, ns⟩ 0 i then downN ⟨true, ks, vs, ns⟩ (i - 1) else i) = H2 := by
            have hU := HU.out
            rw [show i = (i - 2) + 2 by omega, downN] at hU
            rw [show i - 2 + 2 = i by omega, show i - 2 + 1 = i - 1 by omega] at hU
            exact hU
          obtain ⟨r3, r4, hpr, y1, y2⟩ := rcut_to HR.out HV.out (i := i) (by rw [← HN.out]; omega)
          rw [← HN.out] at r3
          have CE := Lib.hid (renc_of hpr (enc_part HS.out 0 i) rfl y1 y2 rfl)
          have HUU := Lib.hid hU
          have HM := Lib.hid hi
          clear hU hi h21 hpr y1 y2
          generalize hbg : bigB ⟨true, ks, vs, ns⟩ 0 i = bg at HUU
          have HBG := Lib.hid hbg
          clear hbg
          have hb : decide (900 < ((encP (partP ⟨true, ks, vs, ns⟩ 0 i)).length : Int)) = bg := by rw [← HBG.out, bigB, decide_eq_decide]; omega
          have hb' : decide (900 < (encP (partP ⟨true, ks, vs, ns⟩ 0 i)).length) = bg := HBG.out
          generalize (encP (partP ⟨true, ks, vs, ns⟩ 0 i)).length = LE at *
          go_upto_region 6 with fail
          have HL0 := Lib.hid (Later.refl wr)
          have ZF0 : Hid (∀ s, wr.heap.size ≤ s → wr.heap.size ≤ s) := Lib.hid (fun _ h => h)
          have ZS0 : Hid (∀ V, Later wr V → (Later wr) V) := Lib.hid (fun _ h => h)
          refine walk_start 16 (S := Later wr) (T := Later wr) (by kernel_rfl) (fun r => wr.heap.size ≤ r) (fun _ h => h.size) ZS0.out (closed_later _) (Later.refl _).drew ?_
          refine wt 0 38 ?_ (fun V hV => ?_) ?_
          rotate_left 1
          · (clear hV; go_simp; (try with_reducible rfl))
          try simp only [pa, List.set]
          refine wt 1 39 ?_ (fun V hV => ?_) ?_
          rotate_left 1
          · (clear hV; go_simp; (try with_reducible rfl))
          try simp only [pa, List.set]
          refine wt 2 40 ?_ (fun V hV => ?_) ?_
          rotate_left 1
          · (clear hV; go_simp; (try with_reducible rfl))
          try simp only [pa, List.set]
          refine wt 3 41 ?_ (fun V hV => ?_) ?_
          rotate_left 1
          · (clear hV; go_simp; (try with_reducible rfl))
          try simp only [pa, List.set]
          refine wt 4 42 ?_ (fun V hV => ?_) ?_
          rotate_left 1
          · (obtain ⟨q0, q1, q2, q3⟩ := SF.out V (HJ.out.trans (HL0.out.trans hV)); rw [← HN.out] at q1; clear hV; go_simp; (try with_reducible rfl))
          try simp only [pa, List.set]
          refine wt 5 43 ?_ (fun V hV => ?_) ?_
          rotate_left 1
          · (clear hV; go_simp; (try with_reducible rfl))
          try simp only [pa, List.set]
          refine wt 6 44 ?_ (fun V hV => ?_) ?_
          rotate_left 1
          · (clear hV; go_simp; (try with_reducible rfl))
          try simp only [pa, List.set]
          refine wt 7 45 ?_ (fun V hV => ?_) ?_
          rotate_left 1
          · (clear hV; go_simp; (try with_reducible rfl))
          try simp only [pa, List.set]
          refine wt 8 46 ?_ (fun V hV => ?_) ?_
          rotate_left 1
          · (obtain ⟨q0, q1, q2, q3⟩ := SF.out V (HJ.out.trans (HL0.out.trans hV)); rw [← HN.out] at q1; clear hV; go_simp; (try with_reducible rfl))
          try simp only [pa, List.set]
          refine wt 9 47 ?_ (fun V hV => ?_) ?_
          rotate_left 1
          · (clear hV; go_simp; (try with_reducible rfl))
          try simp only [pa, List.set]
          refine wt 10 48 ?_ (fun V hV => ?_) ?_
          rotate_left 1
          · (clear hV; go_simp; (try with_reducible rfl))
          try simp only [pa, List.set]
          refine wt 11 49 ?_ (fun V hV => ?_) ?_
          rotate_left 1
          · (clear hV; go_simp; (try with_reducible rfl))
          try simp only [pa, List.set]
          refine walk_core 12 rfl (by kernel_rfl) (fun _ _ _ _ _ h => h) (fun V hV K hK => ?_)
          have hV0 := HL0.out.trans hV
          go_simp
          go_at_call 43
          refine (CE.out V (HJ.out.trans hV0)).mono ?_
          rintro e x12 ⟨hb, Ae, ce, rfl⟩
          have HT12 := Lib.hid (hV.of hb)
          have HL1 := Lib.hid (hV0.of hb)
          have hsize := hb.size
          have hkeep := fun (r : Nat) (_ : True) (h : r < V.heap.size) => hb.block r h
          have ZF1 : Hid (∀ s, x12.heap.size ≤ s → _) := Lib.hid (fun s h => ZF0.out s (Nat.le_trans hV.size (Nat.le_trans hsize h)))
          refine hK.out _ _ (Later x12) (Later x12) _ (fun r _ h => hkeep r trivial h) (fun _ h _ => h) (fun V' h => (hV.of hb).trans h) (fun _ h => h) (fun V' h => ZF1.out _ h.size) (Later.refl _) (closed_later _) ?_
          clear hK K hV hsize hkeep hV0 hb
          try simp only [pa, List.set]
          refine wt 13 51 ?_ (fun V hV => ?_) ?_
          rotate_left 1
          · (clear hV; go_simp; (try with_reducible rfl))
          try simp only [pa, List.set]
          refine wt 14 52 ?_ (fun V hV => ?_) ?_
          rotate_left 1
          · (clear hV; go_simp; (try with_reducible rfl))
          try simp only [pa, List.set]
          refine wt 15 53 ?_ (fun V hV => ?_) ?_
          rotate_left 1
          · (clear hV; go_simp; (try with_reducible rfl))
          try simp only [pa, List.set]
          refine walk_exit (fun V hV => wpAnyJ_done (by kernel_rfl) ?_ _)
          have hV0 := HL1.out.trans hV
          have HV0 := Lib.hid (HJ.out.trans hV0)
          clear hV hV0
          cases bg with
          | true =>
            have hU2 := HUU.out
            rw [if_pos (by rfl)] at hU2
            have HU2 := Lib.hid hU2
            clear hU2 HUU
            go_wp2_with fail
            go_roundg (i - 1)
            case measure => have := HM.out; omega
            case rel => exact ⟨i - 1, by go_num, by omega, by omega, by omega, HV0, HU2⟩
          | false =>
            have hU2 : i = H2 := HUU.out
            subst hU2
            clear HUU
            go_wp2_with fail
            go_meet
            exact ⟨rfl, HV0⟩
        · obtain rfl : i = 1 := by omega
          have hU := HU.out
          rw [downN] at hU
          subst hU
          clear h21 hi
          go_upto_region 6 with fail
          have HL0 := Lib.hid (Later.refl wr)
          have ZF0 : Hid (∀ s, wr.heap.size ≤ s → wr.heap.size ≤ s) := Lib.hid (fun _ h => h)
          have ZS0 : Hid (∀ V, Later wr V → (Later wr) V) := Lib.hid (fun _ h => h)
          refine walk_start 16 (S := Later wr) (T := Later wr) (by kernel_rfl) (fun r => wr.heap.size ≤ r) (fun _ h => h.size) ZS0.out (closed_later _) (Later.refl _).drew ?_
          refine wt 0 38 ?_ (fun V hV => ?_) ?_
          rotate_left 1
          · (clear hV; go_simp; (try with_reducible rfl))
          try simp only [pa, List.set]
          refine wt 1 39 ?_ (fun V hV => ?_) ?_
          rotate_left 1
          · (clear hV; go_simp; (try with_reducible rfl))
          try simp only [pa, List.set]
          refine wt 2 40 ?_ (fun V hV => ?_) ?_
          rotate_left 1
          · (clear hV; go_simp; (try with_reducible rfl))
          try simp only [pa, List.set]
          refine ws 3 41 ?_
          try simp only [pa, List.set]
          refine ws 4 42 ?_
          try simp only [pa, List.set]
          refine ws 5 43 ?_
          try simp only [pa, List.set]
          refine ws 6 44 ?_
          try simp only [pa, List.set]
          refine ws 7 45 ?_
          try simp only [pa, List.set]
          refine ws 8 46 ?_
          try simp only [pa, List.set]
          refine ws 9 47 ?_
          try simp only [pa, List.set]
          refine ws 10 48 ?_
          try simp only [pa, List.set]
          refine ws 11 49 ?_
          try simp only [pa, List.set]
          refine ws 12 50 ?_
          try simp only [pa, List.set]
          refine ws 13 51 ?_
          try simp only [pa, List.set]
          refine ws 14 52 ?_
          try simp only [pa, List.set]
          refine wt 15 53 ?_ (fun V hV => ?_) ?_
          rotate_left 1
          · (clear hV; go_simp; (try with_reducible rfl))
          try simp only [pa, List.set]
          refine walk_exit (fun V hV => wpAnyJ_done (by kernel_rfl) ?_ _)
          have hV0 := HL0.out.trans hV
          have HV0 := Lib.hid (HJ.out.trans hV0)
          clear hV hV0
          go_wp2_with fail
          go_meet
          exact ⟨rfl, HV0⟩
    case rest =>
      obtain ⟨rfl, HB⟩ := hcut
      obtain ⟨wd, rfl⟩ : ∃ wd : World, wd = wc := ⟨_, rfl⟩
      have h2n : H2 < n := by omega
      have h20 : 1 ≤ H2 := by omega
      obtain ⟨B1, B2, r5, r6, hpb, y1, y2⟩ := rcut_from HR.out HV.out (i := H2) (by rw [← HN.out]; omega)
      obtain ⟨r3, r4, hpa, y3, y4⟩ := rcut_to HR.out HV.out (i := H2) (by rw [← HN.out]; omega)
      rw [← HN.out] at r3 r5 hpb y1 y2
      rw [← HN.out] at r6
      obtain ⟨kb, ko, rfl, hkc⟩ : ∃ b o, A1 = some ⟨b, o, none⟩ ∧ ∀ W', Later W2 W' → W'.cell? ⟨b, o + H2, none⟩ = some (.string (ks.getD H2 ByteArray.empty)) := by
        obtain ⟨b, o, e, hc⟩ := strs_all HR.out.k (show 0 < ks.length by have := HN.out; omega)
        exact ⟨b, o, e, fun W' hW => hc H2 (show H2 < ks.length by have := HN.out; omega) W' hW⟩
      have hc6 := hkc wd HB.out
      have HPA := Lib.hid (hpa.below HB.out)
      have HPB := Lib.hid (hpb.below HB.out)
      have HY := Lib.hid (And.intro y1 (And.intro y2 (And.intro y3 y4)))
      have kx6 := HKX.out.below HB.out HKX.out.lt
      have ky6 := HKY.out.below HB.out HKY.out.lt
      have hab : ∀ {g : Nat}, Blk wd g 73 #[.bool false, .slice none 0 0, .slice none 0 0, .slice none 0 0] → g ≠ kb := fun {g} hg e => by
        have h9 := hg.cell (ko + H2)
        rw [e, hc6] at h9
        match hoff : ko + H2, h9 with
        | 0, h9 => simp at h9
        | 1, h9 => simp at h9
        | 2, h9 => simp at h9
        | 3, h9 => simp at h9
        | n + 4, h9 => simp at h9
      have na1 : w.heap.size + 1 ≠ kb := hab kx6
      have na2 : w.heap.size + 1 + 1 ≠ kb := hab ky6
      have np1 : w.heap.size + 1 ≠ w.heap.size := by omega
      have np2 : w.heap.size + 1 + 1 ≠ w.heap.size := by omega
      have np3 : w.heap.size ≠ w.heap.size + 1 + 1 := by omega
      obtain ⟨q0, q1, q2, q3⟩ := SF.out wd HB.out
      rw [← HN.out] at q1
      obtain ⟨x0, x1, x2, x3⟩ := cells4 kx6
      obtain ⟨z0, z1, z2, z3⟩ := cells4 ky6
      have xf0 := kx6.frozen 0
      have xf1 := kx6.frozen 1
      have xf2 := kx6.frozen 2
      have xf3 := kx6.frozen 3
      have yf0 := ky6.frozen 0
      have yf1 := ky6.frozen 1
      have yf2 := ky6.frozen 2
      have yf3 := ky6.frozen 3
      have KX := Lib.hid kx6
      have KY := Lib.hid ky6
      have HB6 : Hid (Below w.heap.size w wd) := Lib.hid (HB2.out.trans ((show Below _ _ _ from HB.out).mono HB2.out.size))
      have i7 : (H2 : Int) < (n : Int) := by omega
      have i8 : (0 : Int) ≤ (H2 : Int) := by omega
      clear hab kx6 ky6 hpa hpb y1 y2 y3 y4 hkc h21 h11 h1n h20 h2n
      generalize n - H2 = k at *
      generalize c1 - H2 = d1 at *
      generalize c2 - H2 = d2 at *
      go_upto_region 8 with fail
      go_region_held3 (fun V => V.cell? ⟨w.heap.size, 1, none⟩ = some (.slice (some ⟨kb, ko, none⟩) n c1) ∧ V.cell? ⟨w.heap.size, 2, none⟩ = some (.slice A2 vs.length c2) ∧
          V.cell? ⟨kb, ko + H2, none⟩ = some (.string (ks.getD H2 ByteArray.empty)))
        (go_keep) (fail)
      all_goals
        obtain ⟨W9, hW9⟩ : ∃ W9, W9 = ((((((((wd.setCell ⟨w.heap.size + 1, 0, none⟩ (.bool true)).setCell ⟨w.heap.size + 1, 1, none⟩ (.slice (some ⟨kb, ko, none⟩) H2 c1)).setCell ⟨w.heap.size + 1, 2, none⟩ (.slice A2 H2 c2)).setCell ⟨w.heap.size + 1, 3, none⟩ (.slice none 0 0)).setCell ⟨w.heap.size + 1 + 1, 0, none⟩ (.bool true)).setCell ⟨w.heap.size + 1 + 1, 1, none⟩ (.slice B1 k d1)).setCell ⟨w.heap.size + 1 + 1, 2, none⟩ (.slice B2 k d2)).setCell ⟨w.heap.size + 1 + 1, 3, none⟩ (.slice none 0 0)).drew := ⟨_, rfl⟩
        rw [← hW9]
        have HW9 := Lib.hid hW9
        clear hW9
        go_wp2_with fail
        have k1' : Blk W9 (w.heap.size + 1) 73 #[.bool true, .slice (some ⟨kb, ko, none⟩) H2 c1, .slice A2 H2 c2, .slice none 0 0] := by
          rw [HW9.out]
          exact (blk_far4 (set4 KX.out) (by omega) _ _ _ _).drew
        have k2' : Blk W9 (w.heap.size + 1 + 1) 73 #[.bool true, .slice B1 k d1, .slice B2 k d2, .slice none 0 0] := by
          rw [HW9.out]
          exact (set4 (blk_far4 KY.out (by omega) _ _ _ _)).drew
        have hb9 : Below w.heap.size w W9 := by
          rw [HW9.out]
          exact (((((((((HB6.out).setCell (p := ⟨w.heap.size + 1, 0, none⟩) (by simp; try omega) _).setCell (p := ⟨w.heap.size + 1, 1, none⟩) (by simp; try omega) _).setCell (p := ⟨w.heap.size + 1, 2, none⟩) (by simp; try omega) _).setCell (p := ⟨w.heap.size + 1, 3, none⟩) (by simp; try omega) _).setCell (p := ⟨w.heap.size + 1 + 1, 0, none⟩) (by simp; try omega) _).setCell (p := ⟨w.heap.size + 1 + 1, 1, none⟩) (by simp; try omega) _).setCell (p := ⟨w.heap.size + 1 + 1, 2, none⟩) (by simp; try omega) _).setCell (p := ⟨w.heap.size + 1 + 1, 3, none⟩) (by simp; try omega) _).drew
        have far9 : ∀ {A1 A2 A3 : Option Addr} {c1 c2 c3 : Nat} {p : Pg}, PgR wd A1 c1 A2 c2 A3 c3 p → PgR W9 A1 c1 A2 c2 A3 c3 p := fun h => by
          rw [HW9.out]
          exact ((h.set4 KX.out).set4 (blk_far4 KY.out (by omega) _ _ _ _)).below (Below.refl _ _).drew
        have hq1 := far9 HPA.out
        have hq2 := far9 HPB.out
        refine bodyPost_ret_by (results_csc rfl _ _ (w.heap.size + 1) (w.heap.size + 1 + 1) 73 _ _ (0, 0) (0, 0) _ rfl rfl k1' k2' Try.underlying73 rfl (by kernel_rfl) (by kernel_rfl)) rfl ?_
        rw [HSA.out, ← HN.out]
        refine ⟨hb9, some ⟨kb, ko, none⟩, c1, A2, c2, none, 0, B1, d1, B2, d2, none, 0, ?_, hq1, hq2⟩
        unfold pgv
        rw [HY.out.1, HY.out.2.1, HY.out.2.2.1, HY.out.2.2.2]
        simp [partP]


set_option maxRecDepth 100000 in
set_option maxHeartbeats 8000000 in
theorem rsplit_branch (h : PgR w A1 c1 A2 c2 A3 c3 ⟨false, ks, vs, ns⟩) (hs : Small ⟨false, ks, vs, ns⟩) (hv : ns.length = ks.length + 1) (h2 : 3 ≤ ks.length) :
    Calls Try.prog 47 #[pgv A1 c1 A2 c2 A3 c3 ⟨false, ks, vs, ns⟩] w (SplitPost w (brA ks ns) (brB ks ns) (ks.getD (ks.length / 2) ByteArray.empty)) := by
  obtain ⟨W2, hW2⟩ : ∃ W2, W2 = ((w.alloc (.cells #[.bool false, .slice A1 ks.length c1, .slice A2 vs.length c2, .slice A3 ns.length c3] 73)).alloc (.cells #[.bool false, .slice none 0 0, .slice none 0 0, .slice none 0 0] 73)).alloc (.cells #[.bool false, .slice none 0 0, .slice none 0 0, .slice none 0 0] 73) := ⟨_, rfl⟩
  have hb2 : Below w.heap.size w W2 := by rw [hW2]; exact (((Below.refl _ _).alloc (Nat.le_refl _) _).alloc (by simp) _).alloc (by simp; omega) _
  have kp : Blk W2 w.heap.size 73 #[.bool false, .slice A1 ks.length c1, .slice A2 vs.length c2, .slice A3 ns.length c3] := by rw [hW2]; exact ((Blk.new _ _ _).alloc _).alloc _
  have kx : Blk W2 (w.heap.size + 1) 73 #[.bool false, .slice none 0 0, .slice none 0 0, .slice none 0 0] := by
    have := (Blk.new (w.alloc (.cells #[.bool false, .slice A1 ks.length c1, .slice A2 vs.length c2, .slice A3 ns.length c3] 73)) 73 #[.bool false, .slice none 0 0, .slice none 0 0, .slice none 0 0]).alloc (.cells #[.bool false, .slice none 0 0, .slice none 0 0, .slice none 0 0] 73)
    rw [← hW2] at this
    simpa using this
  have ky : Blk W2 (w.heap.size + 1 + 1) 73 #[.bool false, .slice none 0 0, .slice none 0 0, .slice none 0 0] := by
    have := Blk.new ((w.alloc (.cells #[.bool false, .slice A1 ks.length c1, .slice A2 vs.length c2, .slice A3 ns.length c3] 73)).alloc (.cells #[.bool false, .slice none 0 0, .slice none 0 0, .slice none 0 0] 73)) 73 #[.bool false, .slice none 0 0, .slice none 0 0, .slice none 0 0]
    rw [← hW2] at this
    simpa using this
  have hr2 := h.below hb2
  have SF : Hid (∀ V, Later W2 V → V.cell? ⟨w.heap.size, 0, none⟩ = some (.bool false) ∧ V.cell? ⟨w.heap.size, 1, none⟩ = some (.slice A1 ks.length c1) ∧ V.cell? ⟨w.heap.size, 2, none⟩ = some (.slice A2 vs.length c2) ∧ V.cell? ⟨w.heap.size, 3, none⟩ = some (.slice A3 ns.length c3)) := Lib.hid fun V hV => cells4 (kp.below hV kp.lt)
  have HR := Lib.hid hr2
  have HKX := Lib.hid kx
  have HKY := Lib.hid ky
  have HB2 := Lib.hid hb2
  have HS := Lib.hid hs
  have HV := Lib.hid hv
  have HW2 := Lib.hid hW2
  have hn60 : ks.length ≤ 60 := hs.1
  obtain ⟨q0, q1, q2, q3⟩ := SF.out W2 (Later.refl _)
  clear h hr2 kp kx ky hb2 hs hW2 hv
  unfold pgv
  dsimp only
  have t1 : decide ((3 : Int) ≤ (ks.length : Int)) = true := decide_eq_true (by omega)
  have t2 : decide (3 ≤ ks.length) = true := decide_eq_true h2
  obtain ⟨m, hm⟩ : ∃ m, m = ks.length / 2 := ⟨_, rfl⟩
  have e2 : (ks.length : Int) / 2 = (m : Int) := by omega
  have HM := Lib.hid hm
  have hv := HV.out
  have hk1 : ks.length ≤ c1 := HR.out.kc
  have hk3 : ns.length ≤ c3 := HR.out.nc
  have hm1 : m + 1 ≤ ks.length := by omega
  obtain ⟨i0, hi0, hz0, hz1, hz2⟩ := info_parts cinfo_str
  obtain ⟨i1, hi1, hy0, hy1, hy2⟩ := info_parts cinfo_u64
  have r1 := cut_to (P := Try.prog) 64 9 .i64 Try.underlying64 hi0 A1 ks.length c1 (m : Int) (by omega) (by omega) hk1
  have r2 := cut_to (P := Try.prog) 65 32 .i64 Try.underlying65 hi1 A3 ns.length c3 ((m : Int) + 1) (by omega) (by omega) hk3
  rw [show (m : Int).toNat = m by omega] at r1
  rw [show ((m : Int) + 1).toNat = m + 1 by omega] at r2
  have r3 := cut_from (P := Try.prog) 64 9 .i64 Try.underlying64 hi0 1 hz1 A1 ks.length c1 ((m : Int) + 1) (by omega) (by omega)
  have r4 := cut_from (P := Try.prog) 65 32 .i64 Try.underlying65 hi1 1 hy1 A3 ns.length c3 ((m : Int) + 1) (by omega) (by omega)
  rw [show ((m : Int) + 1).toNat = m + 1 by omega] at r3 r4
  have x1 := Kd.C_take HR.out.k (show m ≤ ks.length by omega)
  have x2 := Kd.C_take HR.out.n (show m + 1 ≤ ns.length by omega)
  have x3 := Kd.C_drop HR.out.k (show m + 1 ≤ ks.length by omega) hk1
  have x4 := Kd.C_drop HR.out.n (show m + 1 ≤ ns.length by omega) hk3
  replace x3 : Kd.C Kd.string W2 (if c1 = m + 1 then A1 else A1.map (fun x => x.add ((m + 1) * 1))) (ks.drop (m + 1)).length (ks.drop (m + 1)) := x3
  replace x4 : Kd.C (Kd.int .u64) W2 (if c3 = m + 1 then A3 else A3.map (fun x => x.add ((m + 1) * 1))) (ns.drop (m + 1)).length (ns.drop (m + 1)) := x4
  generalize (if c1 = m + 1 then A1 else A1.map (fun x => x.add ((m + 1) * 1))) = Ab at *
  generalize (if c3 = m + 1 then A3 else A3.map (fun x => x.add ((m + 1) * 1))) = Ad at *
  have y1 : (ks.take m).length = m := by rw [List.length_take]; omega
  have y2 : (ns.take (m + 1)).length = m + 1 := by rw [List.length_take]; omega
  have y3 : (ks.drop (m + 1)).length = ks.length - (m + 1) := List.length_drop
  have y4 : (ns.drop (m + 1)).length = ns.length - (m + 1) := List.length_drop
  obtain ⟨kb, ko, rfl, hkc⟩ : ∃ b o, A1 = some ⟨b, o, none⟩ ∧ ∀ W', Later W2 W' → W'.cell? ⟨b, o + m, none⟩ = some (.string (ks.getD m ByteArray.empty)) := by
    obtain ⟨b, o, e, hc⟩ := strs_all HR.out.k (show 0 < ks.length by omega)
    exact ⟨b, o, e, fun W' hW => hc m (show m < ks.length by omega) W' hW⟩
  have hap : PgR W2 (some ⟨kb, ko, none⟩) c1 none 0 A3 c3 (brA ks ns) := by unfold brA; rw [← hm]; exact ⟨x1, by show (ks.take m).length ≤ _; omega, Kd.C_nil _ _, Nat.le_refl _, x2, by show (ns.take (m + 1)).length ≤ _; omega⟩
  have hbp : PgR W2 Ab (c1 - (m + 1)) none 0 Ad (c3 - (m + 1)) (brB ks ns) := by unfold brB; rw [← hm]; exact ⟨x3, by show (ks.drop (m + 1)).length ≤ _; omega, Kd.C_nil _ _, Nat.le_refl _, x4, by show (ns.drop (m + 1)).length ≤ _; omega⟩
  have HAP := Lib.hid hap
  have HBP := Lib.hid hbp
  have HAL : Hid ((brA ks ns).keys.length = m ∧ (brA ks ns).kids.length = m + 1) := Lib.hid (by unfold brA; rw [← hm]; exact ⟨y1, y2⟩)
  have HBL : Hid ((brB ks ns).keys.length = ks.length - (m + 1) ∧ (brB ks ns).kids.length = ns.length - (m + 1)) := Lib.hid (by unfold brB; rw [← hm]; exact ⟨y3, y4⟩)
  generalize ks.length - (m + 1) = k1 at *
  generalize ns.length - (m + 1) = k2 at *
  generalize c1 - (m + 1) = kc1 at *
  generalize c3 - (m + 1) = kc2 at *
  have i7 : (m : Int) < (ks.length : Int) := by omega
  have i8 : (0 : Int) ≤ (m : Int) := by omega
  have hc6 := hkc W2 (Later.refl _)
  have kx6 := HKX.out
  have ky6 := HKY.out
  have hab : ∀ {g : Nat}, Blk W2 g 73 #[.bool false, .slice none 0 0, .slice none 0 0, .slice none 0 0] → g ≠ kb := fun {g} hg e => by
    have h9 := hg.cell (ko + m)
    rw [e, hc6] at h9
    match hoff : ko + m, h9 with
    | 0, h9 => simp at h9
    | 1, h9 => simp at h9
    | 2, h9 => simp at h9
    | 3, h9 => simp at h9
    | n + 4, h9 => simp at h9
  have na1 : w.heap.size + 1 ≠ kb := hab kx6
  have na2 : w.heap.size + 1 + 1 ≠ kb := hab ky6
  have np1 : w.heap.size + 1 ≠ w.heap.size := by omega
  have np2 : w.heap.size + 1 + 1 ≠ w.heap.size := by omega
  have np3 : w.heap.size ≠ w.heap.size + 1 + 1 := by omega
  have ew : IntKind.i64.wrap ((m : Int) + 1) = (m : Int) + 1 := IntWalk.i64_in _ (by omega)
  clear x1 x2 x3 x4 y1 y2 y3 y4 hap hbp hkc hv hk1 hk3 hm hi0 hz0 hz1 hz2 hi1 hy0 hy1 hy2 h2 hm1 hab
  go_enter Try.func47, Try.ntmps47
  go_upto_region 9 with fail
  rw [← HW2.out]
  clear HW2 e2
  go_wp2_with fail
  have KX := Lib.hid kx6
  have KY := Lib.hid ky6
  obtain ⟨x0, x1, x2, x3⟩ := cells4 kx6
  obtain ⟨z0, z1, z2, z3⟩ := cells4 ky6
  have xf0 := kx6.frozen 0
  have xf1 := kx6.frozen 1
  have xf2 := kx6.frozen 2
  have xf3 := kx6.frozen 3
  have yf0 := ky6.frozen 0
  have yf1 := ky6.frozen 1
  have yf2 := ky6.frozen 2
  have yf3 := ky6.frozen 3
  clear kx6 ky6
  go_region_held3 (fun V => V.cell? ⟨w.heap.size, 1, none⟩ = some (.slice (some ⟨kb, ko, none⟩) ks.length c1) ∧ V.cell? ⟨w.heap.size, 3, none⟩ = some (.slice A3 ns.length c3) ∧
      V.cell? ⟨kb, ko + m, none⟩ = some (.string (ks.getD m ByteArray.empty)))
    (go_keep) (fail)
  all_goals
    obtain ⟨W9, hW9⟩ : ∃ W9, W9 = ((((((((W2.setCell ⟨w.heap.size + 1, 0, none⟩ (.bool false)).setCell ⟨w.heap.size + 1, 1, none⟩ (.slice (some ⟨kb, ko, none⟩) m c1)).setCell ⟨w.heap.size + 1, 2, none⟩ (.slice none 0 0)).setCell ⟨w.heap.size + 1, 3, none⟩ (.slice A3 (m + 1) c3)).setCell ⟨w.heap.size + 1 + 1, 0, none⟩ (.bool false)).setCell ⟨w.heap.size + 1 + 1, 1, none⟩ (.slice Ab k1 kc1)).setCell ⟨w.heap.size + 1 + 1, 2, none⟩ (.slice none 0 0)).setCell ⟨w.heap.size + 1 + 1, 3, none⟩ (.slice Ad k2 kc2)).drew := ⟨_, rfl⟩
    rw [← hW9]
    have HW9 := Lib.hid hW9
    clear hW9
    go_wp2_with fail
    have k1' : Blk W9 (w.heap.size + 1) 73 #[.bool false, .slice (some ⟨kb, ko, none⟩) m c1, .slice none 0 0, .slice A3 (m + 1) c3] := by
      rw [HW9.out]
      exact (blk_far4 (set4 KX.out) (by omega) _ _ _ _).drew
    have k2' : Blk W9 (w.heap.size + 1 + 1) 73 #[.bool false, .slice Ab k1 kc1, .slice none 0 0, .slice Ad k2 kc2] := by
      rw [HW9.out]
      exact (set4 (blk_far4 KY.out (by omega) _ _ _ _)).drew
    have hb9 : Below w.heap.size w W9 := by
      rw [HW9.out]
      exact (((((((((HB2.out).setCell (p := ⟨w.heap.size + 1, 0, none⟩) (by simp; try omega) _).setCell (p := ⟨w.heap.size + 1, 1, none⟩) (by simp; try omega) _).setCell (p := ⟨w.heap.size + 1, 2, none⟩) (by simp; try omega) _).setCell (p := ⟨w.heap.size + 1, 3, none⟩) (by simp; try omega) _).setCell (p := ⟨w.heap.size + 1 + 1, 0, none⟩) (by simp; try omega) _).setCell (p := ⟨w.heap.size + 1 + 1, 1, none⟩) (by simp; try omega) _).setCell (p := ⟨w.heap.size + 1 + 1, 2, none⟩) (by simp; try omega) _).setCell (p := ⟨w.heap.size + 1 + 1, 3, none⟩) (by simp; try omega) _).drew
    have far9 : ∀ {A1 A2 A3 : Option Addr} {c1 c2 c3 : Nat} {p : Pg}, PgR W2 A1 c1 A2 c2 A3 c3 p → PgR W9 A1 c1 A2 c2 A3 c3 p := fun h => by
      rw [HW9.out]
      exact ((h.set4 KX.out).set4 (blk_far4 KY.out (by omega) _ _ _ _)).below (Below.refl _ _).drew
    have hq1 := far9 HAP.out
    have hq2 := far9 HBP.out
    refine bodyPost_ret_by (results_csc rfl _ _ (w.heap.size + 1) (w.heap.size + 1 + 1) 73 _ _ (0, 0) (0, 0) _ rfl rfl k1' k2' Try.underlying73 rfl (by kernel_rfl) (by kernel_rfl)) rfl ?_
    refine ⟨hb9, some ⟨kb, ko, none⟩, c1, none, 0, A3, c3, Ab, kc1, none, 0, Ad, kc2, ?_, hq1, hq2⟩
    unfold pgv
    rw [HAL.out.1, HAL.out.2, HBL.out.1, HBL.out.2, ← HM.out]
    simp [brA, brB]

set_option maxRecDepth 100000 in
set_option maxHeartbeats 8000000 in
theorem rsplit_small (h : (lf = true ∧ ks.length < 2) ∨ (lf = false ∧ ks.length < 3)) :
    Calls Try.prog 47 #[.agg #[.bool lf, .slice A1 ks.length c1, .slice A2 vs.length c2, .slice A3 ns.length c3]] w fun e w' => e = .returned (.tuple #[.agg #[.bool lf, .slice A1 ks.length c1, .slice A2 vs.length c2, .slice A3 ns.length c3], .string ByteArray.empty, .agg #[.bool false, .slice none 0 0, .slice none 0 0, .slice none 0 0]]) ∧ Below w.heap.size w w' := by
  generalize ks.length = n1 at *
  generalize vs.length = n2 at *
  generalize ns.length = n3 at *
  rcases h with ⟨rfl, h1⟩ | ⟨rfl, h1⟩
  · have g1 : decide ((2 : Int) ≤ (n1 : Int)) = false := decide_eq_false (by omega)
    have g2 : decide (2 ≤ n1) = false := decide_eq_false (by omega)
    clear h1
    go_enter Try.func47, Try.ntmps47
    go_wp2_with fail
    obtain ⟨W, hW⟩ : ∃ W, W = ((w.alloc (.cells #[.bool true, .slice A1 n1 c1, .slice A2 n2 c2, .slice A3 n3 c3] 73)).alloc (.cells #[.bool true, .slice A1 n1 c1, .slice A2 n2 c2, .slice A3 n3 c3] 73)).alloc (.cells #[.bool false, .slice none 0 0, .slice none 0 0, .slice none 0 0] 73) := ⟨_, rfl⟩
    rw [← hW]
    have k1 : Blk W (w.heap.size + 1) 73 #[.bool true, .slice A1 n1 c1, .slice A2 n2 c2, .slice A3 n3 c3] := by
      have := (Blk.new (w.alloc (.cells #[.bool true, .slice A1 n1 c1, .slice A2 n2 c2, .slice A3 n3 c3] 73)) 73 #[.bool true, .slice A1 n1 c1, .slice A2 n2 c2, .slice A3 n3 c3]).alloc (.cells #[.bool false, .slice none 0 0, .slice none 0 0, .slice none 0 0] 73)
      rw [← hW] at this
      simpa using this
    have k2 : Blk W (w.heap.size + 1 + 1) 73 #[.bool false, .slice none 0 0, .slice none 0 0, .slice none 0 0] := by
      have := Blk.new ((w.alloc (.cells #[.bool true, .slice A1 n1 c1, .slice A2 n2 c2, .slice A3 n3 c3] 73)).alloc (.cells #[.bool true, .slice A1 n1 c1, .slice A2 n2 c2, .slice A3 n3 c3] 73)) 73 #[.bool false, .slice none 0 0, .slice none 0 0, .slice none 0 0]
      rw [← hW] at this
      simpa using this
    have hb : Below w.heap.size w W := by rw [hW]; exact (((Below.refl _ _).alloc (Nat.le_refl _) _).alloc (by simp) _).alloc (by simp; omega) _
    exact bodyPost_ret_by (results_csc rfl _ _ (w.heap.size + 1) (w.heap.size + 1 + 1) 73 _ _ (0, 0) (0, 0) _ rfl rfl k1 k2 Try.underlying73 rfl (by kernel_rfl) (by kernel_rfl)) rfl ⟨rfl, hb⟩
  · have g1 : decide ((3 : Int) ≤ (n1 : Int)) = false := decide_eq_false (by omega)
    have g2 : decide (3 ≤ n1) = false := decide_eq_false (by omega)
    clear h1
    go_enter Try.func47, Try.ntmps47
    go_wp2_with fail
    obtain ⟨W, hW⟩ : ∃ W, W = ((w.alloc (.cells #[.bool false, .slice A1 n1 c1, .slice A2 n2 c2, .slice A3 n3 c3] 73)).alloc (.cells #[.bool false, .slice A1 n1 c1, .slice A2 n2 c2, .slice A3 n3 c3] 73)).alloc (.cells #[.bool false, .slice none 0 0, .slice none 0 0, .slice none 0 0] 73) := ⟨_, rfl⟩
    rw [← hW]
    have k1 : Blk W (w.heap.size + 1) 73 #[.bool false, .slice A1 n1 c1, .slice A2 n2 c2, .slice A3 n3 c3] := by
      have := (Blk.new (w.alloc (.cells #[.bool false, .slice A1 n1 c1, .slice A2 n2 c2, .slice A3 n3 c3] 73)) 73 #[.bool false, .slice A1 n1 c1, .slice A2 n2 c2, .slice A3 n3 c3]).alloc (.cells #[.bool false, .slice none 0 0, .slice none 0 0, .slice none 0 0] 73)
      rw [← hW] at this
      simpa using this
    have k2 : Blk W (w.heap.size + 1 + 1) 73 #[.bool false, .slice none 0 0, .slice none 0 0, .slice none 0 0] := by
      have := Blk.new ((w.alloc (.cells #[.bool false, .slice A1 n1 c1, .slice A2 n2 c2, .slice A3 n3 c3] 73)).alloc (.cells #[.bool false, .slice A1 n1 c1, .slice A2 n2 c2, .slice A3 n3 c3] 73)) 73 #[.bool false, .slice none 0 0, .slice none 0 0, .slice none 0 0]
      rw [← hW] at this
      simpa using this
    have hb : Below w.heap.size w W := by rw [hW]; exact (((Below.refl _ _).alloc (Nat.le_refl _) _).alloc (by simp) _).alloc (by simp; omega) _
    exact bodyPost_ret_by (results_csc rfl _ _ (w.heap.size + 1) (w.heap.size + 1 + 1) 73 _ _ (0, 0) (0, 0) _ rfl rfl k1 k2 Try.underlying73 rfl (by kernel_rfl) (by kernel_rfl)) rfl ⟨rfl, hb⟩

/-- A page's halves, as both split it. -/
def splitP (p : Pg) : Pg × ByteArray × Pg :=
  if p.leaf then if 2 ≤ p.keys.length then (partP p 0 (splitAt p), p.keys.getD (splitAt p) ByteArray.empty, partP p (splitAt p) p.keys.length) else (p, ByteArray.empty, ⟨false, [], [], []⟩)
  else if 3 ≤ p.keys.length then (brA p.keys p.kids, p.keys.getD (p.keys.length / 2) ByteArray.empty, brB p.keys p.kids) else (p, ByteArray.empty, ⟨false, [], [], []⟩)
theorem post_small {p : Pg} {e : Ending} {w w' : World} (h : PgR w A1 c1 A2 c2 A3 c3 p) (he : e = .returned (.tuple #[pgv A1 c1 A2 c2 A3 c3 p, .string ByteArray.empty, .agg #[.bool false, .slice none 0 0, .slice none 0 0, .slice none 0 0]]) ∧ Below w.heap.size w w') : SplitPost w p ⟨false, [], [], []⟩ ByteArray.empty e w' :=
  ⟨he.2, A1, c1, A2, c2, A3, c3, none, 0, none, 0, none, 0, he.1, h.below he.2, ⟨Kd.C_nil _ _, Nat.le_refl _, Kd.C_nil _ _, Nat.le_refl _, Kd.C_nil _ _, Nat.le_refl _⟩⟩
theorem split_any {p : Pg} (h : PgR w A1 c1 A2 c2 A3 c3 p) (hs : Small p) (hg : goodB p = true) : Calls Try.prog 37 #[pgv A1 c1 A2 c2 A3 c3 p] w (SplitPost w (splitP p).1 (splitP p).2.2 (splitP p).2.1) := by
  obtain ⟨lf, ks, vs, ns⟩ := p
  unfold splitP
  dsimp only
  rcases good_shape hg with ⟨hl, hv, hk⟩ | ⟨hl, hv, hk⟩
  · dsimp only at hl hv hk
    subst hl
    rw [if_pos (by rfl)]
    split
    · rename_i h2; exact split_leaf h hs hv h2
    · rename_i h2; have h2 : ¬ 2 ≤ ks.length := h2; exact (split_small (ks := ks) (vs := vs) (ns := ns) (.inl ⟨rfl, by omega⟩)).mono fun e w' he => post_small h he
  · dsimp only at hl hv hk
    subst hl
    rw [if_neg (by simp)]
    split
    · rename_i h2; exact split_branch h hs hk h2
    · rename_i h2; have h2 : ¬ 3 ≤ ks.length := h2; exact (split_small (ks := ks) (vs := vs) (ns := ns) (.inr ⟨rfl, by omega⟩)).mono fun e w' he => post_small h he
theorem rsplit_any {p : Pg} (h : PgR w A1 c1 A2 c2 A3 c3 p) (hs : Small p) (hg : goodB p = true) : Calls Try.prog 47 #[pgv A1 c1 A2 c2 A3 c3 p] w (SplitPost w (splitP p).1 (splitP p).2.2 (splitP p).2.1) := by
  obtain ⟨lf, ks, vs, ns⟩ := p
  unfold splitP
  dsimp only
  rcases good_shape hg with ⟨hl, hv, hk⟩ | ⟨hl, hv, hk⟩
  · dsimp only at hl hv hk
    subst hl
    rw [if_pos (by rfl)]
    split
    · rename_i h2; exact rsplit_leaf h hs hv h2
    · rename_i h2; have h2 : ¬ 2 ≤ ks.length := h2; exact (rsplit_small (ks := ks) (vs := vs) (ns := ns) (.inl ⟨rfl, by omega⟩)).mono fun e w' he => post_small h he
  · dsimp only at hl hv hk
    subst hl
    rw [if_neg (by simp)]
    split
    · rename_i h2; exact rsplit_branch h hs hk h2
    · rename_i h2; have h2 : ¬ 3 ≤ ks.length := h2; exact (rsplit_small (ks := ks) (vs := vs) (ns := ns) (.inr ⟨rfl, by omega⟩)).mono fun e w' he => post_small h he
end
end Go.Proofs.Ytlbikfamjogpnaa
end

/- publicanref4.PutLeaf and DropLeaf: what they answer. Conditions: the page reads in memory; few keys; they rise. -/
section
namespace Go.Proofs.Ytlbikfamjogpnaa
open Go.RowKit Go.Proofs.YtlbikfamjogpnaaW.PrintWords Go.Proofs.Ytlbikfamjogpnaa.QPage
set_option linter.unusedVariables false
set_option linter.unusedSimpArgs false

theorem thereB_cons (k : ByteArray) (ks : List ByteArray) (key : ByteArray) : thereB (k :: ks) key = if lessB k key then thereB ks key else (k.toList == key.toList) := by
  unfold thereB
  rw [findN_cons]
  cases lessB k key with
  | true => simp
  | false => simp
theorem lessB_of_eq {a b : ByteArray} (h : a.toList = b.toList) : a = b := by
  rw [ByteArray.toList_eq, ByteArray.toList_eq] at h
  exact Go.WideShapes.bytes_inj h
theorem place_find : ∀ {ks : List ByteArray}, Rise ks → ∀ key, placeN ks key = findN ks key + (if thereB ks key then 1 else 0)
  | [], _, key => by simp [placeN, findN, thereB]
  | k :: ks, h, key => by
    obtain ⟨h1, h2⟩ := List.pairwise_cons.1 h
    have ih := place_find h2 key
    have ep : placeN (k :: ks) key = if lessB key k then 0 else placeN ks key + 1 := by
      unfold placeN
      rw [List.takeWhile_cons]
      cases lessB key k <;> simp
    rw [ep, findN_cons, thereB_cons]
    cases hl : lessB k key with
    | true =>
      have hn : lessB key k = false := by
        cases hk : lessB key k with
        | false => rfl
        | true => have := lessB_trans hl hk; rw [lessB_irrefl] at this; cases this
      rw [hn]
      simp only [Bool.false_eq_true, if_false, if_true]
      rw [ih]
      omega
    | false =>
      simp only [Bool.false_eq_true, if_false]
      cases he : (k.toList == key.toList) with
      | true =>
        have hk := lessB_of_eq (by simpa using he : k.toList = key.toList)
        subst hk
        rw [lessB_irrefl]
        simp only [Bool.false_eq_true, if_false, if_true]
        have : placeN ks k = 0 := by
          cases ks with
          | nil => rfl
          | cons a t =>
            unfold placeN
            rw [List.takeWhile_cons, h1 a (List.mem_cons_self ..)]
            rfl
        omega
      | false =>
        have hn : lessB key k = true := by
          cases hk : lessB key k with
          | true => rfl
          | false =>
            have := lessB_tri hl hk
            subst this
            simp at he
        rw [hn]
        rfl
theorem findN_lt_there {ks : List ByteArray} {key : ByteArray} (h : thereB ks key = true) : findN ks key < ks.length ∧ ks.getD (findN ks key) ByteArray.empty = key := by
  unfold thereB at h
  simp only [Bool.and_eq_true, decide_eq_true_eq] at h
  exact ⟨h.1, lessB_of_eq (by simpa using h.2)⟩
theorem set_cut (l : List ByteArray) (i : Nat) (x : ByteArray) (h : i < l.length) : l.take i ++ [x] ++ l.drop (i + 1) = l.set i x := by
  rw [List.set_eq_take_append_cons_drop, if_pos h]
  simp
/-- What stands one ahead of a place. -/
theorem before_ne {ks : List ByteArray} {key : ByteArray} (hp : 0 < findN ks key) : ((ks.getD (findN ks key - 1) ByteArray.empty).toList == key.toList) = false := by
  have h1 := findN_before key ks (findN ks key - 1) (by omega)
  rw [beq_eq_false_iff_ne]
  intro e
  rw [lessB_of_eq e, lessB_irrefl] at h1
  cases h1
section
variable {w : World} {A1 A2 A3 : Option Addr} {c1 c2 c3 : Nat} {ks vs : List ByteArray}
theorem cut_at {W : World} {A B : Option Addr} {c d : Nat} {l : List ByteArray} {s : List ByteArray} {i k : Nat} {k' : Int} (hk' : k' = (k : Int)) (h : Kd.C Kd.string W A l.length l) (hc : l.length ≤ c) (h2 : Kd.C Kd.string W B s.length s) (hd : s.length ≤ d) (hik : i + k ≤ l.length) (hl : l.length < 1000000) (hs : s.length ≤ 1) :
    Calls Try.prog 90 #[.slice A l.length c, .int .i64 (i : Int), .slice B s.length d, .int .i64 k'] W fun e w' => ∃ C m r, r = l.take i ++ s ++ l.drop (i + k) ∧ e = .returned (.slice C r.length m) ∧ Kd.C Kd.string w' C r.length r ∧ r.length ≤ m ∧ Below W.heap.size W w' := by
  subst hk'
  refine (publicanref4_cut.calls A c l (i : Int) B d s (k : Int) _ W h hc h2 hd (by
    unfold publicanref4_cut.f
    rw [if_pos ⟨by omega, by omega, by omega, by omega⟩, show (i : Int).toNat = i by omega, show ((i : Int) + (k : Int)).toNat = i + k by omega])).mono ?_
  rintro e w' ⟨v, rfl, hr, hb⟩
  obtain ⟨C, m, rfl, h1, h2⟩ := Kd.R_reads hr
  exact ⟨C, m, _, rfl, rfl, h2, h1, hb⟩

set_option maxRecDepth 100000 in
set_option maxHeartbeats 8000000 in
theorem rput_any (key val : ByteArray) (h : PgR w A1 c1 A2 c2 A3 c3 ⟨true, ks, vs, []⟩) (hf : Few ⟨true, ks, vs, []⟩) (hr : Rise ks) (hv : vs.length = ks.length) :
    Calls Try.prog 51 #[.agg #[.bool true, .slice A1 ks.length c1, .slice A2 vs.length c2, .slice A3 0 c3], .string key, .string val] w fun e w' => Below w.heap.size w w' ∧ ∃ B1 d1 B2 d2 B3 d3, e = .returned (pgv B1 d1 B2 d2 B3 d3 (putP ⟨true, ks, vs, []⟩ key val)) ∧ PgR w' B1 d1 B2 d2 B3 d3 (putP ⟨true, ks, vs, []⟩ key val) := by
  obtain ⟨W1, hW1⟩ : ∃ W1, W1 = (w.alloc (.cells #[.bool true, .slice A1 ks.length c1, .slice A2 vs.length c2, .slice A3 0 c3] 73)).alloc (.cells #[.bool false, .slice none 0 0, .slice none 0 0, .slice none 0 0] 73) := ⟨_, rfl⟩
  have hb1 : Below w.heap.size w W1 := by rw [hW1]; exact ((Below.refl _ _).alloc (Nat.le_refl _) _).alloc (by simp) _
  have kp : Blk W1 w.heap.size 73 #[.bool true, .slice A1 ks.length c1, .slice A2 vs.length c2, .slice A3 0 c3] := by rw [hW1]; exact (Blk.new _ _ _).alloc _
  have kz : Blk W1 (w.heap.size + 1) 73 #[.bool false, .slice none 0 0, .slice none 0 0, .slice none 0 0] := by
    have := Blk.new (w.alloc (.cells #[.bool true, .slice A1 ks.length c1, .slice A2 vs.length c2, .slice A3 0 c3] 73)) 73 #[.bool false, .slice none 0 0, .slice none 0 0, .slice none 0 0]
    rw [← hW1] at this
    simpa using this
  have hr1 := h.below hb1
  have SF : Hid (∀ V, Later W1 V → V.cell? ⟨w.heap.size, 0, none⟩ = some (.bool true) ∧ V.cell? ⟨w.heap.size, 1, none⟩ = some (.slice A1 ks.length c1) ∧ V.cell? ⟨w.heap.size, 2, none⟩ = some (.slice A2 vs.length c2) ∧ V.cell? ⟨w.heap.size, 3, none⟩ = some (.slice A3 0 c3)) := Lib.hid fun V hV => cells4 (kp.below hV kp.lt)
  have CPL := place_any key hr1 hf
  unfold pgv at CPL
  dsimp only [List.length_nil] at CPL
  rw [place_find hr key] at CPL
  have CPL := Lib.hid CPL
  have HR := Lib.hid hr1
  have HKZ := Lib.hid kz
  have HB1 := Lib.hid hb1
  have HW1 := Lib.hid hW1
  have HV := Lib.hid hv
  have hkf : ks.length < 1000000 := hf.k
  have HKF := Lib.hid hkf
  have hfl := findN_le ks key
  obtain ⟨q0, q1, q2, q3⟩ := SF.out W1 (Later.refl _)
  clear h hr1 kp kz hb1 hW1 hv hf
  go_enter Try.func51, Try.ntmps51
  go_wp2_with fail
  rw [← HW1.out]
  refine CPL.out.mono ?_
  rintro e w2 ⟨rfl, hb2⟩
  obtain ⟨q0, q1, q2, q3⟩ := SF.out w2 hb2
  have H2 : Hid (Later W1 w2) := Lib.hid hb2
  clear hb2 CPL HW1
  have hnb : 0 < findN ks key → ((ks.getD (findN ks key - 1) ByteArray.empty).toList == key.toList) = false := fun h => before_ne h
  cases ht : thereB ks key with
  | true =>
    obtain ⟨hfk, hke⟩ := findN_lt_there ht
    obtain ⟨kb, ko, rfl, hkc⟩ := strs_all HR.out.k (show 0 < ks.length by omega)
    have hkc0 := hkc (findN ks key) hfk w2 H2.out
    have HTT := Lib.hid ht
    rw [hke] at hkc0
    obtain ⟨f, hf⟩ : ∃ f, f = findN ks key := ⟨_, rfl⟩
    have HFE := Lib.hid hf
    rw [← hf] at hfk hkc0
    rw [if_pos (by rfl), ← hf]
    have HFK := Lib.hid hfk
    have g1 : decide ((0 : Int) < (f : Int) + 1) = true := decide_eq_true (by omega)
    have g2 : decide ((0 : Int) < ((f + 1 : Nat) : Int)) = true := decide_eq_true (by omega)
    have e1 : ((f + 1 : Nat) : Int) = (f : Int) + 1 := by omega
    have e2 : IntKind.i64.wrap ((f : Int) + 1 - 1) = (f : Int) := by rw [show (f : Int) + 1 - 1 = (f : Int) by omega]; exact IntWalk.i64_in _ (by omega)
    have e3 : (f : Int) + 1 - 1 = (f : Int) := by omega
    have e4 : IntKind.i64.wrap (f : Int) = (f : Int) := IntWalk.i64_in _ (by omega)
    have i1 : (f : Int) < (ks.length : Int) := by omega
    have i0 : (0 : Int) ≤ (f : Int) := by omega
    have hrg : 0 < f + 1 := by omega
    clear hnb hf hfl hke hkc
    have HEQ : Hid (putP ⟨true, ks, vs, []⟩ key val = ⟨true, ks, vs.take f ++ [val] ++ vs.drop (f + 1), []⟩) := Lib.hid (by
      unfold putP
      simp only [if_true, HTT.out]
      rw [← HFE.out, set_cut _ _ _ (by rw [HV.out]; omega)])
    go_upto_region 3 with fail
    clear q0 q1 q2 q3
    have HL0 := Lib.hid (Later.refl w2)
    have ZF0 : Hid (∀ s, w2.heap.size ≤ s → w2.heap.size ≤ s) := Lib.hid (fun _ h => h)
    have ZS0 : Hid (∀ V, Later w2 V → (Later w2) V) := Lib.hid (fun _ h => h)
    refine walk_start 10 (S := Later w2) (T := Later w2) (by kernel_rfl) (fun r => w2.heap.size ≤ r) (fun _ h => h.size) ZS0.out (closed_later _) (Later.refl _).drew ?_
    refine wt 0 23 ?_ (fun V hV => ?_) ?_
    rotate_left 1
    · (clear hV; go_simp; (try with_reducible rfl))
    try simp only [pa, List.set]
    refine wt 1 24 ?_ (fun V hV => ?_) ?_
    rotate_left 1
    · (obtain ⟨q0, q1, q2, q3⟩ := SF.out V (H2.out.trans (HL0.out.trans hV)); clear hV; go_simp; (try with_reducible rfl))
    try simp only [pa, List.set]
    refine wt 2 25 ?_ (fun V hV => ?_) ?_
    rotate_left 1
    · (clear hV; go_simp; (try with_reducible rfl))
    try simp only [pa, List.set]
    refine wt 3 26 ?_ (fun V hV => ?_) ?_
    rotate_left 1
    · (obtain ⟨q0, q1, q2, q3⟩ := SF.out V (H2.out.trans (HL0.out.trans hV)); clear hV; go_simp; (try with_reducible rfl))
    try simp only [pa, List.set]
    refine wt 4 27 ?_ (fun V hV => ?_) ?_
    rotate_left 1
    · (clear hV; go_simp; (try with_reducible rfl))
    try simp only [pa, List.set]
    refine wt 5 28 ?_ (fun V hV => ?_) ?_
    rotate_left 1
    · (clear hV; go_simp; (try with_reducible rfl))
    try simp only [pa, List.set]
    refine wt 6 29 ?_ (fun V hV => ?_) ?_
    rotate_left 1
    · (clear hV; go_simp; (try with_reducible rfl))
    try simp only [pa, List.set]
    refine walk_pend ⟨7, 30, (.cells #[.string val] 9), fun r => .slice (some ⟨r, 0, none⟩) 1 1⟩ ⟨_, rfl, rfl, rfl, fun W => ?_⟩ ?_
    · (go_simp; (try with_reducible rfl))
    refine walk_force (by kernel_rfl) (by kernel_rfl) (by kernel_rfl) (by kernel_rfl) (fun r7 x7 hV hr7 hB7 => ?_)
    have lt7 : r7 < x7.heap.size := (Array.getElem?_eq_some_iff.1 hr7).1
    have HL1 := Lib.hid (HL0.out.trans hV)
    have ZF1 : Hid (∀ s, x7.heap.size ≤ s → _ ∧ s ≠ r7) := Lib.hid (fun s h => ⟨ZF0.out s (Nat.le_trans hV.size h), Nat.ne_of_gt (Nat.lt_of_lt_of_le lt7 h)⟩)
    refine ⟨Later x7, Later x7, Later.refl _, fun V' h => hV.trans h, fun _ h => h, fun V' h => ZF0.out _ (Nat.le_trans hV.size h.size), fun V' h => Nat.lt_of_lt_of_le lt7 h.size, closed_later _, ?_⟩
    try simp only [pa, List.set]
    have HT7 := Lib.hid hV
    clear hV
    refine walk_core 8 rfl (by kernel_rfl) (fun _ _ _ _ _ h => h) (fun V hV K hK => ?_)
    have hV0 := HL1.out.trans hV
    go_simp
    go_at_call 90
    have hcv := (HR.out.below (H2.out.trans hV0)).v
    have hcc := HR.out.vc
    have hvl := HV.out
    have hfk2 := HFK.out
    have hkf2 := HKF.out
    refine (cut_at (A := A2) (B := some ⟨r7, 0, none⟩) (c := c2) (d := 1) (l := vs) (s := [val]) (i := f) (k := 1) (k' := 1) (by rfl) hcv hcc (row_blk (Blk.below (show Blk x7 r7 9 #[.string val] from hr7) hV lt7)) (by exact Nat.le_refl _) (by omega) (by omega) (by simp)).mono ?_
    rintro e x8 ⟨C8, m8, l8, hl8, rfl, hC8, hm8, hb⟩
    have HL8 := Lib.hid hl8
    have HC8 := Lib.hid hC8
    have HM8 := Lib.hid hm8
    clear hl8 hC8 hm8 hcv hcc hvl hfk2 hkf2
    have HT8 := Lib.hid (hV.of hb)
    have HL2 := Lib.hid (hV0.of hb)
    have hsize := hb.size
    have hkeep := fun (r : Nat) (_ : True) (h : r < V.heap.size) => hb.block r h
    have ZF2 : Hid (∀ s, x8.heap.size ≤ s → _) := Lib.hid (fun s h => ZF1.out s (Nat.le_trans hV.size (Nat.le_trans hsize h)))
    refine hK.out _ _ (Later x8) (Later x8) _ (fun r _ h => hkeep r trivial h) (fun _ h _ => h) (fun V' h => (hV.of hb).trans h) (fun _ h => h) (fun V' h => ZF2.out _ h.size) (Later.refl _) (closed_later _) ?_
    clear hK K hV hsize hkeep hV0 hb
    try simp only [pa, List.set]
    refine wt 9 32 ?_ (fun V hV => ?_) ?_
    rotate_left 1
    · (clear hV; go_simp; (try with_reducible rfl))
    try simp only [pa, List.set]
    refine walk_exit (fun V hV => ?_)
    have hV0 := HL2.out.trans hV
    try simp only [pa, List.set]
    have kz := HKZ.out.below (H2.out.trans hV0) HKZ.out.lt
    obtain ⟨z0, z1, z2, z3⟩ := cells4 kz
    have f0 := kz.frozen 0
    have f1 := kz.frozen 1
    have f2 := kz.frozen 2
    have f3 := kz.frozen 3
    have KZ := Lib.hid kz
    have hpg : PgR V (some ⟨kb, ko, none⟩) c1 C8 m8 none 0 ⟨true, ks, l8, []⟩ :=
      ⟨(HR.out.below (H2.out.trans hV0)).k, HR.out.kc, Kd.C_below HC8.out hV, HM8.out, Kd.C_nil _ _, Nat.le_refl _⟩
    have HPG := Lib.hid hpg
    have HVV := Lib.hid (H2.out.trans hV0)
    clear kz hV hV0 hpg
    refine wpAnyJ_one (i := 10) (by kernel_rfl) rfl (fun K hK => ?_)
    simp only [List.getElem_toArray, List.getElem_cons_succ, List.getElem_cons_zero]
    go_simp
    refine hK.out _ _ (fun h _ => absurd rfl h) ?_
    clear hK K
    try simp only [pa, List.set]
    refine wpAnyJ_done (by kernel_rfl) ?_ _
    obtain ⟨W3, hW3⟩ : ∃ W3, W3 = (((V.setCell ⟨w.heap.size + 1, 0, none⟩ (.bool true)).setCell ⟨w.heap.size + 1, 1, none⟩ (.slice (some ⟨kb, ko, none⟩) ks.length c1)).setCell ⟨w.heap.size + 1, 2, none⟩ (.slice C8 l8.length m8)).setCell ⟨w.heap.size + 1, 3, none⟩ (.slice none 0 0) := ⟨_, rfl⟩
    have hk3 : Blk W3 (w.heap.size + 1) 73 #[.bool true, .slice (some ⟨kb, ko, none⟩) ks.length c1, .slice C8 l8.length m8, .slice none 0 0] := by rw [hW3]; exact set4 KZ.out
    have hp3 := HPG.out.set4 (b' := true) (E1 := some ⟨kb, ko, none⟩) (m1 := ks.length) (e1 := c1) (E2 := C8) (m2 := l8.length) (e2 := m8) (E3 := none) (m3 := 0) (e3 := 0) KZ.out
    have hb3 : Below w.heap.size w W3 := by
      rw [hW3]
      exact ((((HB1.out.trans ((show Below _ _ _ from HVV.out).mono HB1.out.size)).setCell (p := ⟨w.heap.size + 1, 0, none⟩) (by simp) _).setCell (p := ⟨w.heap.size + 1, 1, none⟩) (by simp) _).setCell (p := ⟨w.heap.size + 1, 2, none⟩) (by simp) _).setCell (p := ⟨w.heap.size + 1, 3, none⟩) (by simp) _
    rw [← hW3] at hp3
    rw [← hW3]
    have HP3 := Lib.hid hp3
    have HK3 := Lib.hid hk3
    have HB3 := Lib.hid hb3
    clear hW3 hk3 hp3 hb3 z0 z1 z2 z3 f0 f1 f2 f3
    go_wp2_with fail
    have e9 := HEQ.out
    rw [← HL8.out] at e9
    rw [e9]
    exact bodyPost_ret_by (results_c1 rfl _ _ (w.heap.size + 1) 73 _ (0, 0) _ rfl HK3.out Try.underlying73 rfl (by kernel_rfl)) rfl ⟨HB3.out, some ⟨kb, ko, none⟩, c1, C8, m8, none, 0, rfl, HP3.out⟩
  | false =>
    obtain ⟨f, hf⟩ : ∃ f, f = findN ks key := ⟨_, rfl⟩
    have HTT := Lib.hid ht
    have HFE := Lib.hid hf
    rw [if_neg (by simp), Nat.add_zero, ← hf]
    rw [← hf] at hnb hfl
    clear hf
    have HFL := Lib.hid hfl
    go_upto_region 2 with fail
    go_cut [22] (fun cv wx => cv = .bool false ∧ Hid (Later W1 wx))
    case first =>
      have HFL2 := HFL.out
      by_cases h0 : f = 0
      · subst h0
        have g1 : decide ((0 : Int) < ((0 : Nat) : Int)) = false := by decide
        go_wp2_with fail
        go_meet
        exact ⟨rfl, H2⟩
      · obtain ⟨kb, ko, rfl, hkc⟩ := strs_all HR.out.k (show 0 < ks.length by omega)
        have hkc0 := hkc (f - 1) (show f - 1 < ks.length by omega) w2 H2.out
        dsimp only at hkc0
        have hne := hnb (by omega)
        obtain ⟨f', rfl⟩ : ∃ f', f = f' + 1 := ⟨f - 1, by omega⟩
        rw [show f' + 1 - 1 = f' by omega] at hkc0 hne
        generalize ks.getD f' ByteArray.empty = kx at hkc0 hne
        have g1 : decide ((0 : Int) < (f' : Int) + 1) = true := decide_eq_true (by omega)
        have hkf := HKF.out
        have e1 : ((f' + 1 : Nat) : Int) = (f' : Int) + 1 := by omega
        have e2 : IntKind.i64.wrap ((f' : Int) + 1 - 1) = (f' : Int) := by rw [show (f' : Int) + 1 - 1 = (f' : Int) by omega]; exact IntWalk.i64_in _ (by omega)
        have e3 : (f' : Int) + 1 - 1 = (f' : Int) := by omega
        have e4 : IntKind.i64.wrap (f' : Int) = (f' : Int) := IntWalk.i64_in _ (by omega)
        have i1 : (f' : Int) < (ks.length : Int) := by omega
        have i0 : (0 : Int) ≤ (f' : Int) := by omega
        clear hnb hfl h0 hkc HFL2 hkf HFL
        go_wp2_with fail
        go_meet
        exact ⟨rfl, H2⟩
    clear q0 q1 q2 q3 hnb hfl H2
    obtain ⟨rfl, H2⟩ := hcut
    obtain ⟨w2, rfl⟩ : ∃ w2 : World, w2 = wc := ⟨_, rfl⟩
    go_upto_region 4 with fail
    have HEQ : Hid (putP ⟨true, ks, vs, []⟩ key val = ⟨true, ks.take f ++ [key] ++ ks.drop (f + 0), vs.take f ++ [val] ++ vs.drop (f + 0), []⟩) := Lib.hid (by
      unfold putP
      simp only [if_true, HTT.out, Bool.false_eq_true, if_false]
      rw [← HFE.out]
      rfl)
    have HL0 := Lib.hid (Later.refl w2)
    have ZF0 : Hid (∀ s, w2.heap.size ≤ s → w2.heap.size ≤ s) := Lib.hid (fun _ h => h)
    have ZS0 : Hid (∀ V, Later w2 V → (Later w2) V) := Lib.hid (fun _ h => h)
    refine walk_start 13 (S := Later w2) (T := Later w2) (by kernel_rfl) (fun r => w2.heap.size ≤ r) (fun _ h => h.size) ZS0.out (closed_later _) (Later.refl _).drew ?_
    refine wt 0 33 ?_ (fun V hV => ?_) ?_
    rotate_left 1
    · (clear hV; go_simp; (try with_reducible rfl))
    try simp only [pa, List.set]
    refine wt 1 34 ?_ (fun V hV => ?_) ?_
    rotate_left 1
    · (obtain ⟨q0, q1, q2, q3⟩ := SF.out V (H2.out.trans (HL0.out.trans hV)); clear hV; go_simp; (try with_reducible rfl))
    try simp only [pa, List.set]
    refine wt 2 35 ?_ (fun V hV => ?_) ?_
    rotate_left 1
    · (clear hV; go_simp; (try with_reducible rfl))
    try simp only [pa, List.set]
    refine wt 3 36 ?_ (fun V hV => ?_) ?_
    rotate_left 1
    · (clear hV; go_simp; (try with_reducible rfl))
    try simp only [pa, List.set]
    refine wt 6 39 ?_ (fun V hV => ?_) ?_
    rotate_left 1
    · (clear hV; go_simp; (try with_reducible rfl))
    try simp only [pa, List.set]
    refine wt 7 40 ?_ (fun V hV => ?_) ?_
    rotate_left 1
    · (obtain ⟨q0, q1, q2, q3⟩ := SF.out V (H2.out.trans (HL0.out.trans hV)); clear hV; go_simp; (try with_reducible rfl))
    try simp only [pa, List.set]
    refine wt 8 41 ?_ (fun V hV => ?_) ?_
    rotate_left 1
    · (clear hV; go_simp; (try with_reducible rfl))
    try simp only [pa, List.set]
    refine wt 9 42 ?_ (fun V hV => ?_) ?_
    rotate_left 1
    · (clear hV; go_simp; (try with_reducible rfl))
    try simp only [pa, List.set]
    refine walk_pend ⟨10, 43, (.cells #[.string val] 9), fun r => .slice (some ⟨r, 0, none⟩) 1 1⟩ ⟨_, rfl, rfl, rfl, fun W => ?_⟩ ?_
    · (go_simp; (try with_reducible rfl))
    refine walk_pend ⟨4, 37, (.cells #[.string key] 9), fun r => .slice (some ⟨r, 0, none⟩) 1 1⟩ ⟨_, rfl, rfl, rfl, fun W => ?_⟩ ?_
    · (go_simp; (try with_reducible rfl))
    refine walk_force (by kernel_rfl) (by kernel_rfl) (by kernel_rfl) (by kernel_rfl) (fun r4 x4 hV hr4 hB4 => ?_)
    have lt4 : r4 < x4.heap.size := (Array.getElem?_eq_some_iff.1 hr4).1
    have HL1 := Lib.hid (HL0.out.trans hV)
    have ZF1 : Hid (∀ s, x4.heap.size ≤ s → _ ∧ s ≠ r4) := Lib.hid (fun s h => ⟨ZF0.out s (Nat.le_trans hV.size h), Nat.ne_of_gt (Nat.lt_of_lt_of_le lt4 h)⟩)
    refine ⟨Later x4, Later x4, Later.refl _, fun V' h => hV.trans h, fun _ h => h, fun V' h => ZF0.out _ (Nat.le_trans hV.size h.size), fun V' h => Nat.lt_of_lt_of_le lt4 h.size, closed_later _, ?_⟩
    try simp only [pa, List.set]
    have HT4 := Lib.hid hV
    clear hV
    refine walk_core 5 rfl (by kernel_rfl) (fun _ _ _ _ _ h => h) (fun V hV K hK => ?_)
    have hV0 := HL1.out.trans hV
    go_simp
    go_at_call 90
    have hcv := (HR.out.below (H2.out.trans hV0)).k
    have hcc := HR.out.kc
    have hvl := HV.out
    have hfk2 := HFL.out
    have hkf2 := HKF.out
    refine (cut_at (A := A1) (B := some ⟨r4, 0, none⟩) (c := c1) (d := 1) (l := ks) (s := [key]) (i := f) (k := 0) (k' := 0) (by rfl) hcv hcc (row_blk (Blk.below (show Blk x4 r4 9 #[.string key] from hr4) hV lt4)) (by exact Nat.le_refl _) (by omega) (by omega) (by simp)).mono ?_
    rintro e x5 ⟨C5, m5, l5, hl5, rfl, hC5, hm5, hb⟩
    have HL5 := Lib.hid hl5
    have HC5 := Lib.hid hC5
    have HM5 := Lib.hid hm5
    clear hl5 hC5 hm5 hcv hcc hvl hfk2 hkf2
    have HT5 := Lib.hid (hV.of hb)
    have HL2 := Lib.hid (hV0.of hb)
    have hsize := hb.size
    have hkeep := fun (r : Nat) (_ : True) (h : r < V.heap.size) => hb.block r h
    have ZF2 : Hid (∀ s, x5.heap.size ≤ s → _) := Lib.hid (fun s h => ZF1.out s (Nat.le_trans hV.size (Nat.le_trans hsize h)))
    refine hK.out _ _ (Later x5) (Later x5) _ (fun r _ h => hkeep r trivial h) (fun _ h _ => h) (fun V' h => (hV.of hb).trans h) (fun _ h => h) (fun V' h => ZF2.out _ h.size) (Later.refl _) (closed_later _) ?_
    clear hK K hV hsize hkeep hV0 hb
    try simp only [pa, List.set]
    refine walk_force (by kernel_rfl) (by kernel_rfl) (by kernel_rfl) (by kernel_rfl) (fun r10 x10 hV hr10 hB10 => ?_)
    have lt10 : r10 < x10.heap.size := (Array.getElem?_eq_some_iff.1 hr10).1
    have HL3 := Lib.hid (HL2.out.trans hV)
    have ZF3 : Hid (∀ s, x10.heap.size ≤ s → _ ∧ s ≠ r10) := Lib.hid (fun s h => ⟨ZF2.out s (Nat.le_trans hV.size h), Nat.ne_of_gt (Nat.lt_of_lt_of_le lt10 h)⟩)
    refine ⟨Later x10, Later x10, Later.refl _, fun V' h => hV.trans h, fun _ h => h, fun V' h => ZF2.out _ (Nat.le_trans hV.size h.size), fun V' h => Nat.lt_of_lt_of_le lt10 h.size, closed_later _, ?_⟩
    try simp only [pa, List.set]
    have HT10 := Lib.hid hV
    clear hV
    refine walk_core 11 rfl (by kernel_rfl) (fun _ _ _ _ _ h => h) (fun V hV K hK => ?_)
    have hV0 := HL3.out.trans hV
    go_simp
    go_at_call 90
    have hcv := (HR.out.below (H2.out.trans hV0)).v
    have hcc := HR.out.vc
    have hvl := HV.out
    have hfk2 := HFL.out
    have hkf2 := HKF.out
    refine (cut_at (A := A2) (B := some ⟨r10, 0, none⟩) (c := c2) (d := 1) (l := vs) (s := [val]) (i := f) (k := 0) (k' := 0) (by rfl) hcv hcc (row_blk (Blk.below (show Blk x10 r10 9 #[.string val] from hr10) hV lt10)) (by exact Nat.le_refl _) (by omega) (by omega) (by simp)).mono ?_
    rintro e x11 ⟨C11, m11, l11, hl11, rfl, hC11, hm11, hb⟩
    have HL11 := Lib.hid hl11
    have HC11 := Lib.hid hC11
    have HM11 := Lib.hid hm11
    clear hl11 hC11 hm11 hcv hcc hvl hfk2 hkf2
    have HT11 := Lib.hid (hV.of hb)
    have HL4 := Lib.hid (hV0.of hb)
    have hsize := hb.size
    have hkeep := fun (r : Nat) (_ : True) (h : r < V.heap.size) => hb.block r h
    have ZF4 : Hid (∀ s, x11.heap.size ≤ s → _) := Lib.hid (fun s h => ZF3.out s (Nat.le_trans hV.size (Nat.le_trans hsize h)))
    refine hK.out _ _ (Later x11) (Later x11) _ (fun r _ h => hkeep r trivial h) (fun _ h _ => h) (fun V' h => (hV.of hb).trans h) (fun _ h => h) (fun V' h => ZF4.out _ h.size) (Later.refl _) (closed_later _) ?_
    clear hK K hV hsize hkeep hV0 hb
    try simp only [pa, List.set]
    refine wt 12 45 ?_ (fun V hV => ?_) ?_
    rotate_left 1
    · (clear hV; go_simp; (try with_reducible rfl))
    try simp only [pa, List.set]
    refine walk_exit (fun V hV => ?_)
    have hV0 := HL4.out.trans hV
    try simp only [pa, List.set]
    have kz := HKZ.out.below (H2.out.trans hV0) HKZ.out.lt
    obtain ⟨z0, z1, z2, z3⟩ := cells4 kz
    have f0 := kz.frozen 0
    have f1 := kz.frozen 1
    have f2 := kz.frozen 2
    have f3 := kz.frozen 3
    have KZ := Lib.hid kz
    have hpg : PgR V C5 m5 C11 m11 none 0 ⟨true, l5, l11, []⟩ :=
      ⟨Kd.C_below HC5.out (HT10.out.trans (HT11.out.trans hV)), HM5.out, Kd.C_below HC11.out hV, HM11.out, Kd.C_nil _ _, Nat.le_refl _⟩
    have HPG := Lib.hid hpg
    have HVV := Lib.hid (H2.out.trans hV0)
    clear kz hV hV0 hpg
    refine wpAnyJ_one (i := 13) (by kernel_rfl) rfl (fun K hK => ?_)
    simp only [List.getElem_toArray, List.getElem_cons_succ, List.getElem_cons_zero]
    go_simp
    refine hK.out _ _ (fun h _ => absurd rfl h) ?_
    clear hK K
    try simp only [pa, List.set]
    refine wpAnyJ_done (by kernel_rfl) ?_ _
    obtain ⟨W3, hW3⟩ : ∃ W3, W3 = (((V.setCell ⟨w.heap.size + 1, 0, none⟩ (.bool true)).setCell ⟨w.heap.size + 1, 1, none⟩ (.slice C5 l5.length m5)).setCell ⟨w.heap.size + 1, 2, none⟩ (.slice C11 l11.length m11)).setCell ⟨w.heap.size + 1, 3, none⟩ (.slice none 0 0) := ⟨_, rfl⟩
    have hk3 : Blk W3 (w.heap.size + 1) 73 #[.bool true, .slice C5 l5.length m5, .slice C11 l11.length m11, .slice none 0 0] := by rw [hW3]; exact set4 KZ.out
    have hp3 := HPG.out.set4 (b' := true) (E1 := C5) (m1 := l5.length) (e1 := m5) (E2 := C11) (m2 := l11.length) (e2 := m11) (E3 := none) (m3 := 0) (e3 := 0) KZ.out
    have hb3 : Below w.heap.size w W3 := by
      rw [hW3]
      exact ((((HB1.out.trans ((show Below _ _ _ from HVV.out).mono HB1.out.size)).setCell (p := ⟨w.heap.size + 1, 0, none⟩) (by simp) _).setCell (p := ⟨w.heap.size + 1, 1, none⟩) (by simp) _).setCell (p := ⟨w.heap.size + 1, 2, none⟩) (by simp) _).setCell (p := ⟨w.heap.size + 1, 3, none⟩) (by simp) _
    rw [← hW3] at hp3
    rw [← hW3]
    have HP3 := Lib.hid hp3
    have HK3 := Lib.hid hk3
    have HB3 := Lib.hid hb3
    clear hW3 hk3 hp3 hb3 z0 z1 z2 z3 f0 f1 f2 f3
    go_wp2_with fail
    have e9 := HEQ.out
    rw [← HL5.out, ← HL11.out] at e9
    rw [e9]
    exact bodyPost_ret_by (results_c1 rfl _ _ (w.heap.size + 1) 73 _ (0, 0) _ rfl HK3.out Try.underlying73 rfl (by kernel_rfl)) rfl ⟨HB3.out, C5, m5, C11, m11, none, 0, rfl, HP3.out⟩


set_option maxRecDepth 100000 in
set_option maxHeartbeats 8000000 in
theorem rdrop_any (key : ByteArray) (h : PgR w A1 c1 A2 c2 A3 c3 ⟨true, ks, vs, []⟩) (hf : Few ⟨true, ks, vs, []⟩) (hr : Rise ks) (hv : vs.length = ks.length) :
    Calls Try.prog 53 #[.agg #[.bool true, .slice A1 ks.length c1, .slice A2 vs.length c2, .slice A3 0 c3], .string key] w fun e w' => Below w.heap.size w w' ∧ ∃ B1 d1 B2 d2 B3 d3, e = .returned (pgv B1 d1 B2 d2 B3 d3 (dropP ⟨true, ks, vs, []⟩ key)) ∧ PgR w' B1 d1 B2 d2 B3 d3 (dropP ⟨true, ks, vs, []⟩ key) := by
  obtain ⟨W1, hW1⟩ : ∃ W1, W1 = (w.alloc (.cells #[.bool true, .slice A1 ks.length c1, .slice A2 vs.length c2, .slice A3 0 c3] 73)).alloc (.cells #[.bool false, .slice none 0 0, .slice none 0 0, .slice none 0 0] 73) := ⟨_, rfl⟩
  have hb1 : Below w.heap.size w W1 := by rw [hW1]; exact ((Below.refl _ _).alloc (Nat.le_refl _) _).alloc (by simp) _
  have kp : Blk W1 w.heap.size 73 #[.bool true, .slice A1 ks.length c1, .slice A2 vs.length c2, .slice A3 0 c3] := by rw [hW1]; exact (Blk.new _ _ _).alloc _
  have kz : Blk W1 (w.heap.size + 1) 73 #[.bool false, .slice none 0 0, .slice none 0 0, .slice none 0 0] := by
    have := Blk.new (w.alloc (.cells #[.bool true, .slice A1 ks.length c1, .slice A2 vs.length c2, .slice A3 0 c3] 73)) 73 #[.bool false, .slice none 0 0, .slice none 0 0, .slice none 0 0]
    rw [← hW1] at this
    simpa using this
  have hr1 := h.below hb1
  have SF : Hid (∀ V, Later W1 V → V.cell? ⟨w.heap.size, 0, none⟩ = some (.bool true) ∧ V.cell? ⟨w.heap.size, 1, none⟩ = some (.slice A1 ks.length c1) ∧ V.cell? ⟨w.heap.size, 2, none⟩ = some (.slice A2 vs.length c2) ∧ V.cell? ⟨w.heap.size, 3, none⟩ = some (.slice A3 0 c3)) := Lib.hid fun V hV => cells4 (kp.below hV kp.lt)
  have CPL := place_any key hr1 hf
  unfold pgv at CPL
  dsimp only [List.length_nil] at CPL
  rw [place_find hr key] at CPL
  have CPL := Lib.hid CPL
  have HR := Lib.hid hr1
  have HKZ := Lib.hid kz
  have HB1 := Lib.hid hb1
  have HW1 := Lib.hid hW1
  have HV := Lib.hid hv
  have hkf : ks.length < 1000000 := hf.k
  have HKF := Lib.hid hkf
  have hfl := findN_le ks key
  obtain ⟨q0, q1, q2, q3⟩ := SF.out W1 (Later.refl _)
  clear h hr1 kp kz hb1 hW1 hv hf
  go_enter Try.func53, Try.ntmps53
  go_wp2_with fail
  rw [← HW1.out]
  refine CPL.out.mono ?_
  rintro e w2 ⟨rfl, hb2⟩
  obtain ⟨q0, q1, q2, q3⟩ := SF.out w2 hb2
  have H2 : Hid (Later W1 w2) := Lib.hid hb2
  clear hb2 CPL HW1
  have hnb : 0 < findN ks key → ((ks.getD (findN ks key - 1) ByteArray.empty).toList == key.toList) = false := fun h => before_ne h
  cases ht : thereB ks key with
  | true =>
    obtain ⟨hfk, hke⟩ := findN_lt_there ht
    obtain ⟨kb, ko, rfl, hkc⟩ := strs_all HR.out.k (show 0 < ks.length by omega)
    have hkc0 := hkc (findN ks key) hfk w2 H2.out
    have HTT := Lib.hid ht
    rw [hke] at hkc0
    obtain ⟨f, hf⟩ : ∃ f, f = findN ks key := ⟨_, rfl⟩
    have HFE := Lib.hid hf
    rw [← hf] at hfk hkc0
    rw [if_pos (by rfl), ← hf]
    have HFK := Lib.hid hfk
    have g1 : decide ((0 : Int) < (f : Int) + 1) = true := decide_eq_true (by omega)
    have g2 : decide ((0 : Int) < ((f + 1 : Nat) : Int)) = true := decide_eq_true (by omega)
    have e1 : ((f + 1 : Nat) : Int) = (f : Int) + 1 := by omega
    have e2 : IntKind.i64.wrap ((f : Int) + 1 - 1) = (f : Int) := by rw [show (f : Int) + 1 - 1 = (f : Int) by omega]; exact IntWalk.i64_in _ (by omega)
    have e3 : (f : Int) + 1 - 1 = (f : Int) := by omega
    have e4 : IntKind.i64.wrap (f : Int) = (f : Int) := IntWalk.i64_in _ (by omega)
    have i1 : (f : Int) < (ks.length : Int) := by omega
    have i0 : (0 : Int) ≤ (f : Int) := by omega
    have hrg : 0 < f + 1 := by omega
    clear hnb hf hfl hke hkc
    have HEQ : Hid (dropP ⟨true, ks, vs, []⟩ key = ⟨true, ks.take f ++ [] ++ ks.drop (f + 1), vs.take f ++ [] ++ vs.drop (f + 1), []⟩) := Lib.hid (by
      unfold dropP
      simp only [Bool.true_and, if_true, HTT.out, List.append_nil]
      rw [← HFE.out])
    go_upto_region 3 with fail
    clear q0 q1 q2 q3
    have HL0 := Lib.hid (Later.refl w2)
    have ZF0 : Hid (∀ s, w2.heap.size ≤ s → w2.heap.size ≤ s) := Lib.hid (fun _ h => h)
    have ZS0 : Hid (∀ V, Later w2 V → (Later w2) V) := Lib.hid (fun _ h => h)
    refine walk_start 11 (S := Later w2) (T := Later w2) (by kernel_rfl) (fun r => w2.heap.size ≤ r) (fun _ h => h.size) ZS0.out (closed_later _) (Later.refl _).drew ?_
    refine wt 0 21 ?_ (fun V hV => ?_) ?_
    rotate_left 1
    · (clear hV; go_simp; (try with_reducible rfl))
    try simp only [pa, List.set]
    refine wt 1 22 ?_ (fun V hV => ?_) ?_
    rotate_left 1
    · (obtain ⟨q0, q1, q2, q3⟩ := SF.out V (H2.out.trans (HL0.out.trans hV)); clear hV; go_simp; (try with_reducible rfl))
    try simp only [pa, List.set]
    refine wt 2 23 ?_ (fun V hV => ?_) ?_
    rotate_left 1
    · (clear hV; go_simp; (try with_reducible rfl))
    try simp only [pa, List.set]
    refine wt 3 24 ?_ (fun V hV => ?_) ?_
    rotate_left 1
    · (clear hV; go_simp; (try with_reducible rfl))
    try simp only [pa, List.set]
    refine wt 5 26 ?_ (fun V hV => ?_) ?_
    rotate_left 1
    · (clear hV; go_simp; (try with_reducible rfl))
    try simp only [pa, List.set]
    refine wt 6 27 ?_ (fun V hV => ?_) ?_
    rotate_left 1
    · (obtain ⟨q0, q1, q2, q3⟩ := SF.out V (H2.out.trans (HL0.out.trans hV)); clear hV; go_simp; (try with_reducible rfl))
    try simp only [pa, List.set]
    refine wt 7 28 ?_ (fun V hV => ?_) ?_
    rotate_left 1
    · (clear hV; go_simp; (try with_reducible rfl))
    try simp only [pa, List.set]
    refine wt 8 29 ?_ (fun V hV => ?_) ?_
    rotate_left 1
    · (clear hV; go_simp; (try with_reducible rfl))
    try simp only [pa, List.set]
    refine walk_core 4 rfl (by kernel_rfl) (fun _ _ _ _ _ h => h) (fun V hV K hK => ?_)
    have hV0 := HL0.out.trans hV
    go_simp
    go_at_call 90
    have hcv := (HR.out.below (H2.out.trans hV0)).k
    have hcc := HR.out.kc
    have hvl := HV.out
    have hfk2 := HFK.out
    have hkf2 := HKF.out
    refine (cut_at (A := some ⟨kb, ko, none⟩) (B := none) (c := c1) (d := 0) (l := ks) (s := []) (i := f) (k := 1) (k' := 1) (by rfl) hcv hcc (Kd.C_nil _ _) (by exact Nat.le_refl _) (by omega) (by omega) (by simp)).mono ?_
    rintro e x4 ⟨C4, m4, l4, hl4, rfl, hC4, hm4, hb⟩
    have HL4 := Lib.hid hl4
    have HC4 := Lib.hid hC4
    have HM4 := Lib.hid hm4
    clear hl4 hC4 hm4 hcv hcc hvl hfk2 hkf2
    have HT4 := Lib.hid (hV.of hb)
    have HL1 := Lib.hid (hV0.of hb)
    have hsize := hb.size
    have hkeep := fun (r : Nat) (_ : True) (h : r < V.heap.size) => hb.block r h
    have ZF1 : Hid (∀ s, x4.heap.size ≤ s → _) := Lib.hid (fun s h => ZF0.out s (Nat.le_trans hV.size (Nat.le_trans hsize h)))
    refine hK.out _ _ (Later x4) (Later x4) _ (fun r _ h => hkeep r trivial h) (fun _ h _ => h) (fun V' h => (hV.of hb).trans h) (fun _ h => h) (fun V' h => ZF1.out _ h.size) (Later.refl _) (closed_later _) ?_
    clear hK K hV hsize hkeep hV0 hb
    try simp only [pa, List.set]
    refine walk_core 9 rfl (by kernel_rfl) (fun _ _ _ _ _ h => h) (fun V hV K hK => ?_)
    have hV0 := HL1.out.trans hV
    go_simp
    go_at_call 90
    have hcv := (HR.out.below (H2.out.trans hV0)).v
    have hcc := HR.out.vc
    have hvl := HV.out
    have hfk2 := HFK.out
    have hkf2 := HKF.out
    refine (cut_at (A := A2) (B := none) (c := c2) (d := 0) (l := vs) (s := []) (i := f) (k := 1) (k' := 1) (by rfl) hcv hcc (Kd.C_nil _ _) (by exact Nat.le_refl _) (by omega) (by omega) (by simp)).mono ?_
    rintro e x9 ⟨C9, m9, l9, hl9, rfl, hC9, hm9, hb⟩
    have HL9 := Lib.hid hl9
    have HC9 := Lib.hid hC9
    have HM9 := Lib.hid hm9
    clear hl9 hC9 hm9 hcv hcc hvl hfk2 hkf2
    have HT9 := Lib.hid (hV.of hb)
    have HL2 := Lib.hid (hV0.of hb)
    have hsize := hb.size
    have hkeep := fun (r : Nat) (_ : True) (h : r < V.heap.size) => hb.block r h
    have ZF2 : Hid (∀ s, x9.heap.size ≤ s → _) := Lib.hid (fun s h => ZF1.out s (Nat.le_trans hV.size (Nat.le_trans hsize h)))
    refine hK.out _ _ (Later x9) (Later x9) _ (fun r _ h => hkeep r trivial h) (fun _ h _ => h) (fun V' h => (hV.of hb).trans h) (fun _ h => h) (fun V' h => ZF2.out _ h.size) (Later.refl _) (closed_later _) ?_
    clear hK K hV hsize hkeep hV0 hb
    try simp only [pa, List.set]
    refine wt 10 31 ?_ (fun V hV => ?_) ?_
    rotate_left 1
    · (clear hV; go_simp; (try with_reducible rfl))
    try simp only [pa, List.set]
    refine walk_exit (fun V hV => ?_)
    have hV0 := HL2.out.trans hV
    try simp only [pa, List.set]
    have kz := HKZ.out.below (H2.out.trans hV0) HKZ.out.lt
    obtain ⟨z0, z1, z2, z3⟩ := cells4 kz
    have f0 := kz.frozen 0
    have f1 := kz.frozen 1
    have f2 := kz.frozen 2
    have f3 := kz.frozen 3
    have KZ := Lib.hid kz
    have hpg : PgR V C4 m4 C9 m9 none 0 ⟨true, l4, l9, []⟩ :=
      ⟨Kd.C_below HC4.out (HT9.out.trans hV), HM4.out, Kd.C_below HC9.out hV, HM9.out, Kd.C_nil _ _, Nat.le_refl _⟩
    have HPG := Lib.hid hpg
    have HVV := Lib.hid (H2.out.trans hV0)
    clear kz hV hV0 hpg
    refine wpAnyJ_one (i := 11) (by kernel_rfl) rfl (fun K hK => ?_)
    simp only [List.getElem_toArray, List.getElem_cons_succ, List.getElem_cons_zero]
    go_simp
    refine hK.out _ _ (fun h _ => absurd rfl h) ?_
    clear hK K
    try simp only [pa, List.set]
    refine wpAnyJ_done (by kernel_rfl) ?_ _
    obtain ⟨W3, hW3⟩ : ∃ W3, W3 = (((V.setCell ⟨w.heap.size + 1, 0, none⟩ (.bool true)).setCell ⟨w.heap.size + 1, 1, none⟩ (.slice C4 l4.length m4)).setCell ⟨w.heap.size + 1, 2, none⟩ (.slice C9 l9.length m9)).setCell ⟨w.heap.size + 1, 3, none⟩ (.slice none 0 0) := ⟨_, rfl⟩
    have hk3 : Blk W3 (w.heap.size + 1) 73 #[.bool true, .slice C4 l4.length m4, .slice C9 l9.length m9, .slice none 0 0] := by rw [hW3]; exact set4 KZ.out
    have hp3 := HPG.out.set4 (b' := true) (E1 := C4) (m1 := l4.length) (e1 := m4) (E2 := C9) (m2 := l9.length) (e2 := m9) (E3 := none) (m3 := 0) (e3 := 0) KZ.out
    have hb3 : Below w.heap.size w W3 := by
      rw [hW3]
      exact ((((HB1.out.trans ((show Below _ _ _ from HVV.out).mono HB1.out.size)).setCell (p := ⟨w.heap.size + 1, 0, none⟩) (by simp) _).setCell (p := ⟨w.heap.size + 1, 1, none⟩) (by simp) _).setCell (p := ⟨w.heap.size + 1, 2, none⟩) (by simp) _).setCell (p := ⟨w.heap.size + 1, 3, none⟩) (by simp) _
    rw [← hW3] at hp3
    rw [← hW3]
    have HP3 := Lib.hid hp3
    have HK3 := Lib.hid hk3
    have HB3 := Lib.hid hb3
    clear hW3 hk3 hp3 hb3 z0 z1 z2 z3 f0 f1 f2 f3
    go_wp2_with fail
    have e9 := HEQ.out
    rw [← HL4.out, ← HL9.out] at e9
    rw [e9]
    exact bodyPost_ret_by (results_c1 rfl _ _ (w.heap.size + 1) 73 _ (0, 0) _ rfl HK3.out Try.underlying73 rfl (by kernel_rfl)) rfl ⟨HB3.out, C4, m4, C9, m9, none, 0, rfl, HP3.out⟩
  | false =>
    obtain ⟨f, hf⟩ : ∃ f, f = findN ks key := ⟨_, rfl⟩
    have HTT := Lib.hid ht
    have HFE := Lib.hid hf
    rw [if_neg (by simp), Nat.add_zero, ← hf]
    rw [← hf] at hnb hfl
    clear hf
    have HFL := Lib.hid hfl
    go_upto_region 2 with fail
    go_cut [20] (fun cv wx => cv = .bool false ∧ Hid (Later W1 wx))
    case first =>
      have HFL2 := HFL.out
      by_cases h0 : f = 0
      · subst h0
        have g1 : decide ((0 : Int) < ((0 : Nat) : Int)) = false := by decide
        go_wp2_with fail
        go_meet
        exact ⟨rfl, H2⟩
      · obtain ⟨kb, ko, rfl, hkc⟩ := strs_all HR.out.k (show 0 < ks.length by omega)
        have hkc0 := hkc (f - 1) (show f - 1 < ks.length by omega) w2 H2.out
        dsimp only at hkc0
        have hne := hnb (by omega)
        obtain ⟨f', rfl⟩ : ∃ f', f = f' + 1 := ⟨f - 1, by omega⟩
        rw [show f' + 1 - 1 = f' by omega] at hkc0 hne
        generalize ks.getD f' ByteArray.empty = kx at hkc0 hne
        have g1 : decide ((0 : Int) < (f' : Int) + 1) = true := decide_eq_true (by omega)
        have hkf := HKF.out
        have e1 : ((f' + 1 : Nat) : Int) = (f' : Int) + 1 := by omega
        have e2 : IntKind.i64.wrap ((f' : Int) + 1 - 1) = (f' : Int) := by rw [show (f' : Int) + 1 - 1 = (f' : Int) by omega]; exact IntWalk.i64_in _ (by omega)
        have e3 : (f' : Int) + 1 - 1 = (f' : Int) := by omega
        have e4 : IntKind.i64.wrap (f' : Int) = (f' : Int) := IntWalk.i64_in _ (by omega)
        have i1 : (f' : Int) < (ks.length : Int) := by omega
        have i0 : (0 : Int) ≤ (f' : Int) := by omega
        clear hnb hfl h0 hkc HFL2 hkf HFL
        go_wp2_with fail
        go_meet
        exact ⟨rfl, H2⟩
    clear q0 q1 q2 q3 hnb hfl H2
    obtain ⟨rfl, H2⟩ := hcut
    obtain ⟨w2, rfl⟩ : ∃ w2 : World, w2 = wc := ⟨_, rfl⟩
    go_upto_region 4 with fail
    have HEQ : Hid (dropP ⟨true, ks, vs, []⟩ key = ⟨true, ks, vs, []⟩) := Lib.hid (by
      unfold dropP
      simp [HTT.out])
    have kz := HKZ.out.below H2.out HKZ.out.lt
    obtain ⟨q0, q1, q2, q3⟩ := SF.out w2 H2.out
    obtain ⟨z0, z1, z2, z3⟩ := cells4 kz
    have f0 := kz.frozen 0
    have f1 := kz.frozen 1
    have f2 := kz.frozen 2
    have f3 := kz.frozen 3
    have KZ := Lib.hid kz
    have HPG := Lib.hid (HR.out.below H2.out)
    clear kz
    go_wp2_with fail
    have e9 := HEQ.out
    rw [e9]
    refine bodyPost_ret_by (results_c1 rfl _ _ (w.heap.size + 1) 73 _ (0, 0) _ rfl (set4 KZ.out) Try.underlying73 rfl (by kernel_rfl)) rfl ⟨?_, A1, c1, A2, c2, A3, c3, rfl, HPG.out.set4 KZ.out⟩
    exact ((((HB1.out.trans ((show Below _ _ _ from H2.out).mono HB1.out.size)).setCell (p := ⟨w.heap.size + 1, 0, none⟩) (by simp) _).setCell (p := ⟨w.heap.size + 1, 1, none⟩) (by simp) _).setCell (p := ⟨w.heap.size + 1, 2, none⟩) (by simp) _).setCell (p := ⟨w.heap.size + 1, 3, none⟩) (by simp) _
end
end Go.Proofs.Ytlbikfamjogpnaa
end

/- PageKeys. Conditions: the page reads in memory. -/
section
namespace Go.Proofs.Ytlbikfamjogpnaa
open Go.RowKit Go.Proofs.YtlbikfamjogpnaaW.PrintWords Go.Proofs.Ytlbikfamjogpnaa.QPage
set_option linter.unusedVariables false
set_option linter.unusedSimpArgs false

theorem few_split {p : Pg} (h : Small p) : Few (splitP p).1 ∧ Few (splitP p).2.2 := by
  have f0 : Few ⟨false, [], [], []⟩ := ⟨by decide, by decide, by decide⟩
  have a1 := h.1
  have a3 := h.2.2.1
  unfold splitP
  split
  · split
    · exact ⟨(small_part h _ _).few, (small_part h _ _).few⟩
    · exact ⟨h.few, f0⟩
  · split
    · refine ⟨⟨?_, ?_, ?_⟩, ⟨?_, ?_, ?_⟩⟩ <;> simp only [brA, brB, List.length_take, List.length_drop, List.length_nil] <;> omega
    · exact ⟨h.few, f0⟩
theorem few_put {p : Pg} (h : Small p) (key val : ByteArray) : Few (putP p key val) := by
  have a1 := h.1
  have a2 := h.2.1
  have a3 := h.2.2.1
  unfold putP
  split
  · split
    · exact ⟨by show p.kids.length < _; omega, by show p.keys.length < _; omega, by show (p.vals.set _ _).length < _; rw [List.length_set]; omega⟩
    · refine ⟨?_, ?_, ?_⟩ <;> simp only [List.length_append, List.length_take, List.length_drop, List.length_cons, List.length_nil] <;> omega
  · exact h.few
theorem few_drop {p : Pg} (h : Small p) (key : ByteArray) : Few (dropP p key) := by
  have a1 := h.1
  have a2 := h.2.1
  have a3 := h.2.2.1
  unfold dropP
  split
  · refine ⟨?_, ?_, ?_⟩ <;> simp only [List.length_append, List.length_take, List.length_drop] <;> omega
  · exact h.few
theorem place_step (ks : List ByteArray) (key : ByteArray) {i : Nat} (h : i < ks.length) : placeN (ks.drop i) key = if lessB key (ks.getD i ByteArray.empty) then 0 else placeN (ks.drop (i + 1)) key + 1 := by
  rw [List.drop_eq_getElem_cons h, List.getD_eq_getElem?_getD, List.getElem?_eq_getElem h]
  unfold placeN
  rw [List.takeWhile_cons]
  simp only [Option.getD_some]
  by_cases hb : lessB key ks[i] = true <;> simp [hb]
section
variable {w : World} {A1 A2 A3 : Option Addr} {c1 c2 c3 : Nat} {lf : Bool} {ks vs : List ByteArray} {ns : List Int}
set_option maxRecDepth 100000 in
set_option maxHeartbeats 8000000 in
theorem pageKeys_all (h : PgR w A1 c1 A2 c2 A3 c3 ⟨lf, ks, vs, ns⟩) (hn : Nums ns) (hs0 : ∀ v ∈ ks, v.size ≤ maxLen) (hs : ∀ v ∈ vs, v.size ≤ maxLen) (key val : ByteArray) (hkl : key.size ≤ maxLen) (hvl : val.size ≤ maxLen) :
    Calls Try.prog 10 #[.agg #[.bool lf, .slice A1 ks.length c1, .slice A2 vs.length c2, .slice A3 ns.length c3], .string key, .string val] w fun e w' => e = .returned (.bool true) ∧ Below w.heap.size w w' := by
  unfold maxLen at hkl hvl
  obtain ⟨W0, hW0⟩ : ∃ W0, W0 = w.alloc (.cells #[.bool lf, .slice A1 ks.length c1, .slice A2 vs.length c2, .slice A3 ns.length c3] 67) := ⟨_, rfl⟩
  have hb0 : Below w.heap.size w W0 := by rw [hW0]; exact (Below.refl _ _).alloc (Nat.le_refl _) _
  have hk0 : Blk W0 w.heap.size 67 #[.bool lf, .slice A1 ks.length c1, .slice A2 vs.length c2, .slice A3 ns.length c3] := by rw [hW0]; exact Blk.new _ _ _
  have hr0 := h.below hb0
  have HR := Lib.hid hr0
  have SP : Hid (∀ V, Later W0 V → V.cell? ⟨w.heap.size, 0, none⟩ = some (.bool lf) ∧ V.cell? ⟨w.heap.size, 1, none⟩ = some (.slice A1 ks.length c1) ∧ V.cell? ⟨w.heap.size, 2, none⟩ = some (.slice A2 vs.length c2) ∧ V.cell? ⟨w.heap.size, 3, none⟩ = some (.slice A3 ns.length c3)) := Lib.hid fun V hV => cells4 (hk0.below hV hk0.lt)
  have HB0 := Lib.hid hb0
  have HW0 := Lib.hid hW0
  have HN := Lib.hid hn
  have HS0 := Lib.hid hs0
  have HS1 := Lib.hid hs
  clear h hn hs0 hs hW0 hb0 hk0 hr0
  go_enter Try.func10, Try.ntmps10
  go_wp2_with fail
  rw [← HW0.out]
  refine (awake6 W0).mono ?_
  rintro e w1 ⟨rfl, hb1⟩
  obtain ⟨q0, q1, q2, q3⟩ := SP.out w1 hb1
  have H1 : Hid (Later W0 w1) := Lib.hid hb1
  clear hb1 HW0
  go_wp2_with fail
  obtain ⟨G, hG, CG⟩ := great_any (HR.out.below H1.out)
  refine CG.mono ?_
  rintro e w2 ⟨rfl, hb2⟩
  have H2 : Hid (Later W0 w2) := Lib.hid (H1.out.trans hb2)
  obtain ⟨q0, q1, q2, q3⟩ := SP.out w2 H2.out
  clear hb2 H1 CG
  have HG := Lib.hid hG
  clear hG
  cases G with
  | true =>
    go_wp2_with fail
    go_ret
    exact ⟨rfl, HB0.out.trans ((show Below _ _ _ from H2.out).mono HB0.out.size)⟩
  | false =>
  have hsm := HG.out rfl
  have HSM := Lib.hid hsm
  clear hsm HG
  have hfit : Fits ⟨lf, ks, vs, ns⟩ := ⟨by have := HSM.out.1; omega, by have := HSM.out.2.1; omega, by have := HSM.out.2.2; omega, fun s hs => by have := HS0.out s hs; unfold maxLen at this; exact this, fun s hs => by have := HS1.out s hs; unfold maxLen at this; exact this⟩
  have CG := good_any (HR.out.below H2.out) hfit
  unfold pgv at CG
  dsimp only at CG
  have HC := Lib.hid CG
  clear CG hfit
  generalize hGB : goodB ⟨lf, ks, vs, ns⟩ = GB at *
  have HGB := Lib.hid hGB
  clear hGB
  go_wp2_with fail
  refine HC.out.mono ?_
  rintro e w3 ⟨rfl, hb3⟩
  have H3 : Hid (Later W0 w3) := Lib.hid (H2.out.trans hb3)
  obtain ⟨q0, q1, q2, q3⟩ := SP.out w3 H3.out
  clear hb3 H2 HC
  cases GB with
  | false =>
    go_wp2_with fail
    go_ret
    exact ⟨rfl, HB0.out.trans ((show Below _ _ _ from H3.out).mono HB0.out.size)⟩
  | true =>
  by_cases k1 : key.size < 1
  · have g1 : decide ((key.size : Int) < 1) = true := decide_eq_true (by omega)
    have g2 : decide (key.size < 1) = true := decide_eq_true k1
    go_wp2_with fail
    go_ret
    exact ⟨rfl, HB0.out.trans ((show Below _ _ _ from H3.out).mono HB0.out.size)⟩
  have g1 : decide ((key.size : Int) < 1) = false := decide_eq_false (by omega)
  have g2 : decide (key.size < 1) = false := decide_eq_false k1
  by_cases k2 : 40 < key.size
  · have g3 : decide ((40 : Int) < (key.size : Int)) = true := decide_eq_true (by omega)
    have g4 : decide (40 < key.size) = true := decide_eq_true k2
    clear k1 k2
    go_wp2_with fail
    go_ret
    exact ⟨rfl, HB0.out.trans ((show Below _ _ _ from H3.out).mono HB0.out.size)⟩
  have g3 : decide ((40 : Int) < (key.size : Int)) = false := decide_eq_false (by omega)
  have g4 : decide (40 < key.size) = false := decide_eq_false k2
  by_cases k3 : 400 < val.size
  · have g5 : decide ((400 : Int) < (val.size : Int)) = true := decide_eq_true (by omega)
    have g6 : decide (400 < val.size) = true := decide_eq_true k3
    clear k1 k2 k3
    go_wp2_with fail
    go_ret
    exact ⟨rfl, HB0.out.trans ((show Below _ _ _ from H3.out).mono HB0.out.size)⟩
  have g5 : decide ((400 : Int) < (val.size : Int)) = false := decide_eq_false (by omega)
  have g6 : decide (400 < val.size) = false := decide_eq_false k3
  have HSS := Lib.hid (HSM.out.small HGB.out)
  have HRI : Hid (Rise ks) := Lib.hid (good_rise HGB.out)
  have CO := own_any (HR.out.below H3.out) HSM.out.few
  unfold pgv at CO
  dsimp only at CO
  have CO := Lib.hid CO
  clear k1 k2 k3
  go_upto_region 5 with fail
  clear g1 g2 g3 g4 g5 g6 hkl hvl
  go_wp2_with fail
  refine CO.out.mono ?_
  rintro e w4 ⟨hb4, E1, d1, E2, d2, E3, d3, rfl, hq4⟩
  obtain ⟨W5, hW5⟩ : ∃ W5, W5 = w4.alloc (.cells #[.bool lf, .slice E1 ks.length d1, .slice E2 vs.length d2, .slice E3 ns.length d3] 73) := ⟨_, rfl⟩
  have hb5 : Below w4.heap.size w4 W5 := by rw [hW5]; exact (Below.refl _ _).alloc (Nat.le_refl _) _
  have hk5 : Blk W5 w4.heap.size 73 #[.bool lf, .slice E1 ks.length d1, .slice E2 vs.length d2, .slice E3 ns.length d3] := by rw [hW5]; exact Blk.new _ _ _
  have H5 : Hid (Later W0 W5) := Lib.hid (H3.out.trans (hb4.trans (hb5.mono hb4.size)))
  have HQ5 := Lib.hid (hq4.below hb5)
  have SW : Hid (∀ V, Later W5 V → V.cell? ⟨w4.heap.size, 0, none⟩ = some (.bool lf) ∧ V.cell? ⟨w4.heap.size, 1, none⟩ = some (.slice E1 ks.length d1) ∧ V.cell? ⟨w4.heap.size, 2, none⟩ = some (.slice E2 vs.length d2) ∧ V.cell? ⟨w4.heap.size, 3, none⟩ = some (.slice E3 ns.length d3)) := Lib.hid fun V hV => cells4 (hk5.below hV hk5.lt)
  have HW5 := Lib.hid hW5
  obtain ⟨q0, q1, q2, q3⟩ := SP.out W5 H5.out
  clear hW5 hb4 hb5 hk5 hq4 CO
  go_upto_region 6 with fail
  rw [← HW5.out]
  clear HW5
  have CS := split_any (HR.out.below H5.out) HSS.out HGB.out
  obtain ⟨hfa, hfb⟩ := few_split HSS.out
  have CR : ∀ V, Later W5 V → Calls Try.prog 47 #[pgv E1 d1 E2 d2 E3 d3 ⟨lf, ks, vs, ns⟩] V (SplitPost V (splitP ⟨lf, ks, vs, ns⟩).1 (splitP ⟨lf, ks, vs, ns⟩).2.2 (splitP ⟨lf, ks, vs, ns⟩).2.1) := fun V hV => rsplit_any (HQ5.out.below hV) HSS.out HGB.out
  generalize (splitP ⟨lf, ks, vs, ns⟩).1 = qa at *
  generalize (splitP ⟨lf, ks, vs, ns⟩).2.1 = kx at *
  generalize (splitP ⟨lf, ks, vs, ns⟩).2.2 = pb at *
  unfold pgv at CS CR
  dsimp only at CS CR
  have HFA := Lib.hid hfa
  have HFB := Lib.hid hfb
  have CR := Lib.hid CR
  have CS := Lib.hid CS
  clear hfa hfb
  go_wp2_with fail
  refine CS.out.mono ?_
  rintro e w6 ⟨hb6, a1, i1, a2, i2, a3, i3, b1, j1, b2, j2, b3, j3, rfl, ra, rb⟩
  unfold pgv
  obtain ⟨W7, hW7⟩ : ∃ W7, W7 = (w6.alloc (.cells #[.bool qa.leaf, .slice a1 qa.keys.length i1, .slice a2 qa.vals.length i2, .slice a3 qa.kids.length i3] 67)).alloc (.cells #[.bool pb.leaf, .slice b1 pb.keys.length j1, .slice b2 pb.vals.length j2, .slice b3 pb.kids.length j3] 67) := ⟨_, rfl⟩
  have k1 : Blk W7 w6.heap.size 67 #[.bool qa.leaf, .slice a1 qa.keys.length i1, .slice a2 qa.vals.length i2, .slice a3 qa.kids.length i3] := by rw [hW7]; exact (Blk.new _ _ _).alloc _
  have k2 : Blk W7 (w6.heap.size + 1) 67 #[.bool pb.leaf, .slice b1 pb.keys.length j1, .slice b2 pb.vals.length j2, .slice b3 pb.kids.length j3] := by
    have := Blk.new (w6.alloc (.cells #[.bool qa.leaf, .slice a1 qa.keys.length i1, .slice a2 qa.vals.length i2, .slice a3 qa.kids.length i3] 67)) 67 #[.bool pb.leaf, .slice b1 pb.keys.length j1, .slice b2 pb.vals.length j2, .slice b3 pb.kids.length j3]
    rw [← hW7] at this
    simpa using this
  have hb7 : Below w6.heap.size w6 W7 := by rw [hW7]; exact ((Below.refl _ _).alloc (Nat.le_refl _) _).alloc (by simp) _
  have H57 : Hid (Later W5 W7) := Lib.hid (hb6.trans (hb7.mono hb6.size))
  have HRA := Lib.hid (ra.below hb7)
  have HRB := Lib.hid (rb.below hb7)
  have SA : Hid (∀ V, Later W7 V → (V.cell? ⟨w6.heap.size, 0, none⟩ = some (.bool qa.leaf) ∧ V.cell? ⟨w6.heap.size, 1, none⟩ = some (.slice a1 qa.keys.length i1) ∧ V.cell? ⟨w6.heap.size, 2, none⟩ = some (.slice a2 qa.vals.length i2) ∧ V.cell? ⟨w6.heap.size, 3, none⟩ = some (.slice a3 qa.kids.length i3)) ∧ (V.cell? ⟨w6.heap.size + 1, 0, none⟩ = some (.bool pb.leaf) ∧ V.cell? ⟨w6.heap.size + 1, 1, none⟩ = some (.slice b1 pb.keys.length j1) ∧ V.cell? ⟨w6.heap.size + 1, 2, none⟩ = some (.slice b2 pb.vals.length j2) ∧ V.cell? ⟨w6.heap.size + 1, 3, none⟩ = some (.slice b3 pb.kids.length j3))) := Lib.hid fun V hV => ⟨cells4 (k1.below hV k1.lt), cells4 (k2.below hV k2.lt)⟩
  obtain ⟨y0, y1, y2, y3⟩ := SW.out W7 H57.out
  have HW7 := Lib.hid hW7
  clear hW7 k1 k2 hb6 hb7 ra rb CS
  go_upto_region 7 with fail
  rw [← HW7.out]
  clear HW7
  go_wp2_with fail
  refine (CR.out W7 H57.out).mono ?_
  rintro e w8 ⟨hb8, s1, m1, s2, m2, s3, m3, t1, n1, t2, n2, t3, n3, rfl, rc, rd⟩
  unfold pgv
  obtain ⟨W9, hW9⟩ : ∃ W9, W9 = (w8.alloc (.cells #[.bool qa.leaf, .slice s1 qa.keys.length m1, .slice s2 qa.vals.length m2, .slice s3 qa.kids.length m3] 73)).alloc (.cells #[.bool pb.leaf, .slice t1 pb.keys.length n1, .slice t2 pb.vals.length n2, .slice t3 pb.kids.length n3] 73) := ⟨_, rfl⟩
  have k1 : Blk W9 w8.heap.size 73 #[.bool qa.leaf, .slice s1 qa.keys.length m1, .slice s2 qa.vals.length m2, .slice s3 qa.kids.length m3] := by rw [hW9]; exact (Blk.new _ _ _).alloc _
  have k2 : Blk W9 (w8.heap.size + 1) 73 #[.bool pb.leaf, .slice t1 pb.keys.length n1, .slice t2 pb.vals.length n2, .slice t3 pb.kids.length n3] := by
    have := Blk.new (w8.alloc (.cells #[.bool qa.leaf, .slice s1 qa.keys.length m1, .slice s2 qa.vals.length m2, .slice s3 qa.kids.length m3] 73)) 73 #[.bool pb.leaf, .slice t1 pb.keys.length n1, .slice t2 pb.vals.length n2, .slice t3 pb.kids.length n3]
    rw [← hW9] at this
    simpa using this
  have hb9 : Below w8.heap.size w8 W9 := by rw [hW9]; exact ((Below.refl _ _).alloc (Nat.le_refl _) _).alloc (by simp) _
  have H79 : Hid (Later W7 W9) := Lib.hid (hb8.trans (hb9.mono hb8.size))
  have HRC := Lib.hid (rc.below hb9)
  have HRD := Lib.hid (rd.below hb9)
  have HRA9 := Lib.hid (HRA.out.below H79.out)
  have HRB9 := Lib.hid (HRB.out.below H79.out)
  have SC : Hid (∀ V, Later W9 V → (V.cell? ⟨w8.heap.size, 0, none⟩ = some (.bool qa.leaf) ∧ V.cell? ⟨w8.heap.size, 1, none⟩ = some (.slice s1 qa.keys.length m1) ∧ V.cell? ⟨w8.heap.size, 2, none⟩ = some (.slice s2 qa.vals.length m2) ∧ V.cell? ⟨w8.heap.size, 3, none⟩ = some (.slice s3 qa.kids.length m3)) ∧ (V.cell? ⟨w8.heap.size + 1, 0, none⟩ = some (.bool pb.leaf) ∧ V.cell? ⟨w8.heap.size + 1, 1, none⟩ = some (.slice t1 pb.keys.length n1) ∧ V.cell? ⟨w8.heap.size + 1, 2, none⟩ = some (.slice t2 pb.vals.length n2) ∧ V.cell? ⟨w8.heap.size + 1, 3, none⟩ = some (.slice t3 pb.kids.length n3))) := Lib.hid fun V hV => ⟨cells4 (k1.below hV k1.lt), cells4 (k2.below hV k2.lt)⟩
  have H9 : Hid (Later W0 W9) := Lib.hid (H5.out.trans (H57.out.trans H79.out))
  have SW9 : Hid (∀ V, Later W9 V → (V.cell? ⟨w.heap.size, 0, none⟩ = some (.bool lf) ∧ V.cell? ⟨w.heap.size, 1, none⟩ = some (.slice A1 ks.length c1) ∧ V.cell? ⟨w.heap.size, 2, none⟩ = some (.slice A2 vs.length c2) ∧ V.cell? ⟨w.heap.size, 3, none⟩ = some (.slice A3 ns.length c3)) ∧ (V.cell? ⟨w4.heap.size, 0, none⟩ = some (.bool lf) ∧ V.cell? ⟨w4.heap.size, 1, none⟩ = some (.slice E1 ks.length d1) ∧ V.cell? ⟨w4.heap.size, 2, none⟩ = some (.slice E2 vs.length d2) ∧ V.cell? ⟨w4.heap.size, 3, none⟩ = some (.slice E3 ns.length d3))) := Lib.hid fun V hV => ⟨SP.out V (H9.out.trans hV), SW.out V ((H57.out.trans H79.out).trans hV)⟩
  have HP9 := Lib.hid (HR.out.below H9.out)
  have HQ9 := Lib.hid (HQ5.out.below (H57.out.trans H79.out))
  have HW9 := Lib.hid hW9
  obtain ⟨⟨p0, p1, p2, p3⟩, ⟨r0, r1, r2, r3⟩⟩ := SA.out W9 H79.out
  obtain ⟨⟨x0, x1, x2, x3⟩, ⟨z0, z1, z2, z3⟩⟩ := SC.out W9 (Later.refl _)
  clear hW9 k1 k2 hb8 hb9 rc rd CR y0 y1 y2 y3 q0 q1 q2 q3
  go_upto_region 8 with fail
  rw [← HW9.out]
  clear HW9
  have CSM : ∀ (q : Pg) V A1 c1 A2 c2 A3 c3 B1 d1 B2 d2 B3 d3, Few q → PgR V A1 c1 A2 c2 A3 c3 q → PgR V B1 d1 B2 d2 B3 d3 q → Calls Try.prog 45 #[.agg #[.bool q.leaf, .slice A1 q.keys.length c1, .slice A2 q.vals.length c2, .slice A3 q.kids.length c3], .agg #[.bool q.leaf, .slice B1 q.keys.length d1, .slice B2 q.vals.length d2, .slice B3 q.kids.length d3]] V fun e w' => e = .returned (.bool true) ∧ Below V.heap.size V w' := fun q V _ _ _ _ _ _ _ _ _ _ _ _ hf h1 h2 => same_any h1 h2 hf
  have CSM := Lib.hid CSM
  go_wp2_with fail
  refine (CSM.out qa W9 _ _ _ _ _ _ _ _ _ _ _ _ HFA.out HRA9.out HRC.out).mono ?_
  rintro e w10 ⟨rfl, hb10⟩
  obtain ⟨-, ⟨r0, r1, r2, r3⟩⟩ := SA.out w10 (H79.out.trans hb10)
  obtain ⟨-, ⟨z0, z1, z2, z3⟩⟩ := SC.out w10 hb10
  have H10 : Hid (Later W9 w10) := Lib.hid hb10
  have HRB10 := Lib.hid (HRB9.out.below hb10)
  have HRD10 := Lib.hid (HRD.out.below hb10)
  clear hb10 p0 p1 p2 p3 x0 x1 x2 x3
  go_wp2_with fail
  refine (CSM.out pb w10 _ _ _ _ _ _ _ _ _ _ _ _ HFB.out HRB10.out HRD10.out).mono ?_
  rintro e w11 ⟨rfl, hb11⟩
  have H11 : Hid (Later W9 w11) := Lib.hid (H10.out.trans hb11)
  clear hb11 r0 r1 r2 r3 z0 z1 z2 z3 H10 HRB10 HRD10 HRA HRB HRA9 HRB9 HRC HRD SA SC HFA HFB
  have hn60 : ks.length ≤ 60 := HSS.out.1
  go_upto_block 0 with fail
  go_cut [14] (fun cv wx => cv = .int .i64 (placeN ks key : Nat) ∧ Hid (Later W9 wx))
  case first =>
    go_wp2_with fail
    go_loopw [14] (fun iv wr => ∃ i : Nat, i ≤ ks.length ∧ iv = .int .i64 (i : Int) ∧ Hid (Later W9 wr) ∧ Hid (placeN ks key = i + placeN (ks.drop i) key)) (fun iv _ => ks.length - (intOf iv).toNat)
    case atStart => exact ⟨0, Nat.zero_le _, rfl, H11, Lib.hid (by rw [List.drop_zero, Nat.zero_add])⟩
    case round =>
      obtain ⟨i, hi, rfl, HJ, HPL⟩ := hrel
      obtain ⟨-, ⟨y0, y1, y2, y3⟩⟩ := SW9.out wr HJ.out
      by_cases hlt : i < ks.length
      · obtain ⟨eb, eo, rfl, hkc⟩ := strs_all (HQ9.out.below HJ.out).k (show 0 < ks.length by omega)
        have hkc0 := hkc i hlt wr (Below.refl _ _)
        have hps := place_step ks key hlt
        dsimp only at hkc0
        generalize ks.getD i ByteArray.empty = z at *
        have i0 : (0 : Int) ≤ (i : Int) := by omega
        have i1 : (i : Int) < (ks.length : Int) := by omega
        unfold lessB at hps
        have hnl := bytes_nle z.toList key.toList
        cases hbl : Op.bytesLess key.toList z.toList with
        | true =>
          rw [hbl] at hps hnl
          have HPZ : Hid (placeN ks key = i) := Lib.hid (by rw [HPL.out, hps]; simp)
          clear hps hkc
          go_wp2_with fail
          go_meet
          exact ⟨by rw [HPZ.out], HJ⟩
        | false =>
          rw [hbl] at hps hnl
          have HPZ : Hid (placeN ks key = (i + 1) + placeN (ks.drop (i + 1)) key) := Lib.hid (by rw [HPL.out, hps]; simp; omega)
          clear hps hkc
          go_wp2_with fail
          go_roundw
          case rel => exact ⟨i + 1, by omega, by go_num, HJ, HPZ⟩
          case measure => simp [intOf]; omega
      · obtain rfl : i = ks.length := by omega
        have HPZ : Hid (placeN ks key = ks.length) := Lib.hid (by rw [HPL.out, List.drop_length]; simp [placeN])
        clear hlt
        go_wp2_with fail
        go_meet
        exact ⟨by rw [HPZ.out], HJ⟩
  case rest =>
  obtain ⟨rfl, HJ⟩ := hcut
  obtain ⟨wf, rfl⟩ : ∃ wf : World, wf = wc := ⟨_, rfl⟩
  clear H11
  have HPLF : Hid (placeN ks key = findN ks key + if thereB ks key then 1 else 0) := Lib.hid (place_find HRI.out key)
  have hpl : placeN ks key ≤ 60 := by
    have := findN_le ks key
    rw [HPLF.out]
    split
    · rename_i ht; have := findN_lt_there ht; omega
    · omega
  obtain ⟨⟨q0, q1, q2, q3⟩, ⟨y0, y1, y2, y3⟩⟩ := SW9.out wf HJ.out
  cases lf with
  | false =>
    obtain ⟨q, hq⟩ : ∃ q, q = putP ⟨false, ks, vs, ns⟩ key val := ⟨_, rfl⟩
    have hq2 : q = ⟨false, ks, vs, ns⟩ := by rw [hq]; rfl
    clear hq
    subst hq2
    have CKD : Hid (∀ V, Later wf V → Calls Try.prog 48 #[.agg #[.bool false, .slice A1 ks.length c1, .slice A2 vs.length c2, .slice A3 ns.length c3], .string key] V fun e w' => e = .returned (.int .i64 (placeN ks key : Nat)) ∧ Below V.heap.size V w') := Lib.hid fun V hV => by
      have := kid_any key (HP9.out.below (HJ.out.trans hV)) HSS.out.few HRI.out
      have e : kidN ⟨false, ks, vs, ns⟩ key = placeN ks key := by
        rw [HPLF.out]
        unfold kidN
        simp only [Bool.false_eq_true, if_false]
        cases thereB ks key <;> rfl
      rw [e] at this
      exact this
    have CPT : Hid (∀ V, Later wf V → Calls Try.prog 49 #[.agg #[.bool false, .slice A1 ks.length c1, .slice A2 vs.length c2, .slice A3 ns.length c3], .string key, .string val] V fun e w' => Below V.heap.size V w' ∧ ∃ B1 d1 B2 d2 B3 d3, e = .returned (.agg #[.bool false, .slice B1 ks.length d1, .slice B2 vs.length d2, .slice B3 ns.length d3]) ∧ PgR w' B1 d1 B2 d2 B3 d3 ⟨false, ks, vs, ns⟩) := Lib.hid fun V hV => by
      have := put_any key val (HP9.out.below (HJ.out.trans hV)) HSS.out.few HRI.out (fun h => by cases h)
      exact this
    have CSA := Lib.hid (CSM.out ⟨false, ks, vs, ns⟩)
    dsimp only at CSA
    have HPF := Lib.hid (HP9.out.below HJ.out)
    have HQF := Lib.hid (HQ9.out.below HJ.out)
    generalize placeN ks key = pn at *
    go_upto_region 14 with fail
    clear q0 q1 q2 q3 y0 y1 y2 y3
    have HL0 := Lib.hid (Later.refl wf)
    have ZF0 : Hid (∀ s, wf.heap.size ≤ s → wf.heap.size ≤ s) := Lib.hid (fun _ h => h)
    have ZS0 : Hid (∀ V, Later wf V → (Later wf) V) := Lib.hid (fun _ h => h)
    refine walk_start 19 (S := Later wf) (T := Later wf) (by kernel_rfl) (fun r => wf.heap.size ≤ r) (fun _ h => h.size) ZS0.out (closed_later _) (Later.refl _).drew ?_
    refine wt 0 90 ?_ (fun V hV => ?_) ?_
    rotate_left 1
    · (obtain ⟨⟨q0, q1, q2, q3⟩, ⟨y0, y1, y2, y3⟩⟩ := SW9.out V (HJ.out.trans (HL0.out.trans hV)); clear hV; go_simp; (try with_reducible rfl))
    try simp only [pa, List.set]
    refine wt 1 91 ?_ (fun V hV => ?_) ?_
    rotate_left 1
    · (clear hV; go_simp; (try with_reducible rfl))
    try simp only [pa, List.set]
    refine wt 3 93 ?_ (fun V hV => ?_) ?_
    rotate_left 1
    · (clear hV; go_simp; (try with_reducible rfl))
    try simp only [pa, List.set]
    refine walk_core 2 rfl (by kernel_rfl) (fun _ _ _ _ _ h => h) (fun V hV K hK => ?_)
    have hV0 := HL0.out.trans hV
    go_simp
    go_at_call 48
    refine (CKD.out V hV0).mono ?_
    rintro e x2 ⟨rfl, hb⟩
    have HT2 := Lib.hid (hV.of hb)
    have HL1 := Lib.hid (hV0.of hb)
    have hsize := hb.size
    have hkeep := fun (r : Nat) (_ : True) (h : r < V.heap.size) => hb.block r h
    have ZF1 : Hid (∀ s, x2.heap.size ≤ s → _) := Lib.hid (fun s h => ZF0.out s (Nat.le_trans hV.size (Nat.le_trans hsize h)))
    refine hK.out _ _ (Later x2) (Later x2) _ (fun r _ h => hkeep r trivial h) (fun _ h _ => h) (fun V' h => (hV.of hb).trans h) (fun _ h => h) (fun V' h => ZF1.out _ h.size) (Later.refl _) (closed_later _) ?_
    clear hK K hV hsize hkeep hV0 hb
    try simp only [pa, List.set]
    refine wt 4 94 ?_ (fun V hV => ?_) ?_
    rotate_left 1
    · (clear hV; go_simp; (try with_reducible rfl))
    try simp only [pa, List.set]
    refine wt 5 95 ?_ (fun V hV => ?_) ?_
    rotate_left 1
    · (clear hV; go_simp; (try with_reducible rfl))
    try simp only [pa, List.set]
    refine wt 6 96 ?_ (fun V hV => ?_) ?_
    rotate_left 1
    · (obtain ⟨⟨q0, q1, q2, q3⟩, ⟨y0, y1, y2, y3⟩⟩ := SW9.out V (HJ.out.trans (HL1.out.trans hV)); clear hV; go_simp; (try with_reducible rfl))
    try simp only [pa, List.set]
    refine wt 7 97 ?_ (fun V hV => ?_) ?_
    rotate_left 1
    · (clear hV; go_simp; (try with_reducible rfl))
    try simp only [pa, List.set]
    refine wt 8 98 ?_ (fun V hV => ?_) ?_
    rotate_left 1
    · (clear hV; go_simp; (try with_reducible rfl))
    try simp only [pa, List.set]
    refine wt 10 100 ?_ (fun V hV => ?_) ?_
    rotate_left 1
    · (obtain ⟨⟨q0, q1, q2, q3⟩, ⟨y0, y1, y2, y3⟩⟩ := SW9.out V (HJ.out.trans (HL1.out.trans hV)); clear hV; go_simp; (try with_reducible rfl))
    try simp only [pa, List.set]
    refine walk_core 9 rfl (by kernel_rfl) (fun _ _ _ _ _ h => h) (fun V hV K hK => ?_)
    have hV0 := HL1.out.trans hV
    go_simp
    go_at_call 49
    refine (CPT.out V hV0).mono ?_
    rintro e x9 ⟨hb, B1, u1, B2, u2, B3, u3, rfl, hp9⟩
    have HP99 := Lib.hid hp9
    clear hp9
    have HT9 := Lib.hid (hV.of hb)
    have HL2 := Lib.hid (hV0.of hb)
    have hsize := hb.size
    have hkeep := fun (r : Nat) (_ : True) (h : r < V.heap.size) => hb.block r h
    have ZF2 : Hid (∀ s, x9.heap.size ≤ s → _) := Lib.hid (fun s h => ZF1.out s (Nat.le_trans hV.size (Nat.le_trans hsize h)))
    refine hK.out _ _ (Later x9) (Later x9) _ (fun r _ h => hkeep r trivial h) (fun _ h _ => h) (fun V' h => (hV.of hb).trans h) (fun _ h => h) (fun V' h => ZF2.out _ h.size) (Later.refl _) (closed_later _) ?_
    clear hK K hV hsize hkeep hV0 hb
    try simp only [pa, List.set]
    refine walk_core 11 rfl (by kernel_rfl) (fun _ _ _ _ _ h => h) (fun V hV K hK => ?_)
    have hV0 := HL2.out.trans hV
    go_simp
    go_at_call 45
    refine (CSA.out V _ _ _ _ _ _ _ _ _ _ _ _ HSS.out.few (HP99.out.below hV) (HQF.out.below hV0)).mono ?_
    rintro e x11 ⟨rfl, hb⟩
    have HT11 := Lib.hid (hV.of hb)
    have HL3 := Lib.hid (hV0.of hb)
    have hsize := hb.size
    have hkeep := fun (r : Nat) (_ : True) (h : r < V.heap.size) => hb.block r h
    have ZF3 : Hid (∀ s, x11.heap.size ≤ s → _) := Lib.hid (fun s h => ZF2.out s (Nat.le_trans hV.size (Nat.le_trans hsize h)))
    refine hK.out _ _ (Later x11) (Later x11) _ (fun r _ h => hkeep r trivial h) (fun _ h _ => h) (fun V' h => (hV.of hb).trans h) (fun _ h => h) (fun V' h => ZF3.out _ h.size) (Later.refl _) (closed_later _) ?_
    clear hK K hV hsize hkeep hV0 hb
    try simp only [pa, List.set]
    refine wt 12 102 ?_ (fun V hV => ?_) ?_
    rotate_left 1
    · (clear hV; go_simp; (try with_reducible rfl))
    try simp only [pa, List.set]
    refine wt 13 103 ?_ (fun V hV => ?_) ?_
    rotate_left 1
    · (clear hV; go_simp; (try with_reducible rfl))
    try simp only [pa, List.set]
    refine wt 14 104 ?_ (fun V hV => ?_) ?_
    rotate_left 1
    · (obtain ⟨⟨q0, q1, q2, q3⟩, ⟨y0, y1, y2, y3⟩⟩ := SW9.out V (HJ.out.trans (HL3.out.trans hV)); clear hV; go_simp; (try with_reducible rfl))
    try simp only [pa, List.set]
    refine wt 15 105 ?_ (fun V hV => ?_) ?_
    rotate_left 1
    · (obtain ⟨⟨q0, q1, q2, q3⟩, ⟨y0, y1, y2, y3⟩⟩ := SW9.out V (HJ.out.trans (HL3.out.trans hV)); clear hV; go_simp; (try with_reducible rfl))
    try simp only [pa, List.set]
    refine walk_core 16 rfl (by kernel_rfl) (fun _ _ _ _ _ h => h) (fun V hV K hK => ?_)
    have hV0 := HL3.out.trans hV
    go_simp
    go_at_call 45
    refine (CSA.out V _ _ _ _ _ _ _ _ _ _ _ _ HSS.out.few (HPF.out.below hV0) (HQF.out.below hV0)).mono ?_
    rintro e x16 ⟨rfl, hb⟩
    have HT16 := Lib.hid (hV.of hb)
    have HL4 := Lib.hid (hV0.of hb)
    have hsize := hb.size
    have hkeep := fun (r : Nat) (_ : True) (h : r < V.heap.size) => hb.block r h
    have ZF4 : Hid (∀ s, x16.heap.size ≤ s → _) := Lib.hid (fun s h => ZF3.out s (Nat.le_trans hV.size (Nat.le_trans hsize h)))
    refine hK.out _ _ (Later x16) (Later x16) _ (fun r _ h => hkeep r trivial h) (fun _ h _ => h) (fun V' h => (hV.of hb).trans h) (fun _ h => h) (fun V' h => ZF4.out _ h.size) (Later.refl _) (closed_later _) ?_
    clear hK K hV hsize hkeep hV0 hb
    try simp only [pa, List.set]
    refine wt 17 107 ?_ (fun V hV => ?_) ?_
    rotate_left 1
    · (clear hV; go_simp; (try with_reducible rfl))
    try simp only [pa, List.set]
    refine wt 18 6 ?_ (fun V hV => ?_) ?_
    rotate_left 1
    · (clear hV; go_simp; (try with_reducible rfl))
    try simp only [pa, List.set]
    refine walk_exit (fun V hV => wpAnyJ_done (by kernel_rfl) ?_ _)
    have hV0 := HL4.out.trans hV
    have HZ : Hid (Below w.heap.size w V) := Lib.hid (HB0.out.trans ((show Below _ _ _ from H9.out.trans (HJ.out.trans hV0)).mono HB0.out.size))
    clear hV hV0
    go_wp2_with fail
    go_ret
    exact ⟨rfl, HZ.out⟩
  | true =>
    obtain ⟨hv, hns⟩ := leaf_shape HGB.out rfl
    dsimp only at hv hns
    subst hns
    have HV := Lib.hid hv
    have HF0 := HSS.out.few
    have SL : Hid (∀ V, Later wf V → (V.cell? ⟨w.heap.size, 0, none⟩ = some (.bool true) ∧ V.cell? ⟨w.heap.size, 1, none⟩ = some (.slice A1 ks.length c1) ∧ V.cell? ⟨w.heap.size, 2, none⟩ = some (.slice A2 vs.length c2) ∧ V.cell? ⟨w.heap.size, 3, none⟩ = some (.slice A3 0 c3)) ∧ (V.cell? ⟨w4.heap.size, 0, none⟩ = some (.bool true) ∧ V.cell? ⟨w4.heap.size, 1, none⟩ = some (.slice E1 ks.length d1) ∧ V.cell? ⟨w4.heap.size, 2, none⟩ = some (.slice E2 vs.length d2) ∧ V.cell? ⟨w4.heap.size, 3, none⟩ = some (.slice E3 0 d3))) := Lib.hid fun V hV => SW9.out V (HJ.out.trans hV)
    have CFD : Hid (∀ V, Later wf V → Calls Try.prog 50 #[.agg #[.bool true, .slice A1 ks.length c1, .slice A2 vs.length c2, .slice A3 0 c3], .string key] V fun e w' => e = .returned (.tuple #[.int .i64 (findN ks key : Nat), .bool (thereB ks key)]) ∧ Below V.heap.size V w') := Lib.hid fun V hV => by
      have := find_any key (HP9.out.below (HJ.out.trans hV)) HSS.out.few HRI.out
      exact this
    have CKD : Hid (∀ V, Later wf V → Calls Try.prog 48 #[.agg #[.bool true, .slice A1 ks.length c1, .slice A2 vs.length c2, .slice A3 0 c3], .string key] V fun e w' => e = .returned (.int .i64 0) ∧ Below V.heap.size V w') := Lib.hid fun V hV => by
      have := kid_any key (HP9.out.below (HJ.out.trans hV)) HSS.out.few HRI.out
      have e : kidN ⟨true, ks, vs, []⟩ key = 0 := rfl
      rw [e] at this
      exact this
    have hfq := few_put HSS.out key val
    have hfr := few_drop HSS.out key
    have CPT : ∀ V, Later wf V → Calls Try.prog 49 #[.agg #[.bool true, .slice A1 ks.length c1, .slice A2 vs.length c2, .slice A3 0 c3], .string key, .string val] V fun e w' => Below V.heap.size V w' ∧ ∃ B1 d1 B2 d2 B3 d3, e = .returned (pgv B1 d1 B2 d2 B3 d3 (putP ⟨true, ks, vs, []⟩ key val)) ∧ PgR w' B1 d1 B2 d2 B3 d3 (putP ⟨true, ks, vs, []⟩ key val) := fun V hV => by
      have := put_any key val (HP9.out.below (HJ.out.trans hV)) HSS.out.few HRI.out (fun _ => HV.out)
      exact this
    have CRP : ∀ V, Later wf V → Calls Try.prog 51 #[.agg #[.bool true, .slice E1 ks.length d1, .slice E2 vs.length d2, .slice E3 0 d3], .string key, .string val] V fun e w' => Below V.heap.size V w' ∧ ∃ B1 d1 B2 d2 B3 d3, e = .returned (pgv B1 d1 B2 d2 B3 d3 (putP ⟨true, ks, vs, []⟩ key val)) ∧ PgR w' B1 d1 B2 d2 B3 d3 (putP ⟨true, ks, vs, []⟩ key val) := fun V hV => by
      have := rput_any key val (HQ9.out.below (HJ.out.trans hV)) HSS.out.few HRI.out HV.out
      exact this
    have CDP : ∀ V, Later wf V → Calls Try.prog 52 #[.agg #[.bool true, .slice A1 ks.length c1, .slice A2 vs.length c2, .slice A3 0 c3], .string key] V fun e w' => Below V.heap.size V w' ∧ ∃ B1 d1 B2 d2 B3 d3, e = .returned (pgv B1 d1 B2 d2 B3 d3 (dropP ⟨true, ks, vs, []⟩ key)) ∧ PgR w' B1 d1 B2 d2 B3 d3 (dropP ⟨true, ks, vs, []⟩ key) := fun V hV => by
      have := drop_any key (HP9.out.below (HJ.out.trans hV)) HSS.out.few HRI.out (fun _ => HV.out)
      exact this
    have CRD : ∀ V, Later wf V → Calls Try.prog 53 #[.agg #[.bool true, .slice E1 ks.length d1, .slice E2 vs.length d2, .slice E3 0 d3], .string key] V fun e w' => Below V.heap.size V w' ∧ ∃ B1 d1 B2 d2 B3 d3, e = .returned (pgv B1 d1 B2 d2 B3 d3 (dropP ⟨true, ks, vs, []⟩ key)) ∧ PgR w' B1 d1 B2 d2 B3 d3 (dropP ⟨true, ks, vs, []⟩ key) := fun V hV => by
      have := rdrop_any key (HQ9.out.below (HJ.out.trans hV)) HSS.out.few HRI.out HV.out
      exact this
    generalize putP ⟨true, ks, vs, []⟩ key val = q at *
    generalize dropP ⟨true, ks, vs, []⟩ key = r at *
    unfold pgv at CPT CRP CDP CRD
    have CPT := Lib.hid CPT
    have CRP := Lib.hid CRP
    have CDP := Lib.hid CDP
    have CRD := Lib.hid CRD
    have CSQ := Lib.hid (fun V A1 c1 A2 c2 A3 c3 B1 d1 B2 d2 B3 d3 => CSM.out q V A1 c1 A2 c2 A3 c3 B1 d1 B2 d2 B3 d3 hfq)
    have CSR := Lib.hid (fun V A1 c1 A2 c2 A3 c3 B1 d1 B2 d2 B3 d3 => CSM.out r V A1 c1 A2 c2 A3 c3 B1 d1 B2 d2 B3 d3 hfr)
    have CSA := CSM.out ⟨true, ks, vs, []⟩
    dsimp only [List.length_nil] at CSA
    have CSA := Lib.hid CSA
    have HPF := Lib.hid (HP9.out.below HJ.out)
    have HQF := Lib.hid (HQ9.out.below HJ.out)
    have HKL : Hid (0 < ks.length → ∃ b o, E1 = some ⟨b, o, none⟩ ∧ ∀ i, i < ks.length → ∀ w', Below W9.heap.size W9 w' → w'.cell? ⟨b, o + i, none⟩ = some (.string (ks.getD i ByteArray.empty))) := Lib.hid fun h0 => strs_all HQ9.out.k h0
    clear hfq hfr hv HF0 SW9 SP SW HP9 HQ9 HR q0 q1 q2 q3 y0 y1 y2 y3
    obtain ⟨⟨q0, q1, q2, q3⟩, ⟨y0, y1, y2, y3⟩⟩ := SL.out wf (Later.refl _)
    go_upto_region 15 with fail
    go_wp2_with fail
    refine (CFD.out wf (Later.refl _)).mono ?_
    rintro e w12 ⟨rfl, hb12⟩
    have H12 : Hid (Later wf w12) := Lib.hid hb12
    obtain ⟨-, ⟨y0, y1, y2, y3⟩⟩ := SL.out w12 hb12
    clear hb12 q0 q1 q2 q3 CFD
    have hpe := HPLF.out
    rw [hpe]
    clear hpe
    have hfl := findN_le ks key
    have hnb : 0 < findN ks key → ((ks.getD (findN ks key - 1) ByteArray.empty).toList == key.toList) = false := fun h => before_ne h
    have hft : thereB ks key = true → findN ks key < ks.length ∧ ks.getD (findN ks key) ByteArray.empty = key := fun h => findN_lt_there h
    clear hpl HPLF
    generalize findN ks key = f at *
    generalize thereB ks key = th at *
    have HFL := Lib.hid hfl
    have HNB := Lib.hid hnb
    have HFT := Lib.hid hft
    clear hnb hft
    go_upto_region 16 with fail
    go_cut [17] (fun cv wx => cv = .bool th ∧ Hid (Later wf wx))
    case first =>
      cases th with
      | true =>
        obtain ⟨hfk, hke⟩ := HFT.out rfl
        obtain ⟨kb, ko, rfl, hkc⟩ := HKL.out (by omega)
        have hkc0 := hkc f hfk w12 (HJ.out.trans H12.out)
        rw [hke] at hkc0
        rw [if_pos (by rfl)]
        have g1 : decide ((0 : Int) < (f : Int) + 1) = true := decide_eq_true (by omega)
        have g2 : decide ((0 : Int) < ((f + 1 : Nat) : Int)) = true := decide_eq_true (by omega)
        have e1 : ((f + 1 : Nat) : Int) = (f : Int) + 1 := by omega
        have e2 : IntKind.i64.wrap ((f : Int) + 1 - 1) = (f : Int) := by rw [show (f : Int) + 1 - 1 = (f : Int) by omega]; exact IntWalk.i64_in _ (by omega)
        have e3 : (f : Int) + 1 - 1 = (f : Int) := by omega
        have e4 : IntKind.i64.wrap (f : Int) = (f : Int) := IntWalk.i64_in _ (by omega)
        have i1 : (f : Int) < (ks.length : Int) := by omega
        have i0 : (0 : Int) ≤ (f : Int) := by omega
        have hrg : 0 < f + 1 := by omega
        clear hke hkc hfl
        go_wp2_with fail
        go_meet
        exact ⟨rfl, H12⟩
      | false =>
        rw [if_neg (by simp), Nat.add_zero]
        by_cases h0 : f = 0
        · subst h0
          have g1 : decide ((0 : Int) < ((0 : Nat) : Int)) = false := by decide
          go_wp2_with fail
          go_meet
          exact ⟨rfl, H12⟩
        · obtain ⟨kb, ko, rfl, hkc⟩ := HKL.out (by omega)
          have hkc0 := hkc (f - 1) (by omega) w12 (HJ.out.trans H12.out)
          have hne := HNB.out (by omega)
          obtain ⟨f', rfl⟩ : ∃ f', f = f' + 1 := ⟨f - 1, by omega⟩
          rw [show f' + 1 - 1 = f' by omega] at hkc0 hne
          generalize ks.getD f' ByteArray.empty = kx at hkc0 hne
          have g1 : decide ((0 : Int) < (f' : Int) + 1) = true := decide_eq_true (by omega)
          have e1 : ((f' + 1 : Nat) : Int) = (f' : Int) + 1 := by omega
          have e2 : IntKind.i64.wrap ((f' : Int) + 1 - 1) = (f' : Int) := by rw [show (f' : Int) + 1 - 1 = (f' : Int) by omega]; exact IntWalk.i64_in _ (by omega)
          have e3 : (f' : Int) + 1 - 1 = (f' : Int) := by omega
          have e4 : IntKind.i64.wrap (f' : Int) = (f' : Int) := IntWalk.i64_in _ (by omega)
          have i1 : (f' : Int) < (ks.length : Int) := by omega
          have i0 : (0 : Int) ≤ (f' : Int) := by omega
          clear hkc h0
          go_wp2_with fail
          go_meet
          exact ⟨rfl, H12⟩
    case rest =>
    obtain ⟨rfl, H13⟩ := hcut
    clear H12 y0 y1 y2 y3
    go_upto_if 126 with fail
    go_cut [14] (fun cv wx => cv = .int .i64 (f : Nat) ∧ Hid (Later wf wx))
    case first =>
      cases th with
      | true =>
        obtain ⟨hfk, hke⟩ := HFT.out rfl
        rw [if_pos (by rfl)]
        have e1 : ((f + 1 : Nat) : Int) = (f : Int) + 1 := by omega
        have e2 : IntKind.i64.wrap ((f : Int) + 1 - 1) = (f : Int) := by rw [show (f : Int) + 1 - 1 = (f : Int) by omega]; exact IntWalk.i64_in _ (by omega)
        have e3 : (f : Int) + 1 - 1 = (f : Int) := by omega
        have e4 : IntKind.i64.wrap (f : Int) = (f : Int) := IntWalk.i64_in _ (by omega)
        clear hke hfk
        go_wp2_with fail
        go_meet
        exact ⟨rfl, H13⟩
      | false =>
        rw [if_neg (by simp), Nat.add_zero]
        go_wp2_with fail
        go_meet
        exact ⟨rfl, H13⟩
    case rest =>
    obtain ⟨rfl, H12⟩ := hcut
    obtain ⟨w12, rfl⟩ : ∃ w2 : World, w2 = wc := ⟨_, rfl⟩
    have hbb : (th == th) = true := beq_self_eq_true th
    go_upto_region 19 with fail
    have HL0 := Lib.hid (Later.refl w12)
    have ZF0 : Hid (∀ s, w12.heap.size ≤ s → w12.heap.size ≤ s) := Lib.hid (fun _ h => h)
    have ZS0 : Hid (∀ V, Later w12 V → (Later w12) V) := Lib.hid (fun _ h => h)
    refine walk_start 40 (S := Later w12) (T := Later w12) (by kernel_rfl) (fun r => w12.heap.size ≤ r) (fun _ h => h.size) ZS0.out (closed_later _) (Later.refl _).drew ?_
    refine wt 0 129 ?_ (fun V hV => ?_) ?_
    rotate_left 1
    · (clear hV; go_simp; (try with_reducible rfl))
    try simp only [pa, List.set]
    refine wt 1 130 ?_ (fun V hV => ?_) ?_
    rotate_left 1
    · (clear hV; go_simp; (try with_reducible rfl))
    try simp only [pa, List.set]
    refine wt 2 131 ?_ (fun V hV => ?_) ?_
    rotate_left 1
    · (clear hV; go_simp; (try with_reducible rfl))
    try simp only [pa, List.set]
    refine wt 3 132 ?_ (fun V hV => ?_) ?_
    rotate_left 1
    · (clear hV; go_simp; (try with_reducible rfl))
    try simp only [pa, List.set]
    refine wt 4 133 ?_ (fun V hV => ?_) ?_
    rotate_left 1
    · (clear hV; go_simp; (try with_reducible rfl))
    try simp only [pa, List.set]
    refine wt 5 134 ?_ (fun V hV => ?_) ?_
    rotate_left 1
    · (clear hV; go_simp; (try with_reducible rfl))
    try simp only [pa, List.set]
    refine wt 6 135 ?_ (fun V hV => ?_) ?_
    rotate_left 1
    · (clear hV; go_simp; (try with_reducible rfl))
    try simp only [pa, List.set]
    refine wt 7 136 ?_ (fun V hV => ?_) ?_
    rotate_left 1
    · (clear hV; go_simp; (try with_reducible rfl))
    try simp only [pa, List.set]
    refine wt 8 137 ?_ (fun V hV => ?_) ?_
    rotate_left 1
    · (clear hV; go_simp; (try with_reducible rfl))
    try simp only [pa, List.set]
    refine wt 9 138 ?_ (fun V hV => ?_) ?_
    rotate_left 1
    · (obtain ⟨⟨q0, q1, q2, q3⟩, ⟨y0, y1, y2, y3⟩⟩ := SL.out V (H12.out.trans (HL0.out.trans hV)); clear hV; go_simp; (try with_reducible rfl))
    try simp only [pa, List.set]
    refine wt 10 139 ?_ (fun V hV => ?_) ?_
    rotate_left 1
    · (clear hV; go_simp; (try with_reducible rfl))
    try simp only [pa, List.set]
    refine walk_core 11 rfl (by kernel_rfl) (fun _ _ _ _ _ h => h) (fun V hV K hK => ?_)
    have hV0 := HL0.out.trans hV
    go_simp
    go_at_call 48
    refine (CKD.out V (H12.out.trans hV0)).mono ?_
    rintro e x11 ⟨rfl, hb⟩
    have HT11 := Lib.hid (hV.of hb)
    have HL1 := Lib.hid (hV0.of hb)
    have hsize := hb.size
    have hkeep := fun (r : Nat) (_ : True) (h : r < V.heap.size) => hb.block r h
    have ZF1 : Hid (∀ s, x11.heap.size ≤ s → _) := Lib.hid (fun s h => ZF0.out s (Nat.le_trans hV.size (Nat.le_trans hsize h)))
    refine hK.out _ _ (Later x11) (Later x11) _ (fun r _ h => hkeep r trivial h) (fun _ h _ => h) (fun V' h => (hV.of hb).trans h) (fun _ h => h) (fun V' h => ZF1.out _ h.size) (Later.refl _) (closed_later _) ?_
    clear hK K hV hsize hkeep hV0 hb
    try simp only [pa, List.set]
    refine wt 12 141 ?_ (fun V hV => ?_) ?_
    rotate_left 1
    · (clear hV; go_simp; (try with_reducible rfl))
    try simp only [pa, List.set]
    refine wt 13 142 ?_ (fun V hV => ?_) ?_
    rotate_left 1
    · (clear hV; go_simp; (try with_reducible rfl))
    try simp only [pa, List.set]
    refine wt 14 143 ?_ (fun V hV => ?_) ?_
    rotate_left 1
    · (clear hV; go_simp; (try with_reducible rfl))
    try simp only [pa, List.set]
    refine wt 15 144 ?_ (fun V hV => ?_) ?_
    rotate_left 1
    · (obtain ⟨⟨q0, q1, q2, q3⟩, ⟨y0, y1, y2, y3⟩⟩ := SL.out V (H12.out.trans (HL1.out.trans hV)); clear hV; go_simp; (try with_reducible rfl))
    try simp only [pa, List.set]
    refine wt 16 145 ?_ (fun V hV => ?_) ?_
    rotate_left 1
    · (clear hV; go_simp; (try with_reducible rfl))
    try simp only [pa, List.set]
    refine wt 17 146 ?_ (fun V hV => ?_) ?_
    rotate_left 1
    · (clear hV; go_simp; (try with_reducible rfl))
    try simp only [pa, List.set]
    refine wt 19 148 ?_ (fun V hV => ?_) ?_
    rotate_left 1
    · (obtain ⟨⟨q0, q1, q2, q3⟩, ⟨y0, y1, y2, y3⟩⟩ := SL.out V (H12.out.trans (HL1.out.trans hV)); clear hV; go_simp; (try with_reducible rfl))
    try simp only [pa, List.set]
    refine wt 20 149 ?_ (fun V hV => ?_) ?_
    rotate_left 1
    · (clear hV; go_simp; (try with_reducible rfl))
    try simp only [pa, List.set]
    refine wt 21 150 ?_ (fun V hV => ?_) ?_
    rotate_left 1
    · (clear hV; go_simp; (try with_reducible rfl))
    try simp only [pa, List.set]
    refine walk_core 18 rfl (by kernel_rfl) (fun _ _ _ _ _ h => h) (fun V hV K hK => ?_)
    have hV0 := HL1.out.trans hV
    go_simp
    go_at_call 49
    refine (CPT.out V (H12.out.trans hV0)).mono ?_
    rintro e x18 ⟨hb, B1, u1, B2, u2, B3, u3, rfl, hp⟩
    have HP18 := Lib.hid hp
    clear hp
    have HT18 := Lib.hid (hV.of hb)
    have HL2 := Lib.hid (hV0.of hb)
    have hsize := hb.size
    have hkeep := fun (r : Nat) (_ : True) (h : r < V.heap.size) => hb.block r h
    have ZF2 : Hid (∀ s, x18.heap.size ≤ s → _) := Lib.hid (fun s h => ZF1.out s (Nat.le_trans hV.size (Nat.le_trans hsize h)))
    refine hK.out _ _ (Later x18) (Later x18) _ (fun r _ h => hkeep r trivial h) (fun _ h _ => h) (fun V' h => (hV.of hb).trans h) (fun _ h => h) (fun V' h => ZF2.out _ h.size) (Later.refl _) (closed_later _) ?_
    clear hK K hV hsize hkeep hV0 hb
    try simp only [pa, List.set]
    refine walk_core 22 rfl (by kernel_rfl) (fun _ _ _ _ _ h => h) (fun V hV K hK => ?_)
    have hV0 := HL2.out.trans hV
    go_simp
    go_at_call 51
    refine (CRP.out V (H12.out.trans hV0)).mono ?_
    rintro e x22 ⟨hb, D1, v1, D2, v2, D3, v3, rfl, hp⟩
    have HP22 := Lib.hid hp
    clear hp
    have HT22 := Lib.hid (hV.of hb)
    have HL3 := Lib.hid (hV0.of hb)
    have hsize := hb.size
    have hkeep := fun (r : Nat) (_ : True) (h : r < V.heap.size) => hb.block r h
    have ZF3 : Hid (∀ s, x22.heap.size ≤ s → _) := Lib.hid (fun s h => ZF2.out s (Nat.le_trans hV.size (Nat.le_trans hsize h)))
    refine hK.out _ _ (Later x22) (Later x22) _ (fun r _ h => hkeep r trivial h) (fun _ h _ => h) (fun V' h => (hV.of hb).trans h) (fun _ h => h) (fun V' h => ZF3.out _ h.size) (Later.refl _) (closed_later _) ?_
    clear hK K hV hsize hkeep hV0 hb
    try simp only [pa, List.set]
    refine walk_core 23 rfl (by kernel_rfl) (fun _ _ _ _ _ h => h) (fun V hV K hK => ?_)
    have hV0 := HL3.out.trans hV
    go_simp
    go_at_call 45
    refine (CSQ.out V _ _ _ _ _ _ _ _ _ _ _ _ (HP18.out.below (HT22.out.trans hV)) (HP22.out.below hV)).mono ?_
    rintro e x23 ⟨rfl, hb⟩
    have HT23 := Lib.hid (hV.of hb)
    have HL4 := Lib.hid (hV0.of hb)
    have hsize := hb.size
    have hkeep := fun (r : Nat) (_ : True) (h : r < V.heap.size) => hb.block r h
    have ZF4 : Hid (∀ s, x23.heap.size ≤ s → _) := Lib.hid (fun s h => ZF3.out s (Nat.le_trans hV.size (Nat.le_trans hsize h)))
    refine hK.out _ _ (Later x23) (Later x23) _ (fun r _ h => hkeep r trivial h) (fun _ h _ => h) (fun V' h => (hV.of hb).trans h) (fun _ h => h) (fun V' h => ZF4.out _ h.size) (Later.refl _) (closed_later _) ?_
    clear hK K hV hsize hkeep hV0 hb
    try simp only [pa, List.set]
    refine wt 24 153 ?_ (fun V hV => ?_) ?_
    rotate_left 1
    · (clear hV; go_simp; (try with_reducible rfl))
    try simp only [pa, List.set]
    refine wt 25 154 ?_ (fun V hV => ?_) ?_
    rotate_left 1
    · (clear hV; go_simp; (try with_reducible rfl))
    try simp only [pa, List.set]
    refine wt 26 155 ?_ (fun V hV => ?_) ?_
    rotate_left 1
    · (obtain ⟨⟨q0, q1, q2, q3⟩, ⟨y0, y1, y2, y3⟩⟩ := SL.out V (H12.out.trans (HL4.out.trans hV)); clear hV; go_simp; (try with_reducible rfl))
    try simp only [pa, List.set]
    refine wt 27 156 ?_ (fun V hV => ?_) ?_
    rotate_left 1
    · (clear hV; go_simp; (try with_reducible rfl))
    try simp only [pa, List.set]
    refine wt 29 158 ?_ (fun V hV => ?_) ?_
    rotate_left 1
    · (obtain ⟨⟨q0, q1, q2, q3⟩, ⟨y0, y1, y2, y3⟩⟩ := SL.out V (H12.out.trans (HL4.out.trans hV)); clear hV; go_simp; (try with_reducible rfl))
    try simp only [pa, List.set]
    refine wt 30 159 ?_ (fun V hV => ?_) ?_
    rotate_left 1
    · (clear hV; go_simp; (try with_reducible rfl))
    try simp only [pa, List.set]
    refine walk_core 28 rfl (by kernel_rfl) (fun _ _ _ _ _ h => h) (fun V hV K hK => ?_)
    have hV0 := HL4.out.trans hV
    go_simp
    go_at_call 52
    refine (CDP.out V (H12.out.trans hV0)).mono ?_
    rintro e x28 ⟨hb, F1, a1, F2, a2, F3, a3, rfl, hp⟩
    have HP28 := Lib.hid hp
    clear hp
    have HT28 := Lib.hid (hV.of hb)
    have HL5 := Lib.hid (hV0.of hb)
    have hsize := hb.size
    have hkeep := fun (r : Nat) (_ : True) (h : r < V.heap.size) => hb.block r h
    have ZF5 : Hid (∀ s, x28.heap.size ≤ s → _) := Lib.hid (fun s h => ZF4.out s (Nat.le_trans hV.size (Nat.le_trans hsize h)))
    refine hK.out _ _ (Later x28) (Later x28) _ (fun r _ h => hkeep r trivial h) (fun _ h _ => h) (fun V' h => (hV.of hb).trans h) (fun _ h => h) (fun V' h => ZF5.out _ h.size) (Later.refl _) (closed_later _) ?_
    clear hK K hV hsize hkeep hV0 hb
    try simp only [pa, List.set]
    refine walk_core 31 rfl (by kernel_rfl) (fun _ _ _ _ _ h => h) (fun V hV K hK => ?_)
    have hV0 := HL5.out.trans hV
    go_simp
    go_at_call 53
    refine (CRD.out V (H12.out.trans hV0)).mono ?_
    rintro e x31 ⟨hb, G1, b1, G2, b2, G3, b3, rfl, hp⟩
    have HP31 := Lib.hid hp
    clear hp
    have HT31 := Lib.hid (hV.of hb)
    have HL6 := Lib.hid (hV0.of hb)
    have hsize := hb.size
    have hkeep := fun (r : Nat) (_ : True) (h : r < V.heap.size) => hb.block r h
    have ZF6 : Hid (∀ s, x31.heap.size ≤ s → _) := Lib.hid (fun s h => ZF5.out s (Nat.le_trans hV.size (Nat.le_trans hsize h)))
    refine hK.out _ _ (Later x31) (Later x31) _ (fun r _ h => hkeep r trivial h) (fun _ h _ => h) (fun V' h => (hV.of hb).trans h) (fun _ h => h) (fun V' h => ZF6.out _ h.size) (Later.refl _) (closed_later _) ?_
    clear hK K hV hsize hkeep hV0 hb
    try simp only [pa, List.set]
    refine walk_core 32 rfl (by kernel_rfl) (fun _ _ _ _ _ h => h) (fun V hV K hK => ?_)
    have hV0 := HL6.out.trans hV
    go_simp
    go_at_call 45
    refine (CSR.out V _ _ _ _ _ _ _ _ _ _ _ _ (HP28.out.below (HT31.out.trans hV)) (HP31.out.below hV)).mono ?_
    rintro e x32 ⟨rfl, hb⟩
    have HT32 := Lib.hid (hV.of hb)
    have HL7 := Lib.hid (hV0.of hb)
    have hsize := hb.size
    have hkeep := fun (r : Nat) (_ : True) (h : r < V.heap.size) => hb.block r h
    have ZF7 : Hid (∀ s, x32.heap.size ≤ s → _) := Lib.hid (fun s h => ZF6.out s (Nat.le_trans hV.size (Nat.le_trans hsize h)))
    refine hK.out _ _ (Later x32) (Later x32) _ (fun r _ h => hkeep r trivial h) (fun _ h _ => h) (fun V' h => (hV.of hb).trans h) (fun _ h => h) (fun V' h => ZF7.out _ h.size) (Later.refl _) (closed_later _) ?_
    clear hK K hV hsize hkeep hV0 hb
    try simp only [pa, List.set]
    refine wt 33 162 ?_ (fun V hV => ?_) ?_
    rotate_left 1
    · (clear hV; go_simp; (try with_reducible rfl))
    try simp only [pa, List.set]
    refine wt 34 163 ?_ (fun V hV => ?_) ?_
    rotate_left 1
    · (clear hV; go_simp; (try with_reducible rfl))
    try simp only [pa, List.set]
    refine wt 35 164 ?_ (fun V hV => ?_) ?_
    rotate_left 1
    · (obtain ⟨⟨q0, q1, q2, q3⟩, ⟨y0, y1, y2, y3⟩⟩ := SL.out V (H12.out.trans (HL7.out.trans hV)); clear hV; go_simp; (try with_reducible rfl))
    try simp only [pa, List.set]
    refine wt 36 165 ?_ (fun V hV => ?_) ?_
    rotate_left 1
    · (obtain ⟨⟨q0, q1, q2, q3⟩, ⟨y0, y1, y2, y3⟩⟩ := SL.out V (H12.out.trans (HL7.out.trans hV)); clear hV; go_simp; (try with_reducible rfl))
    try simp only [pa, List.set]
    refine walk_core 37 rfl (by kernel_rfl) (fun _ _ _ _ _ h => h) (fun V hV K hK => ?_)
    have hV0 := HL7.out.trans hV
    go_simp
    go_at_call 45
    refine (CSA.out V _ _ _ _ _ _ _ _ _ _ _ _ HSS.out.few (HPF.out.below (H12.out.trans hV0)) (HQF.out.below (H12.out.trans hV0))).mono ?_
    rintro e x37 ⟨rfl, hb⟩
    have HT37 := Lib.hid (hV.of hb)
    have HL8 := Lib.hid (hV0.of hb)
    have hsize := hb.size
    have hkeep := fun (r : Nat) (_ : True) (h : r < V.heap.size) => hb.block r h
    have ZF8 : Hid (∀ s, x37.heap.size ≤ s → _) := Lib.hid (fun s h => ZF7.out s (Nat.le_trans hV.size (Nat.le_trans hsize h)))
    refine hK.out _ _ (Later x37) (Later x37) _ (fun r _ h => hkeep r trivial h) (fun _ h _ => h) (fun V' h => (hV.of hb).trans h) (fun _ h => h) (fun V' h => ZF8.out _ h.size) (Later.refl _) (closed_later _) ?_
    clear hK K hV hsize hkeep hV0 hb
    try simp only [pa, List.set]
    refine wt 38 167 ?_ (fun V hV => ?_) ?_
    rotate_left 1
    · (clear hV; go_simp; (try with_reducible rfl))
    try simp only [pa, List.set]
    refine wt 39 6 ?_ (fun V hV => ?_) ?_
    rotate_left 1
    · (clear hV; go_simp; (try with_reducible rfl))
    try simp only [pa, List.set]
    refine walk_exit (fun V hV => wpAnyJ_done (by kernel_rfl) ?_ _)
    have hV0 := HL8.out.trans hV
    have HZ : Hid (Below w.heap.size w V) := Lib.hid (HB0.out.trans ((show Below _ _ _ from H9.out.trans (HJ.out.trans (H12.out.trans hV0))).mono HB0.out.size))
    clear hV hV0
    go_wp2_with fail
    go_ret
    exact ⟨rfl, HZ.out⟩
end
end Go.Proofs.Ytlbikfamjogpnaa
end

/- A page that came in as an argument, opened. Conditions: none. -/
section
namespace Go.Proofs.Ytlbikfamjogpnaa
open Go.ChangeShapes Go.WideShapes Go.Deep Go.RowKit Go.Proofs.YtlbikfamjogpnaaW.PrintWords

section
variable {H : Type} {enc : TypeId × Value → H} {P : Program} {W : World} {base : Nat} {spare : Nat → Bool} {held : Bool}
theorem bool_cell {t : TypeId} (ht : P.underlying t = some .bool) {fuel : Nat} {c : Value} {x : DataW H × List MemPlace} (h : DataW.trod enc P W base spare held fuel t [c] = some x) : ∃ b, c = .bool b := by
  cases fuel with
  | zero => simp [DataW.trod] at h
  | succ k =>
    simp only [DataW.trod, ht] at h
    cases c <;> simp_all

end
theorem strs_C {w : World} {A : Option Addr} {n c : Nat} {zs : List ByteArray} (h : Strs w A n c zs) : n = zs.length ∧ zs.length ≤ c ∧ Kd.C Kd.string w A zs.length zs := by
  obtain ⟨⟨-, hr, h1, h2⟩, hl, -⟩ := h
  subst hl
  refine ⟨rfl, h1, ?_⟩
  exact C_of_reads (h1 := fun _ => rfl) hr (by unfold maxLen at h2; omega)
theorem ints_C {w : World} {A : Option Addr} {n c : Nat} {zs : List Int} (h : Ints .u64 w A n c zs) : n = zs.length ∧ zs.length ≤ c ∧ Kd.C (Kd.int .u64) w A zs.length zs ∧ Nums zs := by
  obtain ⟨⟨-, hr, h1, h2⟩, hl, hw⟩ := h
  subst hl
  refine ⟨rfl, h1, C_of_reads (h1 := fun _ => rfl) hr (by unfold maxLen at h2; omega), fun z hz => ?_⟩
  have := Go.bounds_u64 (hw z hz)
  omega
section
variable {H : Type} {enc : TypeId × Value → H} {W : World} {base : Nat} {spare : Nat → Bool} {held : Bool}
/-- What an opened page's argument tells. -/
structure PgIn (w : World) (A1 : Option Addr) (c1 : Nat) (A2 : Option Addr) (c2 : Nat) (A3 : Option Addr) (c3 : Nat) (lf : Bool) (ks vs : List ByteArray) (ns : List Int) : Prop where
  r : PgR w A1 c1 A2 c2 A3 c3 ⟨lf, ks, vs, ns⟩
  n : Nums ns
  ks : ∀ v ∈ ks, v.size ≤ maxLen
  vs : ∀ v ∈ vs, v.size ≤ maxLen
theorem cB : Try.prog.cellsOf 4 = 1 := by kernel_rfl
theorem cS : Try.prog.cellsOf 64 = 1 := by kernel_rfl
theorem cU : Try.prog.cellsOf 65 = 1 := by kernel_rfl
theorem cs : Try.prog.cellsOf 9 = 1 := by kernel_rfl
theorem cu : Try.prog.cellsOf 32 = 1 := by kernel_rfl
theorem cP : Try.prog.cellsOf 67 = 4 := by kernel_rfl
set_option maxRecDepth 100000 in
theorem open_page {fuel : Nat} {v0 v1 v2 v3 : Value} {x : DataW H × List MemPlace} (hs : ∀ b, spare b = true) (h : DataW.trod enc Try.prog W base spare held fuel 67 [v0, v1, v2, v3] = some x) :
    ∃ lf A1 c1 A2 c2 A3 c3 ks vs ns, (Value.agg #[v0, v1, v2, v3]) = .agg #[.bool lf, .slice A1 ks.length c1, .slice A2 vs.length c2, .slice A3 ns.length c3] ∧ PgIn W A1 c1 A2 c2 A3 c3 lf ks vs ns := by
  obtain ⟨y0, y1, y2, y3, n, rfl, -, h0, h1, h2, h3⟩ := Go.Joins.trod_struct4 Try.underlying67 h
  replace h0 : DataW.trod enc Try.prog W base spare held n 4 [v0] = some y0 := by simpa [cB] using h0
  replace h1 : DataW.trod enc Try.prog W base spare held n 64 [v1] = some y1 := by simpa [cS] using h1
  replace h2 : DataW.trod enc Try.prog W base spare held n 64 [v2] = some y2 := by simpa [cS] using h2
  replace h3 : DataW.trod enc Try.prog W base spare held n 65 [v3] = some y3 := by simpa [cU] using h3
  obtain ⟨lf, rfl⟩ := bool_cell (P := Try.prog) (t := 4) Try.underlying4 h0
  obtain ⟨A1, n1, c1, ks, rfl, s1⟩ := open_strs_gen (P := Try.prog) (t := 64) Try.underlying64 Try.underlying9 cs hs h1
  obtain ⟨A2, n2, c2, vs, rfl, s2⟩ := open_strs_gen (P := Try.prog) (t := 64) Try.underlying64 Try.underlying9 cs hs h2
  obtain ⟨A3, n3, c3, ns, rfl, s3⟩ := open_ints_gen (P := Try.prog) (k := .u64) (t := 65) Try.underlying65 Try.underlying32 cu hs h3
  obtain ⟨rfl, k1, k2⟩ := strs_C s1
  obtain ⟨rfl, k3, k4⟩ := strs_C s2
  obtain ⟨rfl, k5, k6, k7⟩ := ints_C s3
  exact ⟨lf, A1, c1, A2, c2, A3, c3, ks, vs, ns, rfl, ⟨k2, k1, k4, k3, k6, k5⟩, k7, s1.2.2, s2.2.2⟩
end
end Go.Proofs.Ytlbikfamjogpnaa
end
