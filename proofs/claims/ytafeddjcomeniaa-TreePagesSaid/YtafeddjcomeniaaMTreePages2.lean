/- The texts of this proof, joined: contracts of the functions that the law reaches, and what they come to in plain Lean. Conditions: those that each theorem names. -/
import Derived.Test.YtafeddjcomeniaaMTreePages1
import Derived.Test.YtafeddjcomeniaaMTreePages0
import Derived.RangeFuncOwn
import Derived.RangeFuncNested
import Derived.RangeFuncBound
import Derived.RangeFuncCalls
import Derived.RangeFuncLeaves
import Derived.Shelf.RegionOpen
import Derived.WalkKit
import Derived.OwnWalkIn
import Derived.TacticsInMore
import Derived.LoopNIn
import Derived.LoopIn
import Derived.OrdersIn
import Derived.RangeFuncWrites
import Derived.Deep.CutRange

/- page.Split of a branch, and of any page that is great. Conditions: the page reads in memory; it may be, and has few keys. -/
section
namespace Go.Proofs.Ytafeddjcomeniaa
open Go.RowKit
set_option linter.unusedVariables false
set_option linter.unusedSimpArgs false

section
variable {w : World} {A1 A2 A3 : Option Addr} {c1 c2 c3 : Nat} {ks vs : List ByteArray} {ns : List Int}
set_option maxRecDepth 100000 in
set_option maxHeartbeats 8000000 in
theorem split_branch (h : PgA w A1 c1 A2 c2 A3 c3 ⟨false, ks, vs, ns⟩) (hs : Ok ⟨false, ks, vs, ns⟩) (h2 : 3 ≤ ks.length) :
    Calls Try.prog 61 #[.agg (pgc A1 c1 A2 c2 A3 c3 ⟨false, ks, vs, ns⟩)] w (SplitPost w (brA ks ns) (brB ks ns) (ks.getD (ks.length / 2) ByteArray.empty)) := by
  have hn0 : ks.length ≤ 1000 := hs.few
  have hv : ns.length = ks.length + 1 := by
    rcases good_shape hs.good with ⟨e, _⟩ | ⟨_, _, a⟩
    · cases e
    · exact a
  have hf := good_few hs
  unfold pgc
  dsimp only at *
  obtain ⟨W0, hW0⟩ : ∃ W0, W0 = w.alloc (.cells #[.bool false, .slice A1 ks.length c1, .slice A2 vs.length c2, .slice A3 ns.length c3] 54) := ⟨_, rfl⟩
  obtain ⟨W1, hW1⟩ : ∃ W1, W1 = W0.alloc (.cells #[.bool false, .slice none 0 0, .slice none 0 0, .slice none 0 0] 54) := ⟨_, rfl⟩
  obtain ⟨W2, hW2⟩ : ∃ W2, W2 = W1.alloc (.cells #[.bool false, .slice none 0 0, .slice none 0 0, .slice none 0 0] 54) := ⟨_, rfl⟩
  have hs0 : W0.heap.size = w.heap.size + 1 := by rw [hW0]; simp
  have hs1 : W1.heap.size = w.heap.size + 2 := by rw [hW1]; simp [hs0]
  have hs2 : W2.heap.size = w.heap.size + 3 := by rw [hW2]; simp [hs1]
  have hb2 : Below w.heap.size w W2 := by rw [hW2, hW1, hW0]; exact ((below_new _ _).alloc (by simp) _).alloc (by simp; omega) _
  have kp : Blk W2 w.heap.size 54 #[.bool false, .slice A1 ks.length c1, .slice A2 vs.length c2, .slice A3 ns.length c3] := by rw [hW2, hW1, hW0]; exact ((Blk.new _ _ _).alloc _).alloc _
  have kx : Blk W2 (w.heap.size + 1) 54 #[.bool false, .slice none 0 0, .slice none 0 0, .slice none 0 0] := by rw [hW2, hW1, ← hs0]; exact (Blk.new _ _ _).alloc _
  have ky : Blk W2 (w.heap.size + 2) 54 #[.bool false, .slice none 0 0, .slice none 0 0, .slice none 0 0] := by rw [hW2, ← hs1]; exact Blk.new _ _ _
  have HC := clone_own (h.sm (Sm.below hb2)) (show ks.length ≤ 1001 ∧ vs.length ≤ 1001 ∧ ns.length ≤ 1001 by omega)
  unfold pgc at HC
  dsimp only at HC
  have HC := Lib.hid HC
  obtain ⟨q0, q1, q2, q3⟩ := cells4 kp
  have HKP := Lib.hid kp
  have HKX := Lib.hid kx
  have HKY := Lib.hid ky
  have HB2 := Lib.hid hb2
  have HS2 := Lib.hid hs2
  have HV := Lib.hid hv
  have HW0 := Lib.hid hW0
  have HW1 := Lib.hid hW1
  have HW2 := Lib.hid hW2
  have t1 : decide ((ks.length : Int) < 3) = false := decide_eq_false (by omega)
  have t2 : decide (ks.length < 3) = false := decide_eq_false (by omega)
  clear h hs hf hW0 hW1 hW2 hb2 hs0 hs1 hs2 kp kx ky hv
  go_enter Try.func61, Try.ntmps61
  go_upto_region 1 with fail
  rw [← HW0.out, ← HW1.out, ← HW2.out]
  go_wp2_with fail
  refine HC.out.mono ?_
  rintro e w3 ⟨hb3, v1, v2, v3, rfl, ho3⟩
  have kp3 := HKP.out.below hb3 HKP.out.lt
  have kx3 := HKX.out.below hb3 HKX.out.lt
  have ky3 := HKY.out.below hb3 HKY.out.lt
  have u := upd4 kp3 (.bool false) v1 v2 v3
  obtain ⟨W4, hW4⟩ : ∃ W4, W4 = (((w3.setCell ⟨w.heap.size, 0, none⟩ (.bool false)).setCell ⟨w.heap.size, 1, none⟩ v1).setCell ⟨w.heap.size, 2, none⟩ v2).setCell ⟨w.heap.size, 3, none⟩ v3 := ⟨_, rfl⟩
  rw [← hW4] at u
  obtain ⟨B1, d1, B2, d2, B3, d3, e1, e2, e3, hp4⟩ := (ho3.upd u kp3 (by decide) (by decide)).rows
  subst e1 e2 e3
  have kp4 := u.blk
  have kx4 := u.far kx3 (show w.heap.size + 1 ≠ w.heap.size by omega)
  have ky4 := u.far ky3 (show w.heap.size + 2 ≠ w.heap.size by omega)
  have hb4 : Below w.heap.size w W4 := u.below (HB2.out.trans (hb3.mono HB2.out.size)) (Nat.le_refl _) (Nat.le_refl _)
  have hs4 : w.heap.size + 3 ≤ W4.heap.size := by rw [u.size]; have := hb3.size; rw [HS2.out] at this; omega
  obtain ⟨q0, q1, q2, q3⟩ := cells4 kp3
  obtain ⟨f0, f1, f2, f3⟩ := frozen4 kp3
  obtain ⟨r0, r1, r2, r3⟩ := cells4 kp4
  have HP4 := Lib.hid hp4
  have HKP4 := Lib.hid kp4
  have HKX4 := Lib.hid kx4
  have HKY4 := Lib.hid ky4
  have HB4 := Lib.hid hb4
  have HS4 := Lib.hid hs4
  have HW4 := Lib.hid hW4
  clear hW4 kp3 kx3 ky3 ho3 hp4 kp4 kx4 ky4 hb4 hs4 hb3 u HC HKP HKX HKY HB2 HW0 HW1 HW2
  go_upto_region 6 with fail
  rw [← HW4.out]
  clear HW4 q0 q1 q2 q3 f0 f1 f2 f3
  obtain ⟨m, hm⟩ : ∃ m, m = ks.length / 2 := ⟨_, rfl⟩
  have e2 : (ks.length : Int) / 2 = (m : Int) := by omega
  rw [e2]
  clear e2
  have HM := Lib.hid hm
  have hp := HP4.out
  have hv := HV.out
  have hk1 : ks.length ≤ d1 := hp.k.le
  have hk3 : ns.length ≤ d3 := hp.n.le
  have hm1 : m + 1 ≤ ks.length := by omega
  have em : ((m : Int) + 1) = ((m + 1 : Nat) : Int) := by omega
  have y1 : (ks.take m).length = m := by rw [List.length_take]; omega
  have y2 : (ns.take (m + 1)).length = m + 1 := by rw [List.length_take]; omega
  have y3 : (ks.drop (m + 1)).length = ks.length - (m + 1) := List.length_drop
  have y4 : (ns.drop (m + 1)).length = ns.length - (m + 1) := List.length_drop
  have r1 := cut_j (P := Try.prog) Try.underlying52 sz_str B1 (n := ks.length) (show m ≤ d1 by omega)
  have r2 := cut_j (P := Try.prog) Try.underlying39 sz_u64 B3 (n := ns.length) (show m + 1 ≤ d3 by omega)
  have r3 := cut_i (P := Try.prog) Try.underlying52 sz_str B1 (c := d1) (show m + 1 ≤ ks.length by omega)
  have r4 := cut_i (P := Try.prog) Try.underlying39 sz_u64 B3 (c := d3) (show m + 1 ≤ ns.length by omega)
  rw [← em] at r2 r3 r4
  have hap : PgA W4 B1 m none 0 B3 (m + 1) (brA ks ns) := by unfold brA; rw [← hm]; exact ⟨hp.k.take m (Nat.le_refl _) (by have := hp.k.cap; omega), Row.nil _ _ (Nat.zero_le _), hp.n.take (m + 1) (Nat.le_refl _) (by have := hp.n.cap; omega)⟩
  have hbp : PgA W4 (cutA B1 (m + 1) d1) (d1 - (m + 1)) none 0 (cutA B3 (m + 1) d3) (d3 - (m + 1)) (brB ks ns) := by unfold brB; rw [← hm]; exact ⟨hp.k.drop (by show m + 1 ≤ ks.length; omega), Row.nil _ _ (Nat.zero_le _), hp.n.drop (by show m + 1 ≤ ns.length; omega)⟩
  obtain ⟨⟨kb, ko, sp⟩, had, hsp, ⟨cs2, hbk⟩, hcell⟩ := hp.k.get (i := m) (getD_some ByteArray.empty (show m < ks.length by omega))
  obtain rfl : sp = none := hsp
  subst had
  rw [Addr.add_lit] at hcell
  generalize cutA (some ⟨kb, ko, none⟩) (m + 1) d1 = Ab at *
  generalize cutA B3 (m + 1) d3 = Ad at *
  have HAP := Lib.hid hap
  have HBP := Lib.hid hbp
  have HAL : Hid ((brA ks ns).keys.length = m ∧ (brA ks ns).kids.length = m + 1) := Lib.hid (by unfold brA; rw [← hm]; exact ⟨y1, y2⟩)
  have HBL : Hid ((brB ks ns).keys.length = ks.length - (m + 1) ∧ (brB ks ns).kids.length = ns.length - (m + 1)) := Lib.hid (by unfold brB; rw [← hm]; exact ⟨y3, y4⟩)
  have HKC := Lib.hid hcell
  have HBK := Lib.hid hbk
  generalize ks.length - (m + 1) = k1 at *
  generalize ns.length - (m + 1) = k2 at *
  generalize d1 - (m + 1) = kc1 at *
  generalize d3 - (m + 1) = kc2 at *
  have SF : Hid (∀ V, Later W4 V → V.cell? ⟨w.heap.size, 0, none⟩ = some (.bool false) ∧ V.cell? ⟨w.heap.size, 1, none⟩ = some (.slice (some ⟨kb, ko, none⟩) ks.length d1) ∧ V.cell? ⟨w.heap.size, 2, none⟩ = some (.slice B2 vs.length d2) ∧ V.cell? ⟨w.heap.size, 3, none⟩ = some (.slice B3 ns.length d3)) := Lib.hid fun V hV => cells4 (HKP4.out.below hV HKP4.out.lt)
  have i5 : (m : Int) < (ks.length : Int) := by omega
  have i6 : (0 : Int) ≤ (m : Int) := by omega
  have HN0 := Lib.hid hn0
  clear hp hv hk1 hk3 y1 y2 y3 y4 hap hbp hcell hbk hm h2 hm1 em
  go_upto_region 13 with fail
  clear r0 t1 t2
  have ew : IntKind.i64.wrap ((m : Int) + 1) = (m : Int) + 1 := IntWalk.i64_in _ (by omega)
  have HL0 := Lib.hid (Later.refl W4)
  have ZF0 : Hid (∀ s, W4.heap.size ≤ s → W4.heap.size ≤ s) := Lib.hid (fun _ h => h)
  have ZS0 : Hid (∀ V, Later W4 V → (Later W4) V) := Lib.hid (fun _ h => h)
  refine walk_start 14 (S := Later W4) (T := Later W4) (by kernel_rfl) (fun r => W4.heap.size ≤ r) (fun _ h => h.size) ZS0.out (closed_later _) (Later.refl _).drew ?_
  refine wt 0 75 ?_ (fun V hV => ?_) ?_
  rotate_left 1
  · (clear hV; go_simp; (try with_reducible rfl))
  try simp only [pa, List.set]
  refine wt 1 76 ?_ (fun V hV => ?_) ?_
  rotate_left 1
  · (obtain ⟨q0, q1, q2, q3⟩ := SF.out V ((HL0.out.trans hV)); clear hV; go_simp; (try with_reducible rfl))
  try simp only [pa, List.set]
  refine wt 2 77 ?_ (fun V hV => ?_) ?_
  rotate_left 1
  · (clear hV; go_simp; (try with_reducible rfl))
  try simp only [pa, List.set]
  refine wt 3 78 ?_ (fun V hV => ?_) ?_
  rotate_left 1
  · (clear hV; go_simp; (try with_reducible rfl))
  try simp only [pa, List.set]
  refine wt 4 79 ?_ (fun V hV => ?_) ?_
  rotate_left 1
  · (clear hV; go_simp; (try with_reducible rfl))
  try simp only [pa, List.set]
  refine wt 5 80 ?_ (fun V hV => ?_) ?_
  rotate_left 1
  · (clear hV; go_simp; (try with_reducible rfl))
  try simp only [pa, List.set]
  refine wt 6 81 ?_ (fun V hV => ?_) ?_
  rotate_left 1
  · (obtain ⟨q0, q1, q2, q3⟩ := SF.out V ((HL0.out.trans hV)); clear hV; go_simp; (try with_reducible rfl))
  try simp only [pa, List.set]
  refine wt 7 82 ?_ (fun V hV => ?_) ?_
  rotate_left 1
  · (clear hV; go_simp; (try with_reducible rfl))
  try simp only [pa, List.set]
  refine wt 8 83 ?_ (fun V hV => ?_) ?_
  rotate_left 1
  · (clear hV; go_simp; (try with_reducible rfl))
  try simp only [pa, List.set]
  refine wt 9 84 ?_ (fun V hV => ?_) ?_
  rotate_left 1
  · (clear hV; go_simp; (try with_reducible rfl))
  try simp only [pa, List.set]
  refine wt 10 85 ?_ (fun V hV => ?_) ?_
  rotate_left 1
  · (clear hV; go_simp; (try with_reducible rfl))
  try simp only [pa, List.set]
  refine wt 11 86 ?_ (fun V hV => ?_) ?_
  rotate_left 1
  · (clear hV; go_simp; (try with_reducible rfl))
  try simp only [pa, List.set]
  refine wt 12 87 ?_ (fun V hV => ?_) ?_
  rotate_left 1
  · (clear hV; go_simp; (try with_reducible rfl))
  try simp only [pa, List.set]
  refine walk_pend ⟨13, 9, (.cells #[.bool false, .slice none 0 0, .slice none 0 0, .slice none 0 0] 54), fun r => .pointer (some ⟨r, 0, none⟩)⟩ ⟨_, rfl, rfl, rfl, fun W => ?_⟩ ?_
  · (go_simp; (try with_reducible rfl))
  refine walk_force (by kernel_rfl) (by kernel_rfl) (by kernel_rfl) (by kernel_rfl) (fun r13 x13 hV hr13 hB13 => ?_)
  have lt13 : r13 < x13.heap.size := (Array.getElem?_eq_some_iff.1 hr13).1
  have HL1 := Lib.hid (HL0.out.trans hV)
  have ZF1 : Hid (∀ s, x13.heap.size ≤ s → _ ∧ s ≠ r13) := Lib.hid (fun s h => ⟨ZF0.out s (Nat.le_trans hV.size h), Nat.ne_of_gt (Nat.lt_of_lt_of_le lt13 h)⟩)
  refine ⟨Later x13, Later x13, Later.refl _, fun V' h => hV.trans h, fun _ h => h, fun V' h => ZF0.out _ (Nat.le_trans hV.size h.size), fun V' h => Nat.lt_of_lt_of_le lt13 h.size, closed_later _, ?_⟩
  try simp only [pa, List.set]
  have HT13 := Lib.hid hV
  clear hV
  refine walk_exit (fun V hV => ?_)
  have hV0 := HL1.out.trans hV
  try simp only [pa, List.set]
  have kr : Blk V r13 54 #[.bool false, .slice none 0 0, .slice none 0 0, .slice none 0 0] := Blk.below (show Blk x13 r13 54 #[.bool false, .slice none 0 0, .slice none 0 0, .slice none 0 0] from hr13) hV lt13
  have hge : W4.heap.size ≤ r13 := hB13
  have u5 := upd4 kr (.bool false) (.slice (some ⟨kb, ko, none⟩) m m) (.slice none 0 0) (.slice B3 (m + 1) (m + 1))
  obtain ⟨W5, hW5⟩ : ∃ W5, W5 = (((V.setCell ⟨r13, 0, none⟩ (.bool false)).setCell ⟨r13, 1, none⟩ (.slice (some ⟨kb, ko, none⟩) m m)).setCell ⟨r13, 2, none⟩ (.slice none 0 0)).setCell ⟨r13, 3, none⟩ (.slice B3 (m + 1) (m + 1)) := ⟨_, rfl⟩
  rw [← hW5] at u5
  have HL45 : Hid (Later W4 W5) := Lib.hid (u5.below (show Below _ _ _ from hV0) hge (Nat.le_refl _))
  have HKR := Lib.hid u5.blk
  have HGE := Lib.hid hge
  obtain ⟨z0, z1, z2, z3⟩ := cells4 kr
  obtain ⟨f0, f1, f2, f3⟩ := frozen4 kr
  have HW5 := Lib.hid hW5
  clear kr hge u5 hW5 hV hV0 HL0 r1 r2
  refine wpAnyJ_one (i := 14) (by kernel_rfl) rfl (fun K hK => ?_)
  simp only [List.getElem_toArray, List.getElem_cons_succ, List.getElem_cons_zero]
  go_simp
  refine hK.out _ _ (fun h _ => absurd rfl h) ?_
  clear hK K
  try simp only [pa, List.set]
  refine wpAnyJ_done (by kernel_rfl) ?_ _
  rw [← HW5.out]
  clear z0 z1 z2 z3 f0 f1 f2 f3
  generalize r13 = r at *
  go_upto_region 14 with fail
  have ew : IntKind.i64.wrap ((m : Int) + 1) = (m : Int) + 1 := IntWalk.i64_in _ (by have := HN0.out; omega)
  have HL0 := Lib.hid (Later.refl W5)
  have ZF0 : Hid (∀ s, W5.heap.size ≤ s → W5.heap.size ≤ s) := Lib.hid (fun _ h => h)
  have ZS0 : Hid (∀ V, Later W5 V → (Later W5) V) := Lib.hid (fun _ h => h)
  refine walk_start 12 (S := Later W5) (T := Later W5) (by kernel_rfl) (fun r => W5.heap.size ≤ r) (fun _ h => h.size) ZS0.out (closed_later _) (Later.refl _).drew ?_
  refine wt 0 88 ?_ (fun V hV => ?_) ?_
  rotate_left 1
  · (clear hV; go_simp; (try with_reducible rfl))
  try simp only [pa, List.set]
  refine wt 1 89 ?_ (fun V hV => ?_) ?_
  rotate_left 1
  · (obtain ⟨q0, q1, q2, q3⟩ := SF.out V (HL45.out.trans (HL0.out.trans hV)); clear hV; go_simp; (try with_reducible rfl))
  try simp only [pa, List.set]
  refine wt 2 90 ?_ (fun V hV => ?_) ?_
  rotate_left 1
  · (clear hV; go_simp; (try with_reducible rfl))
  try simp only [pa, List.set]
  refine wt 3 91 ?_ (fun V hV => ?_) ?_
  rotate_left 1
  · (clear hV; go_simp; (try with_reducible rfl))
  try simp only [pa, List.set]
  refine wt 4 92 ?_ (fun V hV => ?_) ?_
  rotate_left 1
  · (clear hV; go_simp; (try with_reducible rfl))
  try simp only [pa, List.set]
  refine wt 5 93 ?_ (fun V hV => ?_) ?_
  rotate_left 1
  · (clear hV; go_simp; (try with_reducible rfl))
  try simp only [pa, List.set]
  refine wt 6 94 ?_ (fun V hV => ?_) ?_
  rotate_left 1
  · (obtain ⟨q0, q1, q2, q3⟩ := SF.out V (HL45.out.trans (HL0.out.trans hV)); clear hV; go_simp; (try with_reducible rfl))
  try simp only [pa, List.set]
  refine wt 7 95 ?_ (fun V hV => ?_) ?_
  rotate_left 1
  · (clear hV; go_simp; (try with_reducible rfl))
  try simp only [pa, List.set]
  refine wt 8 96 ?_ (fun V hV => ?_) ?_
  rotate_left 1
  · (clear hV; go_simp; (try with_reducible rfl))
  try simp only [pa, List.set]
  refine wt 9 97 ?_ (fun V hV => ?_) ?_
  rotate_left 1
  · (clear hV; go_simp; (try with_reducible rfl))
  try simp only [pa, List.set]
  refine wt 10 98 ?_ (fun V hV => ?_) ?_
  rotate_left 1
  · (clear hV; go_simp; (try with_reducible rfl))
  try simp only [pa, List.set]
  refine walk_pend ⟨11, 10, (.cells #[.bool false, .slice none 0 0, .slice none 0 0, .slice none 0 0] 54), fun r => .pointer (some ⟨r, 0, none⟩)⟩ ⟨_, rfl, rfl, rfl, fun W => ?_⟩ ?_
  · (go_simp; (try with_reducible rfl))
  refine walk_force (by kernel_rfl) (by kernel_rfl) (by kernel_rfl) (by kernel_rfl) (fun r11 x11 hV hr11 hB11 => ?_)
  have lt11 : r11 < x11.heap.size := (Array.getElem?_eq_some_iff.1 hr11).1
  have HL1 := Lib.hid (HL0.out.trans hV)
  have ZF1 : Hid (∀ s, x11.heap.size ≤ s → _ ∧ s ≠ r11) := Lib.hid (fun s h => ⟨ZF0.out s (Nat.le_trans hV.size h), Nat.ne_of_gt (Nat.lt_of_lt_of_le lt11 h)⟩)
  refine ⟨Later x11, Later x11, Later.refl _, fun V' h => hV.trans h, fun _ h => h, fun V' h => ZF0.out _ (Nat.le_trans hV.size h.size), fun V' h => Nat.lt_of_lt_of_le lt11 h.size, closed_later _, ?_⟩
  try simp only [pa, List.set]
  have HT11 := Lib.hid hV
  clear hV
  refine walk_exit (fun V hV => ?_)
  have hV0 := HL1.out.trans hV
  try simp only [pa, List.set]
  have kr : Blk V r11 54 #[.bool false, .slice none 0 0, .slice none 0 0, .slice none 0 0] := Blk.below (show Blk x11 r11 54 #[.bool false, .slice none 0 0, .slice none 0 0, .slice none 0 0] from hr11) hV lt11
  have hge : W5.heap.size ≤ r11 := hB11
  have u6 := upd4 kr (.bool false) (.slice Ab k1 kc1) (.slice none 0 0) (.slice Ad k2 kc2)
  obtain ⟨W6, hW6⟩ : ∃ W6, W6 = (((V.setCell ⟨r11, 0, none⟩ (.bool false)).setCell ⟨r11, 1, none⟩ (.slice Ab k1 kc1)).setCell ⟨r11, 2, none⟩ (.slice none 0 0)).setCell ⟨r11, 3, none⟩ (.slice Ad k2 kc2) := ⟨_, rfl⟩
  rw [← hW6] at u6
  have hl56 : Later W5 W6 := u6.below (show Below _ _ _ from hV0) hge (Nat.le_refl _)
  have hl46 : Later W4 W6 := HL45.out.trans hl56
  have hm6 : Sm W4 W6 := Sm.later hl46
  have ks6 := u6.blk
  have kr6 := HKR.out.below hl56 HKR.out.lt
  have kx6 := HKX4.out.below hl46 HKX4.out.lt
  have ky6 := HKY4.out.below hl46 HKY4.out.lt
  have hbk6 := (hm6 kb cs2).1 HBK.out
  have hc6 := HKC.out W6 (fun g cs => (hm6 g cs).1)
  have h4 := HS4.out
  have h5 := (show Below _ _ _ from HL45.out).size
  have h6 := HGE.out
  have nr1 : w.heap.size + 1 ≠ r := by omega
  have nr2 : w.heap.size + 2 ≠ r := by omega
  have ns1 : w.heap.size + 1 ≠ r11 := by omega
  have ns2 : w.heap.size + 2 ≠ r11 := by omega
  have np2 : w.heap.size + 2 ≠ w.heap.size := by omega
  have np3 : w.heap.size ≠ w.heap.size + 1 + 1 := by omega
  have na1 : w.heap.size + 1 ≠ kb := fun e => by rw [← e] at hbk6; exact kx6.ne_ hbk6 (by decide) rfl
  have na2 : w.heap.size + 2 ≠ kb := fun e => by rw [← e] at hbk6; exact ky6.ne_ hbk6 (by decide) rfl
  have u9 := upd4 kx6 (.bool false) (.slice (some ⟨kb, ko, none⟩) m m) (.slice none 0 0) (.slice B3 (m + 1) (m + 1))
  have ky9 := u9.far (show Blk W6 (w.heap.size + 1 + 1) 54 #[.bool false, .slice none 0 0, .slice none 0 0, .slice none 0 0] from ky6) (show w.heap.size + 1 + 1 ≠ w.heap.size + 1 by omega)
  have u10 := upd4 ky9 (.bool false) (.slice Ab k1 kc1) (.slice none 0 0) (.slice Ad k2 kc2)
  have HM10 : Hid (Sm W4 _) := Lib.hid (hm6.trans ((u9.sm kx6 (by decide) (by decide)).trans (u10.sm ky9 (by decide) (by decide))))
  have HK1 := Lib.hid (u10.far u9.blk (show w.heap.size + 1 ≠ w.heap.size + 1 + 1 by omega))
  have HK2 := Lib.hid u10.blk
  have HB10 : Hid (Below w.heap.size w _) := Lib.hid (u10.below (u9.below (HB4.out.trans ((show Below _ _ _ from hl46).mono (by omega))) (by omega) (Nat.le_refl _)) (by omega) (Nat.le_refl _))
  obtain ⟨z0, z1, z2, z3⟩ := cells4 kr
  obtain ⟨f0, f1, f2, f3⟩ := frozen4 kr
  obtain ⟨q0, q1, q2, q3⟩ := SF.out W6 hl46
  obtain ⟨r0, r1, r2, r3⟩ := cells4 kr6
  obtain ⟨s0, s1, s2, s3⟩ := cells4 ks6
  obtain ⟨x0, x1, x2, x3⟩ := cells4 kx6
  obtain ⟨y0, y1, y2, y3⟩ := cells4 ky6
  obtain ⟨xf0, xf1, xf2, xf3⟩ := frozen4 kx6
  obtain ⟨yf0, yf1, yf2, yf3⟩ := frozen4 ky6
  have HW6 := Lib.hid hW6
  clear kr hge u6 hW6 hV hV0 HL0 hl56 hl46 hm6 ks6 kr6 kx6 ky6 hbk6 h4 h5 h6 u9 ky9 u10
  refine wpAnyJ_one (i := 12) (by kernel_rfl) rfl (fun K hK => ?_)
  simp only [List.getElem_toArray, List.getElem_cons_succ, List.getElem_cons_zero]
  go_simp
  refine hK.out _ _ (fun h _ => absurd rfl h) ?_
  clear hK K
  try simp only [pa, List.set]
  refine wpAnyJ_done (by kernel_rfl) ?_ _
  rw [← HW6.out]
  clear z0 z1 z2 z3 f0 f1 f2 f3
  go_upto_region 15 with fail
  go_region_held3 (fun V => V.cell? ⟨r, 0, none⟩ = some (.bool false) ∧ V.cell? ⟨r, 1, none⟩ = some (.slice (some ⟨kb, ko, none⟩) m m) ∧ V.cell? ⟨r, 2, none⟩ = some (.slice none 0 0) ∧ V.cell? ⟨r, 3, none⟩ = some (.slice B3 (m + 1) (m + 1)) ∧ V.cell? ⟨r11, 0, none⟩ = some (.bool false) ∧ V.cell? ⟨r11, 1, none⟩ = some (.slice Ab k1 kc1) ∧ V.cell? ⟨r11, 2, none⟩ = some (.slice none 0 0) ∧ V.cell? ⟨r11, 3, none⟩ = some (.slice Ad k2 kc2) ∧ V.cell? ⟨w.heap.size, 1, none⟩ = some (.slice (some ⟨kb, ko, none⟩) ks.length d1) ∧
      V.cell? ⟨kb, ko + m, none⟩ = some (.string (ks.getD m ByteArray.empty)))
    (go_keep) (fail)
  all_goals
    obtain ⟨W9, hW9⟩ : ∃ W9, W9 = ((((((((W6.setCell ⟨w.heap.size + 1, 0, none⟩ (.bool false)).setCell ⟨w.heap.size + 1, 1, none⟩ (.slice (some ⟨kb, ko, none⟩) m m)).setCell ⟨w.heap.size + 1, 2, none⟩ (.slice none 0 0)).setCell ⟨w.heap.size + 1, 3, none⟩ (.slice B3 (m + 1) (m + 1))).setCell ⟨w.heap.size + 1 + 1, 0, none⟩ (.bool false)).setCell ⟨w.heap.size + 1 + 1, 1, none⟩ (.slice Ab k1 kc1)).setCell ⟨w.heap.size + 1 + 1, 2, none⟩ (.slice none 0 0)).setCell ⟨w.heap.size + 1 + 1, 3, none⟩ (.slice Ad k2 kc2)).drew := ⟨_, rfl⟩
    rw [← hW9]
    have HW9 := Lib.hid hW9
    clear hW9
    go_wp2_with fail
    have k1' : Blk W9 (w.heap.size + 1) 54 #[.bool false, .slice (some ⟨kb, ko, none⟩) m m, .slice none 0 0, .slice B3 (m + 1) (m + 1)] := by rw [HW9.out]; exact HK1.out.drew
    have k2' : Blk W9 (w.heap.size + 1 + 1) 54 #[.bool false, .slice Ab k1 kc1, .slice none 0 0, .slice Ad k2 kc2] := by rw [HW9.out]; exact HK2.out.drew
    have hb9 : Below w.heap.size w W9 := by rw [HW9.out]; exact HB10.out.drew
    have hm9 : Sm W4 W9 := by rw [HW9.out]; exact HM10.out.drew
    refine bodyPost_ret_by (results_csc rfl _ _ (w.heap.size + 1) (w.heap.size + 1 + 1) 54 _ _ (0, 0) (0, 0) _ rfl rfl k1' k2' Try.underlying54 rfl (by kernel_rfl) (by kernel_rfl)) rfl ?_
    rw [← HM.out]
    refine ⟨hb9, _, _, rfl, ⟨some ⟨kb, ko, none⟩, m, none, 0, B3, m + 1, ?_, HAP.out.sm hm9⟩, ⟨Ab, kc1, none, 0, Ad, kc2, ?_, HBP.out.sm hm9⟩⟩
    · unfold pgc
      rw [HAL.out.1, HAL.out.2]
      rfl
    · unfold pgc
      rw [HBL.out.1, HBL.out.2]
      rfl
end
/-- A page of more than 900 bytes can be split. -/
theorem great_split {p : Pg} (h : Ok p) (hg : 900 < (encP p).length) : (p.leaf = true ∧ 2 ≤ p.keys.length) ∨ (p.leaf = false ∧ 3 ≤ p.keys.length) := by
  have k1 : ∀ s ∈ p.keys, s.size < 18446744073709551616 := fun s hm => by have := (good_key_size h.good s hm).2; omega
  have k2 : ∀ s ∈ p.vals, s.size < 18446744073709551616 := fun s hm => by have := good_val_size h.good s hm; omega
  have h1 := sizes_bound 40 p.keys (fun s hs => (good_key_size h.good s hs).2)
  have h2 := sizes_bound 400 p.vals (good_val_size h.good)
  have a1 := encKV_le p.keys p.vals k1 k2
  have a2 := encK_le p.keys k1
  have a3 := encN_le p.kids h.nums
  have a4 := putU_le (u := p.keys.length) (by have := h.few; omega)
  unfold encP encB at hg
  rcases good_shape h.good with ⟨a, b, c⟩ | ⟨a, b, c⟩
  · refine .inl ⟨a, ?_⟩
    rw [a] at hg
    simp only [if_true, List.length_cons, List.length_append] at hg
    rw [c] at a3
    omega
  · refine .inr ⟨a, ?_⟩
    rw [a] at hg
    simp only [Bool.false_eq_true, if_false, List.length_cons, List.length_append] at hg
    omega
theorem split_any {w : World} {cs : Array Value} {p : Pg} (h : PgV w cs p) (ho : Ok p) (hg : 900 < (encP p).length) :
    ∃ a k b, splitP p = some (a, k, b) ∧ 1 ≤ b.keys.length ∧ Calls Try.prog 61 #[.agg cs] w (SplitPost w a b k) := by
  obtain ⟨A1, c1, A2, c2, A3, c3, rfl, h⟩ := h
  obtain ⟨lf, ks, vs, ns⟩ := p
  rcases great_split ho hg with ⟨e, h2⟩ | ⟨e, h2⟩
  · obtain rfl : lf = true := e
    have hs := splitAt_le ⟨true, ks, vs, ns⟩ h2
    refine ⟨_, _, _, ?_, ?_, split_leaf h ho h2⟩
    · unfold splitP; rw [if_pos rfl, if_pos h2]
    · show 1 ≤ ((ks.take ks.length).drop _).length
      rw [List.length_drop, List.take_length]
      have := hs.2
      show 1 ≤ ks.length - _
      have : splitAt ⟨true, ks, vs, ns⟩ < ks.length := this
      omega
  · obtain rfl : lf = false := e
    refine ⟨_, _, _, ?_, ?_, split_branch h ho h2⟩
    · unfold splitP; rw [if_neg (by simp), if_pos h2]
    · show 1 ≤ (ks.drop (ks.length / 2 + 1)).length
      have h2 : 3 ≤ ks.length := h2
      rw [List.length_drop]
      omega
end Go.Proofs.Ytafeddjcomeniaa
end

/- tree.add: a page onto the shelf, in two if it is great. Conditions: the shelf and the page lie in memory; the page may be, and has few keys. -/
section
namespace Go.Proofs.Ytafeddjcomeniaa
open Go.RowKit
set_option linter.unusedVariables false
set_option linter.unusedSimpArgs false

theorem DKept.others {S : Nat → Prop} {w w' : World} (h : DKept S w w') (hS : ∀ k, S k → ∃ t cs, Blk w k t cs) : KeepsOthers w w' :=
  ⟨h.size, fun k o hk hc => (h.block k (Array.getElem?_eq_some_iff.1 hk).1 fun hs => by
    obtain ⟨t, cs, hb⟩ := hS k hs
    have hb' : w.heap[k]? = some _ := hb
    rw [hb'] at hk
    cases hk; cases hc).trans hk⟩
theorem later_others {w w' : World} (h : Later w w') : KeepsOthers w w' :=
  ⟨(show Below _ _ _ from h).size, fun k o hk _ => ((show Below _ _ _ from h).block k (Array.getElem?_eq_some_iff.1 hk).1).trans hk⟩
/-- The shelf was written: what else is as it was. -/
structure Wr (B b : Nat) (ill : Int) (s' : Sh) (w w' : World) : Prop where
  sh : ∃ v', ShAt B w' b ill s' v'
  below : Below B w w'
  far : ∀ g t cs, Far t → Blk w g t cs → Blk w' g t cs
  sm : Sm w w'
  oth : KeepsOthers w w'
theorem Wr.size {B b : Nat} {ill : Int} {s1 : Sh} {w w1 : World} (h : Wr B b ill s1 w w1) : w.heap.size ≤ w1.heap.size := h.oth.size
theorem Wr.trans {B b : Nat} {ill : Int} {s1 s2 : Sh} {w w1 w2 : World} (h : Wr B b ill s1 w w1) (k : Wr B b ill s2 w1 w2) : Wr B b ill s2 w w2 :=
  ⟨k.sh, h.below.trans k.below, fun g t cs ht x => k.far g t cs ht (h.far g t cs ht x), h.sm.trans k.sm, h.oth.trans k.oth⟩
theorem Wr.later {B b : Nat} {ill : Int} {s1 : Sh} {w w1 w2 : World} (h : Wr B b ill s1 w w1) (hB : B ≤ w.heap.size) (k : Later w1 w2) : Wr B b ill s1 w w2 := by
  obtain ⟨v', hs⟩ := h.sh
  exact ⟨⟨v', hs.later k⟩, h.below.trans ((show Below _ _ _ from k).mono (Nat.le_trans hB h.size)), fun g t cs ht x => (h.far g t cs ht x).below k (h.far g t cs ht x).lt, h.sm.trans (Sm.later k), h.oth.trans (later_others k)⟩
theorem Wr.from_ {B b : Nat} {ill : Int} {s1 : Sh} {w w1 w2 : World} (hB : B ≤ w.heap.size) (k : Later w w1) (h : Wr B b ill s1 w1 w2) : Wr B b ill s1 w w2 :=
  ⟨h.sh, ((show Below _ _ _ from k).mono hB).trans h.below, fun g t cs ht x => h.far g t cs ht (x.below k x.lt), (Sm.later k).trans h.sm, (later_others k).trans h.oth⟩
theorem Wr.upd {B b g : Nat} {ill : Int} {s1 : Sh} {w w1 w2 : World} {t : TypeId} {cs cs0 : Array Value} (h : Wr B b ill s1 w w1) (u : Upd w1 w2 g t cs) (hb : Blk w1 g t cs0) (ht : Far t) (hg : w.heap.size ≤ g) (hB : B ≤ w.heap.size) : Wr B b ill s1 w w2 := by
  obtain ⟨v', hs⟩ := h.sh
  exact ⟨⟨v', hs.updFar u hb ht⟩, u.below h.below (by omega) hB, fun g' t' cs' ht' x => u.far (h.far g' t' cs' ht' x) (by have := x.lt; omega), h.sm.trans (u.sm hb ht.s ht.n), h.oth.trans (u.kept.others fun k e => by subst e; exact ⟨_, _, hb⟩)⟩
theorem ShAdd.wr {B b : Nat} {ill : Int} {s : Sh} {v : Value} {p : Pg} {w w' : World} {e : Ending} (h : ShAdd B b ill s v p w e w') (hs : ShAt B w b ill s v) (hB : B ≤ w.heap.size) : Wr B b ill (addS ill s p).1 w w' := by
  obtain ⟨v', _, h1, h2, h3, _⟩ := h
  refine ⟨⟨v', h1⟩, h2.below hB fun i hi => ?_, fun g t cs ht x => h2.blk x fun hi => ?_, h3, h2.others fun k hi => ?_⟩
  · rcases hi with rfl | hi
    · exact hs.hb
    · exact (hs.rowlt i hi).1
  · rcases hi with rfl | hi
    · exact x.ne_ hs.blk ht.h rfl
    · obtain ⟨L, h4, _⟩ := hs.row
      exact own_blk' h4 x ht.p.symm hi
  · rcases hi with rfl | hi
    · exact ⟨_, _, hs.blk⟩
    · obtain ⟨L, h4, _⟩ := hs.row
      rcases h4.2 with ⟨e, _⟩ | ⟨g, cap, cur, e, _, hb, _⟩
      · rw [e] at hi; cases hi
      · rw [e] at hi
        cases hi
        exact ⟨_, _, hb⟩
def addedC (a : Added) : Array Value := #[.int .u64 a.n, .bool a.sp.isSome, .string (match a.sp with | some (k, _) => k | none => ⟨#[]⟩), .int .u64 (match a.sp with | some (_, o) => o | none => 0)]
/-- What add answers. -/
def AddPost (B b : Nat) (ill : Int) (s : Sh) (v : Value) (p : Pg) (w : World) (e : Ending) (w' : World) : Prop :=
  (∃ x y z u, e = .returned (.tuple #[.agg #[.int .u64 x, .bool y, .string z, .int .u64 u], .int .i64 (if (halves ill s p).2.isSome then 0 else 4)]) ∧ ∀ a, (halves ill s p).2 = some a → #[Value.int .u64 x, .bool y, .string z, .int .u64 u] = addedC a) ∧ Wr B b ill (halves ill s p).1 w w' ∧ DKept (fun k => k = b ∨ v.ownBlock = some k) w w'
theorem far_added : Far 85 := ⟨by decide, by decide, by decide, by decide⟩
set_option maxRecDepth 100000 in
set_option maxHeartbeats 8000000 in
theorem add_any {B b : Nat} {w : World} {ill : Int} {s : Sh} {v : Value} {p : Pg} {cs : Array Value} (h : ShAt B w b ill s v) (hB : B ≤ w.heap.size) (hn : 0 ≤ s.n) (hn2 : s.n < 1000000000) (hl : s.S.length ≤ 99990) (hp : PgV w cs p) (ho : Ok p) :
    Calls Try.prog 31 #[shV b, .agg cs] w (AddPost B b ill s v p w) := by
  obtain ⟨W0, hW0⟩ : ∃ W0, W0 = (w.alloc (.cells cs 54)).alloc (.cells #[.int .u64 0, .bool false, .string ⟨#[]⟩, .int .u64 0] 85) := ⟨_, rfl⟩
  have hb0 : Later w W0 := by rw [hW0]; exact (below_new _ _).alloc (by simp) _
  have hs0 : W0.heap.size = w.heap.size + 2 := by rw [hW0]; simp
  have kp : Blk W0 w.heap.size 54 cs := by rw [hW0]; exact (Blk.new _ _ _).alloc _
  have kz : Blk W0 (w.heap.size + 1) 85 #[.int .u64 0, .bool false, .string ⟨#[]⟩, .int .u64 0] := by
    rw [hW0]
    have := Blk.new (w.alloc (.cells cs 54)) 85 #[.int .u64 0, .bool false, .string ⟨#[]⟩, .int .u64 0]
    simpa using this
  have hp0 := hp.below hb0
  have CB := Lib.hid (bytes_any hp0 ho)
  have hbd : B ≤ W0.heap.size := by omega
  have HB := Lib.hid hB
  have H0 := Lib.hid (h.later hb0)
  have HVL : Hid (∀ k, v.ownBlock = some k → k < w.heap.size) := Lib.hid fun k e => (h.rowlt _ e).2
  have HLB := Lib.hid h.blk.lt
  have HP0 := Lib.hid hp0
  have HB0 := Lib.hid hb0
  have HS0 := Lib.hid hs0
  have HKP := Lib.hid kp
  have HKZ := Lib.hid kz
  have HW0 := Lib.hid hW0
  have HO := Lib.hid ho
  obtain ⟨A1, c1, A2, c2, A3, c3, hcs, -⟩ := hp
  have HCS := Lib.hid hcs
  unfold pgc at hcs
  subst hcs
  obtain ⟨q0, q1, q2, q3⟩ := cells4 kp
  obtain ⟨z0, z1, z2, z3⟩ := cells4 kz
  obtain ⟨f0, f1, f2, f3⟩ := frozen4 kz
  clear h hB hW0 hb0 hs0 kp kz hp0 ho hbd
  generalize hk1 : p.keys.length = k1 at *
  generalize hk2 : p.vals.length = k2 at *
  generalize hk3 : p.kids.length = k3 at *
  generalize hlf : p.leaf = lf at *
  clear hk1 hk2 hk3 hlf
  have hmet := fun w => method_add ⟨b, 0, none⟩ w
  unfold shV
  go_enter Try.func31, Try.ntmps31
  go_upto_region 1 with fail
  rw [← HW0.out]
  go_wp2_with fail
  refine CB.out.mono ?_
  rintro e w1 ⟨rfl, hb1⟩
  have hs1 := H0.out.later hb1
  have hp1 := HP0.out.below hb1
  have kp1 := HKP.out.below hb1 HKP.out.lt
  have kz1 := HKZ.out.below hb1 HKZ.out.lt
  have hL1 : Later w w1 := HB0.out.trans hb1
  have HL1 := Lib.hid hL1
  by_cases hgr : 900 < (encP p).length
  · have g1 : decide (900 < ((encP p).length : Int)) = true := decide_eq_true (by omega)
    have g2 : decide (900 < (encP p).length) = true := decide_eq_true hgr
    obtain ⟨pa, kk, pb, hsp, hbl, CS0⟩ := split_any hp1 HO.out hgr
    have CS := Lib.hid CS0
    have hha : halves ill s p = match addS ill s pa with
        | (s1, none) => (s1, none)
        | (s1, some x) => match addS ill s1 pb with
          | (s2, none) => (s2, none)
          | (s2, some y) => (s2, some ⟨x, some (kk, y)⟩) := by
      unfold halves; rw [if_pos hgr, hsp]; rfl
    have HHA := Lib.hid hha
    have HS1 := Lib.hid hs1
    have HKZ1 := Lib.hid kz1
    obtain ⟨y0, y1, y2, y3⟩ := cells4 kp1
    generalize (encP p).length = N at *
    clear hgr hha hs1 hp1 kp1 kz1 hL1 hb1 CB q0 q1 q2 q3 z0 z1 z2 z3 f0 f1 f2 f3 CS0 hsp
    go_wp2_with fail
    refine CS.out.mono ?_
    rintro e w2 ⟨hb2, ca, cb, rfl, hva, hvb⟩
    obtain ⟨D1, d1, D2, d2, D3, d3, rfl, hpa⟩ := hva
    obtain ⟨E1, e1, E2, e2, E3, e3, rfl, hpb⟩ := hvb
    have hva : PgV w2 (pgc D1 d1 D2 d2 D3 d3 pa) pa := ⟨_, _, _, _, _, _, rfl, hpa⟩
    have hvb : PgV w2 (pgc E1 e1 E2 e2 E3 e3 pb) pb := ⟨_, _, _, _, _, _, rfl, hpb⟩
    unfold pgc at hva hvb ⊢
    obtain ⟨W3, hW3⟩ : ∃ W3, W3 = (w2.alloc (.cells #[.bool pa.leaf, .slice D1 pa.keys.length d1, .slice D2 pa.vals.length d2, .slice D3 pa.kids.length d3] 54)).alloc (.cells #[.bool pb.leaf, .slice E1 pb.keys.length e1, .slice E2 pb.vals.length e2, .slice E3 pb.kids.length e3] 54) := ⟨_, rfl⟩
    have hl3 : Later w2 W3 := by rw [hW3]; exact (below_new _ _).alloc (by simp) _
    have k6 : Blk W3 w2.heap.size 54 #[.bool pa.leaf, .slice D1 pa.keys.length d1, .slice D2 pa.vals.length d2, .slice D3 pa.kids.length d3] := by rw [hW3]; exact (Blk.new _ _ _).alloc _
    have k8 : Blk W3 (w2.heap.size + 1) 54 #[.bool pb.leaf, .slice E1 pb.keys.length e1, .slice E2 pb.vals.length e2, .slice E3 pb.kids.length e3] := by
      rw [hW3]
      have := Blk.new (w2.alloc (.cells #[.bool pa.leaf, .slice D1 pa.keys.length d1, .slice D2 pa.vals.length d2, .slice D3 pa.kids.length d3] 54)) 54 #[.bool pb.leaf, .slice E1 pb.keys.length e1, .slice E2 pb.vals.length e2, .slice E3 pb.kids.length e3]
      simpa using this
    have hl23 : Later w1 W3 := (show Later w1 w2 from hb2).trans hl3
    have HL3 := Lib.hid (HL1.out.trans hl23)
    have hs3 := HS1.out.later hl23
    have HKZ3 := Lib.hid (HKZ1.out.below hl23 HKZ1.out.lt)
    have hBW : B ≤ W3.heap.size := by have := HB.out; have := (show Below _ _ _ from HL3.out).size; omega
    have hva3 := hva.below hl3
    have HVB3 := Lib.hid (hvb.below hl3)
    have CA := Lib.hid (shAdd_any hs3 hBW hn (by omega) (by omega) hva3)
    have HS3 := Lib.hid hs3
    have HBW := Lib.hid hBW
    obtain ⟨q0, q1, q2, q3⟩ := cells4 k6
    obtain ⟨r0, r1, r2, r3⟩ := cells4 k8
    have HK8 := Lib.hid k8
    have HQ8 : Hid (w.heap.size ≤ w2.heap.size) := Lib.hid (by have := (show Below _ _ _ from HL1.out).size; have := hb2.size; omega)
    have HW3 := Lib.hid hW3
    obtain ⟨q, hq⟩ : ∃ q, q = w2.heap.size := ⟨_, rfl⟩
    rw [← hq] at q0 q1 q2 q3 r0 r1 r2 r3 HK8 HQ8
    have HQ := Lib.hid hq
    generalize pa.keys.length = m1 at *
    generalize pa.vals.length = m2 at *
    generalize pa.kids.length = m3 at *
    generalize pa.leaf = la at *
    generalize pb.keys.length = n1 at *
    generalize pb.vals.length = n2 at *
    generalize pb.kids.length = n3 at *
    generalize pb.leaf = lb at *
    have n1p : decide ((0 : Int) < (n1 : Int)) = true := decide_eq_true (by omega)
    have n1q : decide (0 < n1) = true := decide_eq_true (by omega)
    clear hb2 hva hvb hpa hpb hW3 hl3 k6 k8 hl23 hs3 hBW hva3 CS y0 y1 y2 y3 g1 g2
    go_upto_region 3 with fail
    rw [← HW3.out, ← HQ.out]
    clear hq
    go_wp2_with fail
    refine CA.out.mono ?_
    rintro e w4 hsa
    have hwr4 := (show ShAdd B b ill s v pa W3 e w4 from hsa).wr HS3.out HBW.out
    obtain ⟨v4, he, hsh4, hk4, hm4, hn4⟩ := hsa
    subst he
    have kz4 := hwr4.far _ _ _ far_added HKZ3.out
    have hw4 := hwr4.from_ HB.out HL3.out
    have HD4 : Hid (DKept (fun k => k = b ∨ v.ownBlock = some k) w w4) := Lib.hid ((DKept.of_below (S := fun k => k = b ∨ v.ownBlock = some k) (show Below _ _ _ from HL3.out)).trans hk4 (fun _ _ h => h))
    have HKZ4 := Lib.hid kz4
    have HW4 := Lib.hid hw4
    obtain ⟨z0, z1, z2, z3⟩ := cells4 kz4
    obtain ⟨f0, f1, f2, f3⟩ := frozen4 kz4
    rcases addS_ok ill s pa with ⟨sx, ea, _, hnx⟩ | ⟨sx, ea, gx, hnx⟩
    · have u := upd4 kz4 (.int .u64 0) (.bool false) (.string ⟨#[]⟩) (.int .u64 0)
      have HU := Lib.hid u
      have FIN : Hid (∀ w', Upd w4 w' (w.heap.size + 1) 85 #[.int .u64 0, .bool false, .string ⟨#[]⟩, .int .u64 0] → AddPost B b ill s v p w (.returned (.tuple #[.agg #[.int .u64 0, .bool false, .string ⟨#[]⟩, .int .u64 0], .int .i64 4])) w') := Lib.hid fun w' u => by
        unfold AddPost
        have hw2 := HW4.out.upd u HKZ4.out far_added (by omega) HB.out
        rw [HHA.out, ea]
        rw [ea] at hw2
        exact ⟨⟨_, _, _, _, rfl, fun a ha => by cases ha⟩, hw2, HD4.out.upd u (by omega)⟩
      rw [ea]
      clear hwr4 hsh4 hk4 hm4 hn4 kz4 hw4 u CA q0 q1 q2 q3 r0 r1 r2 r3 ea
      go_wp2_with fail
      refine bodyPost_ret_by (results_cs rfl _ _ (w.heap.size + 1) 85 _ (0, 0) _ rfl HU.out.blk Try.underlying85 rfl (by kernel_rfl)) rfl ?_
      exact FIN.out _ HU.out
    · obtain ⟨nn, hnn⟩ : ∃ nn : Int, nn = ((s.S.length + 1 : Nat) : Int) := ⟨_, rfl⟩
      rw [← hnn] at ea
      clear hnn
      rw [ea] at hsh4 hw4
      have k84 := hk4.blk HK8.out (fun e => by
        rcases e with e | e
        · have := HLB.out; have := HQ8.out; omega
        · have := HVL.out _ e; have := HQ8.out; omega)
      obtain ⟨x0, x1, x2, x3⟩ := cells4 k84
      have hvb4 := HVB3.out.sm hm4
      have hlx : sx.S.length = s.S.length + 1 := by rw [gx.S]; simp
      have CA2 := Lib.hid (shAdd_any hsh4 (Nat.le_trans HBW.out hk4.size) (by dsimp only; omega) (by dsimp only; omega) (by dsimp only; omega) hvb4)
      have HSH4 := Lib.hid hsh4
      have HN4 := Lib.hid hn4
      have HBX : Hid (B ≤ w4.heap.size) := Lib.hid (Nat.le_trans HBW.out hk4.size)
      have HEA := Lib.hid ea
      have HW4' := Lib.hid hw4
      rw [ea]
      dsimp only at CA2
      clear hwr4 hsh4 hk4 hm4 hn4 kz4 hw4 CA q0 q1 q2 q3 r0 r1 r2 r3 z0 z1 z2 z3 f0 f1 f2 f3 k84 hvb4 hlx ea gx HW4
      go_wp2_with fail
      refine CA2.out.mono ?_
      rintro e w5 hsa
      have hwr5 := (show ShAdd B b ill sx v4 pb w4 e w5 from hsa).wr HSH4.out HBX.out
      obtain ⟨v5, he, hsh5, hk5, hm5, hn5⟩ := hsa
      subst he
      have kz5 := hwr5.far _ _ _ far_added HKZ4.out
      obtain ⟨z0, z1, z2, z3⟩ := cells4 kz5
      obtain ⟨f0, f1, f2, f3⟩ := frozen4 kz5
      have u := upd4 kz5 (.int .u64 nn) (.bool true) (.string kk) (.int .u64 ((addS ill sx pb).2.getD 0))
      have HU := Lib.hid u
      have HKZ5 := Lib.hid kz5
      have HW5 := Lib.hid (HW4'.out.trans hwr5)
      have HD5 : Hid (DKept (fun k => k = b ∨ v.ownBlock = some k) w w5) := Lib.hid (HD4.out.trans hk5 fun k hk h => by
        rcases h with h | h
        · exact .inl h
        · rcases HN4.out k h with h | h
          · exact .inr h
          · exact absurd hk (by have := (show Below _ _ _ from HL3.out).size; omega))
      have FIN : Hid (∀ w', Upd w5 w' (w.heap.size + 1) 85 #[.int .u64 nn, .bool true, .string kk, .int .u64 ((addS ill sx pb).2.getD 0)] → AddPost B b ill s v p w (.returned (.tuple #[.agg #[.int .u64 nn, .bool true, .string kk, .int .u64 ((addS ill sx pb).2.getD 0)], .int .i64 (if (addS ill sx pb).2.isSome then 0 else 4)])) w') := Lib.hid fun w' u => by
        unfold AddPost
        have hw2 := HW5.out.upd u HKZ5.out far_added (by omega) HB.out
        rw [HHA.out, HEA.out]
        dsimp only
        rcases addS_ok ill sx pb with ⟨s2, e2, _, _⟩ | ⟨s2, e2, _, _⟩
        · simp only [e2] at hw2 ⊢
          exact ⟨⟨_, _, _, _, rfl, fun a ha => by cases ha⟩, hw2, HD5.out.upd u (by omega)⟩
        · simp only [e2] at hw2 ⊢
          exact ⟨⟨_, _, _, _, rfl, fun a ha => by cases ha; rfl⟩, hw2, HD5.out.upd u (by omega)⟩
      generalize (addS ill sx pb).2.getD 0 = x at *
      generalize (if (addS ill sx pb).2.isSome then (0 : Int) else 4) = er at *
      clear hwr5 hsh5 hk5 hm5 hn5 kz5 u CA2 x0 x1 x2 x3
      go_wp2_with fail
      refine bodyPost_ret_by (results_cs rfl _ _ (w.heap.size + 1) 85 _ (0, 0) _ rfl HU.out.blk Try.underlying85 rfl (by kernel_rfl)) rfl ?_
      exact FIN.out _ HU.out
  · have g1 : decide (900 < ((encP p).length : Int)) = false := decide_eq_false (by omega)
    have g2 : decide (900 < (encP p).length) = false := decide_eq_false hgr
    have CA := Lib.hid (shAdd_any hs1 (by have := HB.out; have := (show Below _ _ _ from hL1).size; omega) hn (by omega) (by omega) hp1)
    have hha : halves ill s p = match addS ill s p with | (s1, none) => (s1, none) | (s1, some x) => (s1, some ⟨x, none⟩) := by
      unfold halves; rw [if_neg hgr]; rfl
    have HHA := Lib.hid hha
    have HS1 := Lib.hid hs1
    have HKZ1 := Lib.hid kz1
    obtain ⟨y0, y1, y2, y3⟩ := cells4 kp1
    generalize (encP p).length = N at *
    clear hgr hha hs1 hp1 kp1 kz1 hL1 hb1 CB q0 q1 q2 q3 z0 z1 z2 z3 f0 f1 f2 f3
    go_wp2_with fail
    refine CA.out.mono ?_
    rintro e w2 hsa
    have hwr := (show ShAdd B b ill s v p w1 e w2 from hsa).wr HS1.out (by have := HB.out; have := (show Below _ _ _ from HL1.out).size; omega)
    obtain ⟨v', he, _, hk2, _, _⟩ := hsa
    have HD2 : Hid (DKept (fun k => k = b ∨ v.ownBlock = some k) w w2) := Lib.hid ((DKept.of_below (S := fun k => k = b ∨ v.ownBlock = some k) (show Below _ _ _ from HL1.out)).trans hk2 (fun _ _ h => h))
    subst he
    clear hk2
    have kz2 := hwr.far _ _ _ far_added HKZ1.out
    obtain ⟨z0, z1, z2, z3⟩ := cells4 kz2
    obtain ⟨f0, f1, f2, f3⟩ := frozen4 kz2
    have u := upd4 kz2 (.int .u64 ((addS ill s p).2.getD 0)) (.bool false) (.string ⟨#[]⟩) (.int .u64 0)
    have HU := Lib.hid u
    have HWR := Lib.hid hwr
    have HKZ2 := Lib.hid kz2
    have FIN : Hid (∀ w', Upd w2 w' (w.heap.size + 1) 85 #[.int .u64 ((addS ill s p).2.getD 0), .bool false, .string ⟨#[]⟩, .int .u64 0] → AddPost B b ill s v p w (.returned (.tuple #[.agg #[.int .u64 ((addS ill s p).2.getD 0), .bool false, .string ⟨#[]⟩, .int .u64 0], .int .i64 (if (addS ill s p).2.isSome then 0 else 4)])) w') := Lib.hid fun w' u => by
      unfold AddPost
      have hw2 := (HWR.out.from_ HB.out HL1.out).upd u HKZ2.out far_added (by omega) HB.out
      rw [HHA.out]
      generalize addS ill s p = o at *
      obtain ⟨s1, o⟩ := o
      have hd2 := HD2.out.upd u (by omega)
      cases o with
      | none => exact ⟨⟨_, _, _, _, rfl, fun a ha => by cases ha⟩, hw2, hd2⟩
      | some x => exact ⟨⟨_, _, _, _, rfl, fun a ha => by cases ha; rfl⟩, hw2, hd2⟩
    generalize (addS ill s p).2.getD 0 = x at *
    generalize (if (addS ill s p).2.isSome then (0 : Int) else 4) = er at *
    clear hwr kz2 u CA y0 y1 y2 y3 g1 g2
    go_wp2_with fail
    refine bodyPost_ret_by (results_cs rfl _ _ (w.heap.size + 1) 85 _ (0, 0) _ rfl HU.out.blk Try.underlying85 rfl (by kernel_rfl)) rfl ?_
    exact FIN.out _ HU.out
end Go.Proofs.Ytafeddjcomeniaa
end

/- slices.Backward at []tree.step: what its iterator does for every loop body that keeps the slice's own memory. Conditions: a row of 4096 elements at most. -/
section
namespace Go.Proofs.Ytafeddjcomeniaa
open Go.RowKit
set_option linter.unusedVariables false
attribute [local go_sem] Oper.semAt_some

/-- A round keeps the slice's own box and its row. -/
def KpB (Bs g : Nat) (W W' : World) : Prop := W'.heap[Bs]? = W.heap[Bs]? ∧ W'.heap[g]? = W.heap[g]?
/-- The cells of a row of steps. -/
def RowC (w : World) (g len : Nat) (L : List (Array Value)) : Prop := L.length = len ∧ ∀ (i : Nat) c, L[i]? = some c → c.size = 5 ∧ ∀ j, j < 5 → w.cell? ⟨g, i * 5 + j, none⟩ = c[j]?
theorem RowC.keep {w W : World} {g len : Nat} {L : List (Array Value)} (h : RowC w g len L) (e : W.heap[g]? = w.heap[g]?) : RowC W g len L := ⟨h.1, fun i c hc => ⟨(h.2 i c hc).1, fun j hj => by
  have := (h.2 i c hc).2 j hj
  unfold World.cell? at this ⊢
  rw [e]; exact this⟩⟩

set_option maxRecDepth 100000 in
set_option maxHeartbeats 2000000 in
theorem back1_in (F : Fence) (n : Nat) (h97 : F.fn 63) (hro : F.round = none) (hn : 1 ≤ n) (l Bs g len cap : Nat) (L : List (Array Value)) (hlen : len ≤ 4096) (J Jx : Nat → World → Prop)
    (hY : ∀ k W, J k W → k < len → YieldAt F (n - 1) Try.prog l #[.int .i64 ((len - 1 - k : Nat) : Int), .agg (L[len - 1 - k]?.getD #[])] W fun e W' =>
      (e = .returned (.bool true) ∧ J (k + 1) W' ∧ KpB Bs g W W') ∨ (e = .returned (.bool false) ∧ Jx k W'))
    (W : World) (hBs : Blk W Bs 81 #[.slice (some ⟨g, 0, none⟩) len cap]) (ho : RowC W g len L) (h0 : J 0 W) :
    CallsIn F n Try.prog 63 #[.func (.yield l) #[] #[], .pointer (some ⟨Bs, 0, none⟩)] W fun e W' => (∃ v, e = .returned v) ∧
      (J len W' ∨ ∃ k, k < len ∧ Jx k W') := by
  have hbc : W.cell? ⟨Bs, 0, none⟩ = some (.slice (some ⟨g, 0, none⟩) len cap) := (hBs.cell 0).trans rfl
  have HL := Lib.hid hlen
  have e1 : IntKind.i64.wrap ((len : Int) - 1) = (len : Int) - 1 := IntWalk.i64_in _ (by omega)
  refine callsIn_of_wp Try.func63 rfl h97 ?_ hro
  simp only [Try.ntmps63, List.size_toArray, List.length_cons, List.length_nil, Nat.reduceAdd, Nat.reduceSub, Array.replicate_succ, Array.replicate_zero, List.push_toArray, List.append_toArray, List.nil_append, List.cons_append]
  gi_wp2
  gi_loopw [3] (fun i wr => ∃ k : Nat, k ≤ len ∧ i = .int .i64 ((len : Int) - 1 - (k : Int)) ∧ J k wr ∧ KpB Bs g W wr)
    (fun i _ => (intOf i + 1).toNat)
  case atStart => exact ⟨0, Nat.zero_le _, by congr 1; omega, h0, rfl, rfl⟩
  case round =>
    obtain ⟨k, hk, rfl, hJs, hkp⟩ := hrel
    by_cases hlt : k < len
    · obtain ⟨i, hi⟩ : ∃ i, i = len - 1 - k := ⟨_, rfl⟩
      have hil : i < len := by omega
      have ei : (len : Int) - 1 - (k : Int) = (i : Int) := by omega
      have HI := Lib.hid hi
      rw [ei]
      have hbc' : wr.cell? ⟨Bs, 0, none⟩ = some (.slice (some ⟨g, 0, none⟩) len cap) := ((show Blk wr Bs _ _ from hkp.1.trans hBs).cell 0).trans rfl
      have ho' := ho.keep hkp.2
      obtain ⟨c, hvi⟩ : ∃ c, L[i]? = some c := ⟨_, List.getElem?_eq_getElem (by rw [ho.1]; omega)⟩
      obtain ⟨hc5, hcc⟩ := ho'.2 i c hvi
      obtain ⟨c0, c1, c2, c3, c4, rfl⟩ : ∃ c0 c1 c2 c3 c4, c = #[c0, c1, c2, c3, c4] := ⟨c[0], c[1], c[2], c[3], c[4], by
        apply Array.ext
        · simpa using hc5
        · intro j h1 h2
          have h2 : j < 5 := h2
          match j, h2 with
          | 0, _ => rfl
          | 1, _ => rfl
          | 2, _ => rfl
          | 3, _ => rfl
          | 4, _ => rfl⟩
      have d0 : wr.cell? ⟨g, i * 5, none⟩ = some c0 := hcc 0 (by decide)
      have d1 : wr.cell? ⟨g, i * 5 + 1, none⟩ = some c1 := hcc 1 (by decide)
      have d2 : wr.cell? ⟨g, i * 5 + 2, none⟩ = some c2 := hcc 2 (by decide)
      have d3 : wr.cell? ⟨g, i * 5 + 3, none⟩ = some c3 := hcc 3 (by decide)
      have d4 : wr.cell? ⟨g, i * 5 + 4, none⟩ = some c4 := hcc 4 (by decide)
      obtain ⟨fn, tmps, assign, body, hy, hR⟩ := hY k wr hJs hlt
      rw [← hi, hvi, Option.getD_some] at hy
      have hi0 : (0 : Int) ≤ (i : Int) := by omega
      have hilt : (i : Int) < (len : Int) := by omega
      have ew : IntKind.i64.wrap ((i : Int) - 1) = (i : Int) - 1 := IntWalk.i64_in _ (by omega)
      have HKP := Lib.hid hkp
      have HKL := Lib.hid hk
      clear hi hkp hk ho' hvi hcc hc5
      gi_wp2
      refine hR.mono ?_
      rintro e W3 (⟨rfl, hJ3, hk3⟩ | ⟨rfl, hJx3⟩)
      · gi_wp2
        go_roundw
        case rel => exact ⟨k + 1, by omega, by congr 1; have := HI.out; omega, hJ3, hk3.1.trans HKP.out.1, hk3.2.trans HKP.out.2⟩
        case measure => simp [intOf]
      · gi_wp2
        refine bodyPost_ret (results_none rfl _ _ _) rfl ?_
        exact ⟨⟨_, rfl⟩, .inr ⟨k, hlt, hJx3⟩⟩
    · obtain rfl : k = len := by omega
      have hneg : ¬ (0 : Int) ≤ (k : Int) - 1 - (k : Int) := by omega
      gi_wp2
      go_end0
      exact ⟨⟨_, rfl⟩, .inl hJs⟩

theorem back_in (w : World) (A : Option Addr) (n c : Nat) :
    Calls Try.prog 33 #[.slice A n c] w fun e w' => e = .returned (.func (.func 63) #[] #[.pointer (some ⟨w.heap.size, 0, none⟩)]) ∧ w' = w.alloc (.cells #[.slice A n c] 81) := by
  go_enter Try.func33, Try.ntmps33
  go_wp2
  go_ret
  exact ⟨rfl, rfl⟩

/-- The loop's own two blocks: its record, and the calls put off. -/
def Bk (D : Nat) (r : Loop) (W : World) : Prop := W.heap[D + 1]? = some (.loop r) ∧ W.heap[D]? = some (.deferred (some []))
theorem Bk.keep {D : Nat} {r : Loop} {W W' : World} (h : Bk D r W) (k : KeepsFrom D W W') : Bk D r W' := ⟨k.same _ _ (Nat.le_succ _) h.1 rfl, k.same _ _ (Nat.le_refl _) h.2 rfl⟩
theorem Bk.put {D : Nat} {r : Loop} {W : World} (h : Bk D r W) (r' : Loop) : Bk D r' (W.putObj (D + 1) (.loop r')) := ⟨World.putObj_heap_same (Array.getElem?_eq_some_iff.1 h.1).1, (World.putObj_heap_other (by omega)).trans h.2⟩
/-- What speaks of cells, and of what lay ahead, abides the turn of the loop's record. -/
def Abid (D : Nat) (I : World → Prop) : Prop := ∀ W W' row, I W → W.grownBy W' row → (∀ r, row = some r → D ≤ r ∧ ∃ o : Obj, W.heap[r]? = some o ∧ o.isCells = false) → I W'
theorem Abid.put {D : Nat} {I : World → Prop} (h : Abid D I) {r : Loop} {W : World} (hb : Bk D r W) (r' : Loop) (hi : I W) : I (W.putObj (D + 1) (.loop r')) :=
  h W _ _ hi (grownBy_putObj' W (D + 1) _) fun q e => by cases e; exact ⟨Nat.le_succ _, _, hb.1, rfl⟩
theorem Abid.alloc {D : Nat} {I : World → Prop} (h : Abid D I) {W : World} (o : Obj) (hi : I W) : I (W.alloc o) := h W _ none hi (World.grownBy_alloc W o none) fun r e => by cases e
/-- A loop over a function that hands out its elements in a known order: encs k in round k. The variable may have a cell of its own. -/
theorem rangeFunc_down {F : Fence} {n : Nat} {P : Program} {g : Operand} {ps : Array Tmp} {assign body : Code} {Q : Exit → Act → World → Prop} {a : Act} {w : World} (mk : Act → Nat → Nat → Act) (R : Nat → Nat → World → Prop)
    (hro : F.round = none) (h1 : 1 ≤ n) {gf : Nat} {lb : Array Value} (hg : a.eval g = .func (.func gf) #[] lb) (hFg : F.fn gf) (eg : ∀ args w, (callFunc gf args).run P w = .ok (.enter gf args) w)
    {encs : Nat → Array Value} {Kp : World → World → Prop} {N : Nat}
    (hseq : ∀ (l : Nat) (J Jx : Nat → World → Prop) (W : World), Later w W → (∀ k W1, J k W1 → k < N → YieldAt F (n - 1 - 1) P l (encs k) W1 fun e W' => (e = .returned (.bool true) ∧ J (k + 1) W' ∧ Kp W1 W') ∨ (e = .returned (.bool false) ∧ Jx k W')) → J 0 W →
      CallsIn F (n - 1) P gf (#[.func (.yield l) #[] #[]] ++ lb) W fun e W' => (∃ v, e = .returned v) ∧ (J N W' ∨ ∃ k, k < N ∧ Jx k W'))
    (hKt : ∀ {A B C : World}, Kp A B → Kp B C → Kp A C) (hKb : ∀ (W : World) (l : Nat) (o' : Obj), w.heap.size ≤ l → Kp W (W.putObj l o')) (hps : ∀ k, (encs k).size = ps.size)
    (I : Nat → World → Prop) (Ix : World → Prop) (hI : ∀ k, Abid w.heap.size (I k)) (hIx : Abid w.heap.size Ix) (h0 : I 0 w) (hR : ∀ k h, Abid w.heap.size (R k h))
    (hassign : ∀ (l k : Nat) (W : World) (K : Act → World → Prop), I k W → k < N → (∀ h W', KeepsFrom w.heap.size W W' → Kp W W' → I k W' → R k h W' → K (mk a k h) W') →
      assign.wpIn (F.inRound l) (n - 1 - 1) P (Exit.then K (fun _ _ _ => False)) { tmps := (ps.zip (encs k)).foldl (fun t (p, v) => t.setIfInBounds p v) a.tmps, defers := [] } W)
    (hbody : ∀ (l k h : Nat) (W : World), I k W → R k h W → k < N → body.wpIn (F.inRound l) (n - 1 - 1) P (ownPostG w.heap.size Kp (fun (_ : List Unit) W' => I (k + 1) W') (fun c _ W' => c = .ret ∧ Ix W') [] W) (mk a k h) W)
    (hdone : ∀ (D : Nat) (W : World), w.heap.size ≤ D → I N W → W.heap[D]? = some (.deferred (some [])) → Q .normal { a with defers := { target := .collected D, args := #[] } :: a.defers } W)
    (hstop : ∀ (D : Nat) (W : World), w.heap.size ≤ D → Ix W → W.heap[D]? = some (.deferred (some [])) → Code.ret.wpIn F n P Q { a with defers := { target := .collected D, args := #[] } :: a.defers } W) :
    (Code.rangeFunc g ps assign body).wpIn F n P Q a w := by
  refine wpIn_rangeFunc fun fn hfn => ?_
  rw [hro]
  obtain ⟨D, hD⟩ : ∃ D, D = w.heap.size := ⟨_, rfl⟩
  obtain ⟨rc, hrc⟩ : ∃ rc : LoopState → Option Code → Loop, ∀ st pe, rc st pe = { state := st, pending := pe, fn := fn, tmps := a.tmps, params := ps, assign := assign, body := body, defers := w.heap.size } := ⟨_, fun _ _ => rfl⟩
  obtain ⟨W1, hW1⟩ : ∃ W1, W1 = (w.alloc (.deferred (some []))).alloc (.loop (rc .ready none)) := ⟨_, rfl⟩
  have hl1 : Later w W1 := by rw [hW1]; exact (below_new _ _).alloc (by simp) _
  have hb1 : Bk D (rc .ready none) W1 := by
    rw [hW1, hD]
    refine ⟨?_, (Below.heap_alloc _ _ _ (by simp)).trans (World.alloc_heap_new w _)⟩
    have := World.alloc_heap_new (w.alloc (.deferred (some []))) (.loop (rc .ready none))
    rwa [World.size_alloc] at this
  have hi1 : I 0 W1 := by rw [hW1]; exact (hI 0).alloc _ ((hI 0).alloc _ h0)
  refine ⟨D + 1, [{ target := .collected D, args := #[] }], W1, { target := .fn (.func gf) lb, args := #[.func (.yield (D + 1)) #[] #[]] }, W1, gf, #[.func (.yield (D + 1)) #[] #[]] ++ lb, W1, ?_, ?_, ?_, ?_, fun _ => h1, ?_⟩
  · rw [hW1, hrc, hD]; exact run_enterLoop_outer _ _ _ _ _
  · simp only [resolve, hg]
    simp [go_sem]
  · intro f' hf'; simp [Target.leads] at hf'; subst hf'; exact hFg
  · simp [invoke, go_sem, eg]
  rw [← hD] at hI hIx hR hassign hbody hdone hstop hKb
  refine (hseq (D + 1) (fun k W => I k W ∧ Bk D (rc .ready none) W) (fun _ W => Ix W ∧ Bk D (rc .done (some .ret)) W) W1 hl1 ?_ ⟨hi1, hb1⟩).mono ?_
  · rintro k W ⟨hi, hb⟩ hk
    have hy := run_yield (P := P) (args := encs k) hb.1 (by rw [hrc]; exact hps k)
    rw [hrc] at hy
    refine ⟨fn, _, assign, body, hy, roundIn_of_wpIn hfn (hassign (D + 1) k W _ hi hk fun h W2 hk2 hkp2 hi2 hr2 => ?_)⟩
    have hb2 := hb.keep hk2
    refine ⟨_, run_beginRound hb2.1 (by rw [hrc]), ?_⟩
    obtain ⟨rb, hrb⟩ : ∃ rb : Loop, rb = { rc .ready none with state := .busy } := ⟨_, rfl⟩
    rw [← hrb]
    have hb3 := hb2.put rb
    refine wpIn_mono (hbody (D + 1) k h _ ((hI k).put hb2 rb hi2) ((hR k h).put hb2 rb hr2) hk) ?_
    have hkp3 : Kp W (W2.putObj (D + 1) (.loop rb)) := hKt hkp2 (hKb _ _ _ (Nat.le_succ _))
    have fin : ∀ (j : Option Code) (W4 : World), KeepsFrom D (W2.putObj (D + 1) (.loop rb)) W4 → (Instr.endRound (D + 1) j).run P W4 = .ok (.bool j.isNone) (W4.putObj (D + 1) (.loop (rc (if j.isNone then .ready else .done) j))) ∧ Bk D rb W4 := fun j W4 hk4 => by
      have hb4 := hb3.keep hk4
      have := run_endRound (P := P) j hb4.1
      rw [hrb, hrc] at this
      refine ⟨?_, hb4⟩
      rw [hrc]
      exact this
    rintro e a4 W4 hp
    cases e with
    | normal =>
      obtain ⟨hk4, hkp4, hi4⟩ := hp
      obtain ⟨hr, hb4⟩ := fin none W4 hk4
      exact ⟨_, _, hr, .inl ⟨rfl, ⟨(hI (k + 1)).put hb4 _ hi4, hb4.put _⟩, hKt (hKt hkp3 hkp4) (hKb _ _ _ (Nat.le_succ _))⟩⟩
    | ret =>
      obtain ⟨hk4, _, hi4⟩ := hp
      obtain ⟨hr, hb4⟩ := fin (some .ret) W4 hk4
      exact ⟨_, _, hr, .inr ⟨rfl, hIx.put hb4 _ hi4, hb4.put _⟩⟩
    | exit id => obtain ⟨_, h, _⟩ := hp; cases h
    | goto t => obtain ⟨_, h, _⟩ := hp; cases h
    | panic ch => exact hp.elim
    | outgrown => exact hp.elim
  · rintro e W2 ⟨⟨v, rfl⟩, ⟨hi, hb⟩ | ⟨k, _, hi, hb⟩⟩
    · refine ⟨none, W2.putObj (D + 1) (.loop { rc .ready none with state := .exhausted }), ?_, hdone D _ (Nat.le_refl _) ((hI N).put hb _ hi) (hb.put _).2⟩
      have := run_endLoop (P := P) hb.1 (by rw [hrc]; simp)
      rw [hrc] at this ⊢; exact this
    · refine ⟨some .ret, W2.putObj (D + 1) (.loop { rc .done (some .ret) with state := .exhausted }), ?_, hstop D _ (Nat.le_refl _) (hIx.put hb _ hi) (hb.put _).2⟩
      have := run_endLoop (P := P) hb.1 (by rw [hrc]; simp)
      rw [hrc] at this ⊢; exact this
end Go.Proofs.Ytafeddjcomeniaa
end

/- The way back up of tree.Put: what each step wants; pages' kids are never just one. Plain Lean, and what a written box leaves. No program here. Conditions: none. -/
section
namespace Go.Proofs.Ytafeddjcomeniaa
open Go Go.RowKit
set_option linter.unusedVariables false

/-- No page has just one kid. -/
def Two (S : List Pg) : Prop := ∀ p ∈ S, p.kids.length ≠ 1
theorem Two.app {S : List Pg} {p : Pg} (h : Two S) (hp : p.kids.length ≠ 1) : Two (S ++ [p]) := fun q hq => by
  rcases List.mem_append.mp hq with hq | hq
  · exact h q hq
  · rw [List.mem_singleton] at hq; subst hq; exact hp
theorem two_good {p : Pg} (hg : goodB p = true) (hn : 1 ≤ p.keys.length) : p.kids.length ≠ 1 := by
  rcases good_shape hg with ⟨_, _, h⟩ | ⟨_, _, h⟩
  · rw [h]; simp
  · omega
theorem two_addS {ill : Int} {s : Sh} {p : Pg} (h : Two s.S) (hp : p.kids.length ≠ 1) : Two (addS ill s p).1.S := by
  unfold addS
  split
  · exact h
  · exact h.app hp
theorem two_split {p a b : Pg} {k : ByteArray} (hg : goodB p = true) (h : splitP p = some (a, k, b)) : a.kids.length ≠ 1 ∧ b.kids.length ≠ 1 := by
  unfold splitP at h
  split at h
  · split at h
    · cases h
      exact ⟨by simp [partP], by simp [partP]⟩
    · cases h
  · rename_i hl
    split at h
    · rename_i h3
      cases h
      rcases good_shape hg with ⟨e, _⟩ | ⟨_, _, hk⟩
      · exact absurd e hl
      · constructor
        · show (p.kids.take (p.keys.length / 2 + 1)).length ≠ 1
          rw [List.length_take]; omega
        · show (p.kids.drop (p.keys.length / 2 + 1)).length ≠ 1
          rw [List.length_drop]; omega
    · cases h
theorem two_halves {ill : Int} {s : Sh} {p : Pg} (h : Two s.S) (hg : goodB p = true) (hn : 1 ≤ p.keys.length) : Two (halves ill s p).1.S := by
  unfold halves
  split
  · rename_i a k b hs
    have hs : splitP p = some (a, k, b) := by
      split at hs
      · exact hs
      · cases hs
    obtain ⟨ha, hb⟩ := two_split hg hs
    have h1 := two_addS (ill := ill) h ha
    generalize addS ill s a = o at *
    obtain ⟨s1, o⟩ := o
    cases o with
    | none => exact h1
    | some x =>
      dsimp only
      have h2 := two_addS (ill := ill) h1 hb
      dsimp only at h2
      generalize addS ill s1 b = o at *
      obtain ⟨s2, o⟩ := o
      cases o with
      | none => exact h2
      | some x => exact h2
  · have h1 := two_addS (ill := ill) h (two_good hg hn)
    generalize addS ill s p = o at *
    obtain ⟨s1, o⟩ := o
    cases o with
    | none => exact h1
    | some x => exact h1

/-- What a page that is put wants. -/
structure Puts (p : Pg) (s : Sh) : Prop where
  ok : Ok p
  ne : 1 ≤ p.keys.length
  n0 : 0 ≤ s.n
  n1 : s.n < 1000000000
  len : s.S.length ≤ 99990
/-- What each step on the way up wants, ahead of its add. -/
def Runs (ill : Int) (key val : ByteArray) : List (Pg × Nat) → Sh → Prop
  | [], _ => True
  | (p, i) :: rest, s =>
    match rest with
    | [] => p.leaf = true ∧ Ok p ∧ Puts (putP p key val) s
    | _ :: _ => Runs ill key val rest s ∧ p.leaf = false ∧ Ok p ∧ i ≤ p.keys.length ∧ ∀ s1 a, putW ill key val rest s = (s1, some a) → Puts (updP p i a) s1
theorem Runs.drop {ill : Int} {key val : ByteArray} {s : Sh} : ∀ {l : List (Pg × Nat)} (j : Nat), Runs ill key val l s → Runs ill key val (l.drop j) s
  | _, 0, h => h
  | [], _ + 1, h => h
  | [_], _ + 1, h => by simp [Runs]
  | _ :: y :: l, j + 1, h => by
    rw [List.drop_succ_cons]
    exact Runs.drop j h.1
theorem Runs.two {ill : Int} {key val : ByteArray} {s : Sh} (h2 : Two s.S) : ∀ {l : List (Pg × Nat)}, Runs ill key val l s → Two (putW ill key val l s).1.S
  | [], h => h2
  | [(p, i)], h => two_halves h2 h.2.2.ok.good h.2.2.ne
  | (p, i) :: y :: l, h => by
    have h1 := Runs.two h2 h.1
    have h5 := h.2.2.2.2
    unfold putW
    generalize putW ill key val (y :: l) s = o at *
    obtain ⟨s1, o⟩ := o
    cases o with
    | none => exact h1
    | some a =>
      have := h5 s1 a rfl
      exact two_halves h1 this.ok.good this.ne
theorem drop_get {α : Type} {l : List α} {j : Nat} {x : α} (h : l[j]? = some x) : l.drop j = x :: l.drop (j + 1) := by
  obtain ⟨hj, e⟩ := List.getElem?_eq_some_iff.1 h
  rw [List.drop_eq_getElem_cons hj, e]
/-- A step that is not the last. -/
theorem runs_at {ill : Int} {key val : ByteArray} {s : Sh} {l : List (Pg × Nat)} (h : Runs ill key val l s) {j : Nat} {p : Pg} {i : Nat} (hj : l[j]? = some (p, i)) (hlt : j + 1 < l.length) {s1 : Sh} {a : Added} (e : putW ill key val (l.drop (j + 1)) s = (s1, some a)) :
    p.leaf = false ∧ Ok p ∧ i ≤ p.keys.length ∧ Puts (updP p i a) s1 ∧ putW ill key val (l.drop j) s = halves ill s1 (updP p i a) := by
  have h1 := h.drop j
  rw [drop_get hj] at h1 ⊢
  obtain ⟨y, hy⟩ : ∃ y, l[j + 1]? = some y := ⟨_, List.getElem?_eq_getElem hlt⟩
  rw [drop_get hy] at h1 e ⊢
  obtain ⟨_, h2, h3, h4, h5⟩ := h1
  refine ⟨h2, h3, h4, h5 s1 a e, ?_⟩
  unfold putW
  rw [e]
theorem runs_last {ill : Int} {key val : ByteArray} {s : Sh} {l : List (Pg × Nat)} (h : Runs ill key val l s) {j : Nat} {p : Pg} {i : Nat} (hj : l[j]? = some (p, i)) (hlt : j + 1 = l.length) :
    p.leaf = true ∧ Ok p ∧ Puts (putP p key val) s ∧ putW ill key val (l.drop j) s = halves ill s (putP p key val) := by
  have h1 := h.drop j
  rw [drop_get hj, List.drop_of_length_le (by omega)] at h1 ⊢
  obtain ⟨h2, h3, h4⟩ := h1
  exact ⟨h2, h3, h4, rfl⟩
/-- A step that fails: so do all above. -/
theorem putW_none {ill : Int} {key val : ByteArray} {s s1 : Sh} {l : List (Pg × Nat)} : ∀ (j : Nat), j < l.length → putW ill key val (l.drop j) s = (s1, none) → putW ill key val l s = (s1, none)
  | 0, _, h => h
  | j + 1, hj, h => by
    refine putW_none j (by omega) ?_
    obtain ⟨⟨p, i⟩, hx⟩ : ∃ x, l[j]? = some x := ⟨_, List.getElem?_eq_getElem (by omega)⟩
    obtain ⟨y, hy⟩ : ∃ y, l[j + 1]? = some y := ⟨_, List.getElem?_eq_getElem hj⟩
    rw [drop_get hx]
    rw [drop_get hy] at h ⊢
    unfold putW
    rw [h]

section
variable {B b g : Nat} {w w' : World} {ill : Int} {s : Sh} {v : Value}
/-- A number's own cell is written: no page of the shelf has its kids there. -/
theorem PgV.box {cs : Array Value} {p : Pg} {x : Value} (h : PgV w cs p) (h1 : p.kids.length ≠ 1) (hb : Blk w g 27 #[x]) (hk : DKept (fun k => k = g) w w') : PgV w' cs p := by
  obtain ⟨A1, c1, A2, c2, A3, c3, e, hp⟩ := h
  refine ⟨A1, c1, A2, c2, A3, c3, e, hp.k.keep fun g' cs' hb' => hk.blk hb' fun e => hb'.ne_ hb (by decide) e, hp.v.keep fun g' cs' hb' => hk.blk hb' fun e => hb'.ne_ hb (by decide) e, hp.n.le, hp.n.cap, fun h0 => ?_⟩
  obtain ⟨g', o, cs', e', hb', hc⟩ := hp.n.at_ h0
  refine ⟨g', o, cs', e', hk.blk hb' fun e => ?_, hc⟩
  subst e
  have e2 : cs' = #[x] := by
    have hx : w.heap[g']? = some _ := hb
    have hy : w.heap[g']? = some _ := hb'
    rw [hx] at hy; cases hy; rfl
  subst e2
  have a0 := hc 0 _ (List.getElem?_eq_getElem h0)
  have a1 := hc 1 _ (List.getElem?_eq_getElem (by omega))
  have b0 := (Array.getElem?_eq_some_iff.1 a0).1
  have b1 := (Array.getElem?_eq_some_iff.1 a1).1
  simp at b0 b1
theorem ShAt.box {x : Value} (h : ShAt B w b ill s v) (h2 : Two s.S) (hb : Blk w g 27 #[x]) (hk : DKept (fun k => k = g) w w') : ShAt B w' b ill s v := by
  obtain ⟨L, h3, h4, h5⟩ := h.row
  refine ⟨hk.blk h.blk fun e => h.blk.ne_ hb (by decide) e, h.hb, L, ⟨h3.1, ?_⟩, h4, fun i cs p hi hp => (h5 i cs p hi hp).box (h2 p (List.mem_of_getElem? hp)) hb hk⟩
  rcases h3.2 with e | ⟨g', cap, cur, e, hg, hb', r⟩
  · exact .inl e
  · have hb' : Blk w g' _ _ := hb'
    exact .inr ⟨g', cap, cur, e, hg, hk.blk hb' fun e => hb'.ne_ hb (by decide) e, r⟩
theorem Sm.new {w0 : World} {t : TypeId} {cs : Array Value} (h : Sm w0 w) (hg : w0.heap.size ≤ g) (hk : DKept (fun k => k = g) w w') : Sm w0 w' := fun g' cs' =>
  ⟨fun x => hk.blk ((h g' cs').1 x) (by have := x.lt; omega), fun x => hk.blk ((h g' cs').2 x) (by have := x.lt; omega)⟩
/-- A number's new cell is written. -/
theorem Wr.box {w0 : World} {x : Value} (h : Wr B b ill s w0 w) (h2 : Two s.S) (hb : Blk w g 27 #[x]) (hk : DKept (fun k => k = g) w w') (hg : w0.heap.size ≤ g) (hB : B ≤ w0.heap.size) : Wr B b ill s w0 w' := by
  obtain ⟨v', hs⟩ := h.sh
  exact ⟨⟨v', hs.box h2 hb hk⟩, h.below.trans (hk.below (Nat.le_trans hB h.size) fun i e => by subst e; omega), fun g' t' cs' ht x => hk.blk (h.far g' t' cs' ht x) (by have := x.lt; omega), Sm.new (t := 27) (cs := #[]) h.sm hg hk, h.oth.trans (hk.others fun k e => by subst e; exact ⟨_, _, hb⟩)⟩
end
end Go.Proofs.Ytafeddjcomeniaa
end

/- A region that draws its order, within a round of a loop over a function: what goes outside goes there. No program here. Conditions: no operation defers; nothing is let out. -/
section
namespace Go.Proofs.Ytafeddjcomeniaa
open Go.RowKit
/-- An exit that no panic comes to. -/
def calm (Q : Exit → Act → World → Prop) : Exit → Act → World → Prop
  | .panic _, _, _ => False
  | e, a, w => Q e a w
theorem calm_le (Q : Exit → Act → World → Prop) : ∀ e a w, calm Q e a w → Q e a w := by
  intro e a w h
  cases e <;> first | exact h | exact False.elim h
theorem calm_n {Q : Exit → Act → World → Prop} {a : Act} {w : World} (h : Q .normal a w) : calm Q .normal a w := h
section
variable {P : Program} {ops : Array Oper} {Q : Exit → Act → World → Prop} {l n : Nat}
theorem oper_round {o : Oper} {a : Act} {w : World} {K : Act → World → Prop} (hd : ∀ c, o.op ≠ .defer c) (h : o.wp P a w K Q) : o.wpIn (Fence.wide.inRound l) n P a w K Q := by
  unfold Oper.wp at h
  refine ⟨fun _ _ => trivial, ?_⟩
  rw [Oper.semAt_eq _ _ _ hd]
  generalize (execOp a.eval o).run P w = r at *
  cases r with
  | ok x w' =>
    cases x <;> simp only [Oper.upon, Oper.uponIn] at h ⊢ <;>
      first
        | exact h
        | exact ⟨fun h => by simp [Fence.wide] at h, CallsIn.inRound l (callsIn_wide.2 h)⟩
        | exact ⟨fun h => by simp [Fence.wide] at h, fun c cs _ => by
            obtain ⟨v, w'', hv, hs⟩ := h c cs
            exact ⟨v, w'', hv, (stepsIn_wide (P := P)).2 hs⟩⟩
  | halt x w' => cases x <;> simp only [Oper.upon, Oper.uponIn] at h ⊢ <;> exact h
theorem wpOp_round (hd : ∀ (i : Nat) (o : Oper), ops[i]? = some o → ∀ c, o.op ≠ .defer c) (hQ : ¬ LetsOut Q) {i : Nat} {K : Act → World → Prop} {a : Act} {w : World} (h : wpOp P ops Q i K a w) : wpOpIn (Fence.wide.inRound l) n P ops Q i K a w := by
  unfold wpOp at h
  unfold wpOpIn
  cases ho : ops[i]? with
  | none => rw [ho] at h; exact h
  | some o =>
    rw [ho] at h
    simp only [] at h ⊢
    split
    · rename_i hw
      rw [if_pos hw] at h
      exact oper_round (hd i o ho) (h.resolve_right fun h => hQ h.2)
    · rename_i hw
      rw [if_neg hw] at h
      exact ⟨fun _ _ => trivial, h⟩
theorem wpAny_round (hd : ∀ (i : Nat) (o : Oper), ops[i]? = some o → ∀ c, o.op ≠ .defer c) (hQ : ¬ LetsOut Q) {md : Region.Mode} : ∀ (fuel : Nat) (listed : Array Bool) (a : Act) (w : World), wpAny P md ops Q fuel listed a w → wpAnyIn (Fence.wide.inRound l) n P md ops Q fuel listed a w
  | 0, _, _, _, h => h
  | fuel + 1, _, _, _, h => ⟨h.1, fun i hi => wpOp_round hd hQ (wpOp_mono (fun a' w' h' => wpAny_round hd hQ fuel _ a' w' h') (h.2 i hi))⟩
theorem round_region {id : Nat} {a : Act} {w : World} (hm : P.follows .mixedOrders = true) (hd : ∀ (i : Nat) (o : Oper), ops[i]? = some o → ∀ c, o.op ≠ .defer c) (hQ : ¬ LetsOut Q)
    (h : wpAny P .any ops Q ops.size (Array.replicate ops.size false) a w.drew) : (Code.region id ops true).wpIn (Fence.wide.inRound l) n P Q a w :=
  wpIn_region_any hm (wpAny_round hd hQ _ _ _ _ h)
def noDefer (ops : Array Oper) : Bool := ops.all fun o => match o.op with | .defer _ => false | _ => true
theorem noDefer_at (h : noDefer ops = true) (i : Nat) (o : Oper) (ho : ops[i]? = some o) (c) : o.op ≠ .defer c := by
  intro e
  unfold noDefer at h
  rw [Array.all_eq_true_iff_forall_mem] at h
  have := h o (Array.mem_of_getElem? ho)
  rw [e] at this
  cases this
theorem walk_startR {id : Nat} (j0 : Nat) {a : Act} {w : World} {S T : World → Prop} (hm : P.follows .mixedOrders = true) (F : Nat → Prop) (hB : ∀ W, T W → F W.heap.size) (hST : ∀ W, T W → S W) (hc : Closed T) (hT : T w.drew) (hd : noDefer ops = true) (hQ : ¬ LetsOut Q) (h : WalkS P .any ops Q j0 F ops.size [] (Array.replicate ops.size false) a S T) : (Code.region id ops true).wpIn (Fence.wide.inRound l) n P Q a w :=
  round_region hm (noDefer_at hd) hQ (wpAny_of_J (j0 := j0) (S := S) _ _ _ _ (
    h hB hST hc (fun _ h => (by cases h)) [] [] w.drew (List.Perm.refl _) hT ⟨(fun _ h => by cases h), List.nodup_nil⟩))
end
end Go.Proofs.Ytafeddjcomeniaa
end

/- page.Put on a leaf: a leaf that has a key. Conditions: the page reads in memory; it may be, and has few keys. -/
section
namespace Go.Proofs.Ytafeddjcomeniaa
open Go.RowKit
set_option linter.unusedVariables false
set_option linter.unusedSimpArgs false

/-- A page handed back. -/
def PgPost (w : World) (q : Pg) (e : Ending) (w' : World) : Prop := Below w.heap.size w w' ∧ ∃ cs, e = .returned (.agg cs) ∧ PgV w' cs q
theorem own_set {w : World} {B n : Nat} {A : Option Addr} {c i : Nat} {l : List ByteArray} {v : ByteArray} (h : w.ownsRow B 9 1 (.slice A n c) n (l.map Value.string)) (hi : i < n) (v : ByteArray) :
    ∃ g cs, A = some ⟨g, 0, none⟩ ∧ B ≤ g ∧ Blk w g 9 cs ∧ (∃ u, w.cell? ⟨g, i, none⟩ = some u) ∧ (w.setCell ⟨g, i, none⟩ (.string v)).ownsRow B 9 1 (.slice A n c) n ((l.set i v).map Value.string) := by
  rcases h.2 with ⟨e1, e2⟩ | ⟨g, cap, cur, e1, hg, hb, h2, h3, h4, h5⟩
  · omega
  · injection e1 with e1 _ e3
    subst e1 e3
    have hb : Blk w g 9 cur := hb
    rw [Nat.mul_one] at h4 h5
    have hl := h.1
    rw [Nat.mul_one] at hl
    refine ⟨g, cur, rfl, hg, hb, ⟨cur[i], by rw [hb.cell, Array.getElem?_eq_getElem (by omega)]⟩, by rw [List.length_map, List.length_set]; simpa using hl, .inr ⟨g, c, _, rfl, hg, hb.set_ i (.string v), h2, h3, by simp [h4], ?_⟩⟩
    rw [Nat.mul_one, Array.toList_setIfInBounds, List.take_set, h5, List.map_set]

section
variable {w : World} {A1 A2 A3 : Option Addr} {c1 c2 c3 : Nat} {ks vs : List ByteArray} {ns : List Int}
set_option maxRecDepth 100000 in
set_option maxHeartbeats 8000000 in
theorem put_a (key val : ByteArray) (h : PgA w A1 c1 A2 c2 A3 c3 ⟨true, ks, vs, ns⟩) (hk : ks.length ≤ 1000) (hr : Rise ks) (hv : vs.length = ks.length) (hn : ns.length ≤ 1000) : Calls Try.prog 32 #[.agg (pgc A1 c1 A2 c2 A3 c3 ⟨true, ks, vs, ns⟩), .string key, .string val] w (PgPost w (putP ⟨true, ks, vs, ns⟩ key val)) := by
  unfold pgc
  dsimp only at *
  obtain ⟨W1, hW1⟩ : ∃ W1, W1 = (w.alloc (.cells #[.bool true, .slice A1 ks.length c1, .slice A2 vs.length c2, .slice A3 ns.length c3] 54)).alloc (.cells #[.bool false, .slice none 0 0, .slice none 0 0, .slice none 0 0] 54) := ⟨_, rfl⟩
  have hb1 : Below w.heap.size w W1 := by rw [hW1]; exact (below_new _ _).alloc (by simp) _
  have hs1 : W1.heap.size = w.heap.size + 2 := by rw [hW1]; simp
  have kp : Blk W1 w.heap.size 54 #[.bool true, .slice A1 ks.length c1, .slice A2 vs.length c2, .slice A3 ns.length c3] := by rw [hW1]; exact (Blk.new _ _ _).alloc _
  have kz : Blk W1 (w.heap.size + 1) 54 #[.bool false, .slice none 0 0, .slice none 0 0, .slice none 0 0] := by
    rw [hW1]
    have := Blk.new (w.alloc (.cells #[.bool true, .slice A1 ks.length c1, .slice A2 vs.length c2, .slice A3 ns.length c3] 54)) 54 #[.bool false, .slice none 0 0, .slice none 0 0, .slice none 0 0]
    simpa using this
  have CC := Lib.hid (clone_own (h.sm (Sm.below hb1)) (show ks.length ≤ 1001 ∧ vs.length ≤ 1001 ∧ ns.length ≤ 1001 by omega))
  obtain ⟨q0, q1, q2, q3⟩ := cells4 kp
  have HW1 := Lib.hid hW1
  have HB1 := Lib.hid hb1
  have HKP := Lib.hid kp
  have HKZ := Lib.hid kz
  have HS1 := Lib.hid hs1
  have HR := Lib.hid hr
  have HV := Lib.hid hv
  have HK := Lib.hid hk
  clear h hr hv hk hn hW1 hb1 kp kz hs1
  unfold pgc at CC
  dsimp only at CC
  go_enter Try.func32, Try.ntmps32
  go_upto_region 1 with fail
  rw [← HW1.out]
  go_wp2_with fail
  refine CC.out.mono ?_
  rintro e w3 ⟨hb3, v1, v2, v3, rfl, ho3⟩
  have s1 := HS1.out
  have kp3 := HKP.out.below hb3 HKP.out.lt
  have kz3 := HKZ.out.below hb3 HKZ.out.lt
  have u := upd4 kp3 (.bool true) v1 v2 v3
  obtain ⟨W4, hW4⟩ : ∃ W4, W4 = (((w3.setCell ⟨w.heap.size, 0, none⟩ (.bool true)).setCell ⟨w.heap.size, 1, none⟩ v1).setCell ⟨w.heap.size, 2, none⟩ v2).setCell ⟨w.heap.size, 3, none⟩ v3 := ⟨_, rfl⟩
  rw [← hW4] at u
  obtain ⟨B1, d1, e1⟩ := own_shape ho3.k
  obtain ⟨B2, d2, e2⟩ := own_shape ho3.v
  obtain ⟨B3, d3, e3⟩ := own_shape ho3.n
  subst e1 e2 e3
  have ho4 := ho3.upd u kp3 (by decide) (by decide)
  have kp4 := u.blk
  have kz4 := u.far kz3 (by omega)
  have hb4 : Below w.heap.size w W4 := u.below (HB1.out.trans (hb3.mono HB1.out.size)) (Nat.le_refl _) (Nat.le_refl _)
  obtain ⟨B1', d1', B2', d2', B3', d3', x1, x2, x3, hp4⟩ := ho4.rows
  injection x1 with x1 _ x1'
  injection x2 with x2 _ x2'
  injection x3 with x3 _ x3'
  subst x1 x1' x2 x2' x3 x3'
  have CF := find_a key hp4 HK.out HR.out
  unfold pgc at CF
  dsimp only at CF
  have CF := Lib.hid CF
  obtain ⟨z0, z1, z2, z3⟩ := cells4 kp3
  obtain ⟨f0, f1, f2, f3⟩ := frozen4 kp3
  obtain ⟨y0, y1, y2, y3⟩ := cells4 kp4
  have HO4 := Lib.hid ho4
  have HKP4 := Lib.hid kp4
  have HKZ4 := Lib.hid kz4
  have HB4 := Lib.hid hb4
  have HS4 : Hid (W1.heap.size ≤ W4.heap.size) := Lib.hid (by rw [u.size]; exact hb3.size)
  have HW4 := Lib.hid hW4
  clear hb3 ho3 kp3 kz3 u hW4 ho4 kp4 kz4 hb4 hp4 CC q0 q1 q2 q3
  go_upto_region 4 with fail
  rw [← HW4.out]
  go_wp2_with fail
  refine CF.out.mono ?_
  rintro e w5 ⟨rfl, hb5⟩
  have ho5 := HO4.out.later hb5
  have kp5 := HKP4.out.below hb5 HKP4.out.lt
  have kz5 := HKZ4.out.below hb5 HKZ4.out.lt
  have hbw : Below w.heap.size w w5 := HB4.out.trans (hb5.mono HB4.out.size)
  have hs5 : w.heap.size + 2 ≤ w5.heap.size := by have := HS4.out; have := hb5.size; omega
  have hle := findN_le ks key
  have hpu : putP ⟨true, ks, vs, ns⟩ key val = if thereB ks key then ⟨true, ks, vs.set (findN ks key) val, ns⟩ else ⟨true, ks.take (findN ks key) ++ [key] ++ ks.drop (findN ks key), vs.take (findN ks key) ++ [val] ++ vs.drop (findN ks key), ns⟩ := rfl
  have hth : thereB ks key = true → findN ks key < ks.length := fun h => by
    unfold thereB at h
    simp only [Bool.and_eq_true, decide_eq_true_eq] at h
    exact h.1
  rw [s1] at ho5
  generalize findN ks key = f at *
  have HTH := Lib.hid hth
  have HPU := Lib.hid hpu
  clear hb5 CF z0 z1 z2 z3 f0 f1 f2 f3 y0 y1 y2 y3 HO4 HKP4 HKZ4 HB4 HS4 HW4 hpu hth
  cases hT : thereB ks key with
  | true =>
    have hlt := HTH.out hT
    have hvl := HV.out
    obtain ⟨g, cur, rfl, hg, hbg, ⟨u0, hu0⟩, hset⟩ := own_set (v := val) ho5.v (show f < vs.length by omega) val
    obtain ⟨W6, hW6⟩ : ∃ W6, W6 = w5.setCell ⟨g, f, none⟩ (.string val) := ⟨_, rfl⟩
    have u6 := upd1 hbg f (.string val)
    rw [← hW6] at hset u6
    have n1 : (Value.slice B1 ks.length d1).ownBlock ≠ some g := fun e => ho5.ne g e rfl
    have ho6 : PgOwn W6 (w.heap.size + 2) (.slice B1 ks.length d1) (.slice (some ⟨g, 0, none⟩) vs.length d2) (.slice B3 ns.length d3) ⟨true, ks, vs.set f val, ns⟩ := ⟨own_upd ho5.k u6 n1, by simpa using hset, own_upd ho5.n u6 (own_blk ho5.n hbg (by decide)), ho5.ne⟩
    have kp6 := u6.far kp5 (show w.heap.size ≠ g by omega)
    have kz6 := u6.far kz5 (show w.heap.size + 1 ≠ g by omega)
    have hb6 : Below w.heap.size w W6 := u6.below hbw (by omega) (Nat.le_refl _)
    have u7 := upd4 kz6 (.bool true) (.slice B1 ks.length d1) (.slice (some ⟨g, 0, none⟩) vs.length d2) (.slice B3 ns.length d3)
    have hfz := hbg.frozen f
    obtain ⟨x0, x1, x2, x3⟩ := cells4 kp5
    obtain ⟨y0, y1, y2, y3⟩ := cells4 kp6
    obtain ⟨z0, z1, z2, z3⟩ := cells4 kz6
    obtain ⟨f0, f1, f2, f3⟩ := frozen4 kz6
    have i1 : (0 : Int) ≤ (f : Int) := by omega
    have i2 : (f : Int) < (vs.length : Int) := by omega
    have i3 : f < vs.length := by omega
    have HU7 := Lib.hid u7
    have HT := Lib.hid hT
    have HO6 := Lib.hid (ho6.upd u7 kz6 (by decide) (by decide))
    have HB6 := Lib.hid hb6
    have HW6 := Lib.hid hW6
    clear hset u6 n1 ho6 kp6 kz6 hb6 u7 hW6 hbg ho5 kp5 kz5 hbw hs5 hle hT hlt hvl hg s1
    go_upto_region 7 with fail
    rw [← HW6.out]
    go_wp2_with fail
    refine bodyPost_ret_by (results_c1 rfl _ _ (w.heap.size + 1) 54 _ (0, 0) _ rfl HU7.out.blk Try.underlying54 rfl (by kernel_rfl)) rfl ?_
    rw [HPU.out, if_pos HT.out]
    exact ⟨HU7.out.below HB6.out (by omega) (Nat.le_refl _), _, rfl, HO6.out.pgv⟩
  | false =>
    obtain ⟨L1, hL1⟩ : ∃ L, L = ks.take f ++ [key] ++ ks.drop f := ⟨_, rfl⟩
    obtain ⟨L2, hL2⟩ : ∃ L, L = vs.take f ++ [val] ++ vs.drop f := ⟨_, rfl⟩
    have hHP := HPU.out
    rw [hT, if_neg Bool.false_ne_true, ← hL1, ← hL2] at hHP
    have HP := Lib.hid hHP
    have HLK := Lib.hid hL1
    have HLV := Lib.hid hL2
    have SF : Hid (∀ V, Below (w.heap.size + 2) w5 V → V.cell? ⟨w.heap.size, 0, none⟩ = some (.bool true) ∧ V.cell? ⟨w.heap.size, 1, none⟩ = some (.slice B1 ks.length d1) ∧ V.cell? ⟨w.heap.size, 2, none⟩ = some (.slice B2 vs.length d2) ∧ V.cell? ⟨w.heap.size, 3, none⟩ = some (.slice B3 ns.length d3)) := Lib.hid fun V hV => cells4 (kp5.below hV (by omega))
    have HO5 := Lib.hid ho5
    have HKP := Lib.hid kp5
    have HKZ := Lib.hid kz5
    have HBW := Lib.hid hbw
    clear hHP hL1 hL2 ho5 kp5 kz5 hbw hT
    go_wp2_with fail
    have HL0 := Lib.hid (Later.refl w5)
    have ZF0 : Hid (∀ s, w5.heap.size ≤ s → w5.heap.size ≤ s) := Lib.hid (fun _ h => h)
    have ZS0 : Hid (∀ V, Later w5 V → (Below (w.heap.size + 2) w5) V) := Lib.hid (fun V' h => (show Below _ _ _ from h).mono (show w.heap.size + 2 ≤ w5.heap.size by first | omega | (simp; done) | (simp; omega)))
    refine walk_start 13 (S := Below (w.heap.size + 2) w5) (T := Later w5) (by kernel_rfl) (fun r => w5.heap.size ≤ r) (fun _ h => h.size) ZS0.out (closed_later _) (Later.refl _).drew ?_
    refine wt 0 28 ?_ (fun V hV => ?_) ?_
    rotate_left 1
    · (clear hV; go_simp; (try with_reducible rfl))
    try simp only [pa, List.set]
    refine wt 1 29 ?_ (fun V hV => ?_) ?_
    rotate_left 1
    · (obtain ⟨q0, q1, q2, q3⟩ := SF.out V hV; clear hV; go_simp; (try with_reducible rfl))
    try simp only [pa, List.set]
    refine wt 2 30 ?_ (fun V hV => ?_) ?_
    rotate_left 1
    · (clear hV; go_simp; (try with_reducible rfl))
    try simp only [pa, List.set]
    refine wt 3 31 ?_ (fun V hV => ?_) ?_
    rotate_left 1
    · (clear hV; go_simp; (try with_reducible rfl))
    try simp only [pa, List.set]
    refine wt 6 34 ?_ (fun V hV => ?_) ?_
    rotate_left 1
    · (clear hV; go_simp; (try with_reducible rfl))
    try simp only [pa, List.set]
    refine wt 7 35 ?_ (fun V hV => ?_) ?_
    rotate_left 1
    · (obtain ⟨q0, q1, q2, q3⟩ := SF.out V hV; clear hV; go_simp; (try with_reducible rfl))
    try simp only [pa, List.set]
    refine wt 8 36 ?_ (fun V hV => ?_) ?_
    rotate_left 1
    · (clear hV; go_simp; (try with_reducible rfl))
    try simp only [pa, List.set]
    refine wt 9 37 ?_ (fun V hV => ?_) ?_
    rotate_left 1
    · (clear hV; go_simp; (try with_reducible rfl))
    try simp only [pa, List.set]
    refine walk_pend ⟨10, 38, (.cells #[.string val] 9), fun r => .slice (some ⟨r, 0, none⟩) 1 1⟩ ⟨_, rfl, rfl, rfl, fun W => ?_⟩ ?_
    · (go_simp; (try with_reducible rfl))
    refine walk_pend ⟨4, 32, (.cells #[.string key] 9), fun r => .slice (some ⟨r, 0, none⟩) 1 1⟩ ⟨_, rfl, rfl, rfl, fun W => ?_⟩ ?_
    · (go_simp; (try with_reducible rfl))
    refine walk_force (by kernel_rfl) (by kernel_rfl) (by kernel_rfl) (by kernel_rfl) (fun r4 x4 hV hr4 hB4 => ?_)
    have lt4 : r4 < x4.heap.size := (Array.getElem?_eq_some_iff.1 hr4).1
    have HL1 := Lib.hid (HL0.out.trans hV)
    have ZF1 : Hid (∀ s, x4.heap.size ≤ s → _ ∧ s ≠ r4) := Lib.hid (fun s h => ⟨ZF0.out s (Nat.le_trans hV.size h), Nat.ne_of_gt (Nat.lt_of_lt_of_le lt4 h)⟩)
    have ZS1 : Hid (∀ V, Later x4 V → (Below (w.heap.size + 2) w5) V) := Lib.hid (fun V' h => ZS0.out V' (hV.trans h))
    refine ⟨Below (w.heap.size + 2) w5, Later x4, Later.refl _, fun _ h => h, ZS1.out, fun V' h => ZF0.out _ (Nat.le_trans hV.size h.size), fun V' h => Nat.lt_of_lt_of_le lt4 h.size, closed_later _, ?_⟩
    try simp only [pa, List.set]
    have HT4 := Lib.hid hV
    clear hV
    refine walk_core 5 rfl (by kernel_rfl) (fun _ _ _ _ _ h => h) (fun V hV K hK => ?_)
    have hV0 := HL1.out.trans hV
    have hSV := ZS1.out V hV
    go_simp
    go_at_call 36
    have k4 : Blk V r4 9 #[.string key] := Blk.below (show Blk x4 r4 _ _ from hr4) hV lt4
    have hr4b : w5.heap.size ≤ r4 := hB4
    have hlt5 := fun (r : Nat) (h : (Value.slice B1 ks.length d1).ownBlock = some r) => (HO5.out.k.lt r h).2
    have hsv : w5.heap.size ≤ V.heap.size := (show Below _ _ _ from hV0).size
    refine (insLS key (own_later HO5.out.k hV0) (Nat.le_trans hs5 hsv) hle (by have := HK.out; show ks.length ≤ _; omega) k4 (fun e => by have := hlt5 _ e; omega)).mono ?_
    rw [← HLK.out]
    rintro e x5 ⟨E1, e1, rfl, h5, hk5, hn5⟩
    have hsize := hk5.size
    have hkeep := fun (r : Nat) (hF : w5.heap.size ≤ r ∧ r ≠ r4) (hl : r < V.heap.size) => hk5.block r hl (fun h => by have := hlt5 r h; omega)
    have hS := fun V' (h : Later x5 V') => (show Below (w.heap.size + 2) w5 V from (show Below _ _ _ from hV0).mono hs5).trans ((hk5.below (Nat.le_trans hs5 hsv) (fun i h => (HO5.out.k.lt i h).1)).trans ((show Below _ _ _ from h).mono (Nat.le_trans hs5 (Nat.le_trans hsv hsize))))
    have hold := fun (r : Nat) (hF : w5.heap.size ≤ r ∧ r ≠ r4) (hl : r < V.heap.size) => (⟨hF, fun e => by
      rcases hn5 r e with h | h
      · have := hlt5 r h; omega
      · omega⟩ : (w5.heap.size ≤ r ∧ r ≠ r4) ∧ (Value.slice E1 L1.length e1).ownBlock ≠ some r)
    have hnew := fun (s : Nat) (h : x5.heap.size ≤ s) (hF : w5.heap.size ≤ s ∧ s ≠ r4) => (⟨hF, fun e => by have := (h5.lt s e).2; omega⟩ : (w5.heap.size ≤ s ∧ s ≠ r4) ∧ (Value.slice E1 L1.length e1).ownBlock ≠ some s)
    have HO : Hid (PgOwn x5 (w.heap.size + 2) (.slice E1 L1.length e1) (.slice B2 vs.length d2) (.slice B3 ns.length d3) ⟨true, L1, vs, ns⟩) := Lib.hid ⟨h5, own_kept (own_later HO5.out.v hV0) hk5 (fun g hg h => HO5.out.ne g h hg), own_kept (own_later HO5.out.n hV0) hk5 (fun g hg h => own_ne HO5.out.k HO5.out.n (by decide) h hg), fun g h h' => by
      rcases hn5 g h with h'' | h''
      · exact HO5.out.ne g h'' h'
      · have := (HO5.out.v.lt g h').2; omega⟩
    have HS55 := Lib.hid (Nat.le_trans hsv hsize)
    clear k4 hlt5 hsv h5 hk5 hn5
    have ZF2 : Hid (∀ s, x5.heap.size ≤ s → (fun s => (w5.heap.size ≤ s ∧ s ≠ r4) ∧ (Value.slice E1 L1.length e1).ownBlock ≠ some s) s) := Lib.hid (fun s h => hnew s h (ZF1.out s (Nat.le_trans hV.size (Nat.le_trans hsize h))))
    have ZS2 : Hid (∀ V, Later x5 V → (Below (w.heap.size + 2) w5) V) := Lib.hid hS
    refine hK.out _ _ (Below (w.heap.size + 2) w5) (Later x5) (fun s => (w5.heap.size ≤ s ∧ s ≠ r4) ∧ (Value.slice E1 L1.length e1).ownBlock ≠ some s) hkeep hold (fun _ h => h) ZS2.out (fun V' h => ZF2.out _ h.size) (Later.refl _) (closed_later _) ?_
    clear hK K hV hsize hkeep hV0 hSV hS hnew hold
    try simp only [pa, List.set]
    refine wt 12 40 ?_ (fun V hV => ?_) ?_
    rotate_left 1
    · (clear hV; go_simp; (try with_reducible rfl))
    try simp only [pa, List.set]
    refine walk_force (by kernel_rfl) (by kernel_rfl) (by kernel_rfl) (by kernel_rfl) (fun r10 x10 hV hr10 hB10 => ?_)
    have lt10 : r10 < x10.heap.size := (Array.getElem?_eq_some_iff.1 hr10).1
    have ZF3 : Hid (∀ s, x10.heap.size ≤ s → _ ∧ s ≠ r10) := Lib.hid (fun s h => ⟨ZF2.out s (Nat.le_trans hV.size h), Nat.ne_of_gt (Nat.lt_of_lt_of_le lt10 h)⟩)
    have ZS3 : Hid (∀ V, Later x10 V → (Below (w.heap.size + 2) w5) V) := Lib.hid (fun V' h => ZS2.out V' (hV.trans h))
    refine ⟨Below (w.heap.size + 2) w5, Later x10, Later.refl _, fun _ h => h, ZS3.out, fun V' h => ZF2.out _ (Nat.le_trans hV.size h.size), fun V' h => Nat.lt_of_lt_of_le lt10 h.size, closed_later _, ?_⟩
    try simp only [pa, List.set]
    have HT10 := Lib.hid hV
    clear hV
    refine walk_core 11 rfl (by kernel_rfl) (fun _ _ _ _ _ h => h) (fun V hV K hK => ?_)
    have hSV := ZS3.out V hV
    go_simp
    go_at_call 36
    have h5V : Later x5 V := HT10.out.trans hV
    have k10 : Blk V r10 9 #[.string val] := Blk.below (show Blk x10 r10 _ _ from hr10) hV lt10
    have hsv : x5.heap.size ≤ V.heap.size := (show Below _ _ _ from h5V).size
    have hz := HS55.out
    have hlt11 := fun (r : Nat) (h : (Value.slice B2 vs.length d2).ownBlock = some r) => (HO5.out.v.lt r h).2
    have hr10b : w5.heap.size ≤ r10 := hB10.1.1
    refine (insLS val (own_later HO.out.v h5V) (by omega) (by have := HV.out; show f ≤ vs.length; omega) (by have := HK.out; have := HV.out; show vs.length ≤ _; omega) k10 (fun e => by have := hlt11 _ e; omega)).mono ?_
    rw [← HLV.out]
    rintro e x11 ⟨E2, e2, rfl, h11, hk11, hn11⟩
    have hsize := hk11.size
    have hkeep := fun (r : Nat) (hF : ((w5.heap.size ≤ r ∧ r ≠ r4) ∧ (Value.slice E1 L1.length e1).ownBlock ≠ some r) ∧ r ≠ r10) (hl : r < V.heap.size) => hk11.block r hl (fun h => by have := hlt11 r h; have := hF.1.1.1; omega)
    have hS := fun V' (h : Later x11 V') => (show Below (w.heap.size + 2) w5 V from hSV).trans ((hk11.below (by omega) (fun i h => (HO5.out.v.lt i h).1)).trans ((show Below _ _ _ from h).mono (by omega)))
    have HO2 : Hid (PgOwn x11 (w.heap.size + 2) (.slice E1 L1.length e1) (.slice E2 L2.length e2) (.slice B3 ns.length d3) ⟨true, L1, L2, ns⟩) := Lib.hid ⟨own_kept (own_later HO.out.k h5V) hk11 (fun g hg h => HO.out.ne g hg h), h11, own_kept (own_later HO.out.n h5V) hk11 (fun g hg h => own_ne HO.out.v HO.out.n (by decide) h hg), fun g h h' => by
      rcases hn11 g h' with h'' | h''
      · exact HO.out.ne g h h''
      · have := (HO.out.k.lt g h).2; omega⟩
    clear k10 hsv hz hlt11 h11 hk11 hn11 h5V
    have ZF4 : Hid (∀ s, x11.heap.size ≤ s → _) := Lib.hid (fun s h => ZF3.out s (Nat.le_trans hV.size (Nat.le_trans hsize h)))
    have ZS4 : Hid (∀ V, Later x11 V → (Below (w.heap.size + 2) w5) V) := Lib.hid hS
    refine hK.out _ _ (Below (w.heap.size + 2) w5) (Later x11) _ hkeep (fun _ h _ => h) (fun _ h => h) ZS4.out (fun V' h => ZF4.out _ h.size) (Later.refl _) (closed_later _) ?_
    clear hK K hV hsize hkeep hSV hS
    try simp only [pa, List.set]
    refine walk_exit (fun V hV => ?_)
    have hSV := ZS4.out V hV
    try simp only [pa, List.set]
    have kp := HKP.out.below hSV (by omega)
    have kz := HKZ.out.below hSV (by omega)
    have ho := HO2.out.later hV
    have u8 := upd1 kp 1 (.slice E1 L1.length e1)
    obtain ⟨W8, hW8⟩ : ∃ W8, W8 = V.setCell ⟨w.heap.size, 1, none⟩ (.slice E1 L1.length e1) := ⟨_, rfl⟩
    rw [← hW8] at u8
    have kp8 : Blk W8 w.heap.size 54 #[.bool true, .slice E1 L1.length e1, .slice B2 vs.length d2, .slice B3 ns.length d3] := u8.blk
    have u9 := upd1 kp8 2 (.slice E2 L2.length e2)
    obtain ⟨W9, hW9⟩ : ∃ W9, W9 = W8.setCell ⟨w.heap.size, 2, none⟩ (.slice E2 L2.length e2) := ⟨_, rfl⟩
    rw [← hW9] at u9
    have kp9 : Blk W9 w.heap.size 54 #[.bool true, .slice E1 L1.length e1, .slice E2 L2.length e2, .slice B3 ns.length d3] := u9.blk
    have kz9 := u9.far (u8.far kz (show w.heap.size + 1 ≠ w.heap.size by omega)) (show w.heap.size + 1 ≠ w.heap.size by omega)
    have hb9 : Below w.heap.size w W9 := u9.below (u8.below (HBW.out.trans ((show Below (w.heap.size + 2) w5 V from hSV).mono (by omega))) (Nat.le_refl _) (Nat.le_refl _)) (Nat.le_refl _) (Nat.le_refl _)
    have u7 := upd4 kz9 (.bool true) (.slice E1 L1.length e1) (.slice E2 L2.length e2) (.slice B3 ns.length d3)
    have ho7 := ((ho.upd u8 kp (by decide) (by decide)).upd u9 kp8 (by decide) (by decide)).upd u7 kz9 (by decide) (by decide)
    obtain ⟨z0, z1, z2, z3⟩ := cells4 kp
    obtain ⟨f0, f1, f2, f3⟩ := frozen4 kp
    obtain ⟨y0, y1, y2, y3⟩ := cells4 kp8
    obtain ⟨g0, g1, g2, g3⟩ := frozen4 kp8
    obtain ⟨x0, x1, x2, x3⟩ := cells4 kp9
    obtain ⟨j0, j1, j2, j3⟩ := cells4 kz9
    obtain ⟨i0, i1, i2, i3⟩ := frozen4 kz9
    have HU7 := Lib.hid u7
    have HO7 := Lib.hid ho7
    have HB9 := Lib.hid hb9
    have HW8 := Lib.hid hW8
    have HW9 := Lib.hid hW9
    clear kp kz ho u8 kp8 u9 kp9 kz9 hb9 u7 ho7 hW8 hW9 hSV hV
    refine wpAnyJ_one (i := 13) (by kernel_rfl) rfl (fun K hK => ?_)
    simp only [List.getElem_toArray, List.getElem_cons_succ, List.getElem_cons_zero]
    go_simp
    refine hK.out _ _ (fun h _ => absurd rfl h) ?_
    clear hK K
    try simp only [pa, List.set]
    rw [← HW8.out]
    clear z0 z1 z2 z3 f0 f1 f2 f3
    refine wpAnyJ_pure (i := 14) (d := some 41) (v := ?_) (by kernel_rfl) rfl rfl (Or.inl ⟨by rfl, ?_⟩) (fun _ h => absurd ((show _ = true by kernel_rfl).symm.trans h) (by decide)) ?_
    rotate_left 1
    · (intro V; go_simp; (try with_reducible rfl))
    try simp only [pa, List.set]
    refine wpAnyJ_one (i := 15) (by kernel_rfl) rfl (fun K hK => ?_)
    simp only [List.getElem_toArray, List.getElem_cons_succ, List.getElem_cons_zero]
    go_simp
    refine hK.out _ _ (fun _ h => absurd ((show _ = true by kernel_rfl).symm.trans h) (by decide)) ?_
    clear hK K
    try simp only [pa, List.set]
    refine wpAnyJ_done (by kernel_rfl) ?_ _
    rw [← HW9.out]
    clear y0 y1 y2 y3 g0 g1 g2 g3
    go_wp2_with fail
    refine bodyPost_ret_by (results_c1 rfl _ _ (w.heap.size + 1) 54 _ (0, 0) _ rfl HU7.out.blk Try.underlying54 rfl (by kernel_rfl)) rfl ?_
    rw [HP.out]
    exact ⟨HU7.out.below HB9.out (by omega) (Nat.le_refl _), _, rfl, HO7.out.pgv⟩
end
theorem put_v {w : World} {cs : Array Value} {p : Pg} (key val : ByteArray) (h : PgV w cs p) (ho : Ok p) (hl : p.leaf = true) : Calls Try.prog 32 #[.agg cs, .string key, .string val] w (PgPost w (putP p key val)) := by
  obtain ⟨A1, c1, A2, c2, A3, c3, rfl, h⟩ := h
  have hf := good_few ho
  have hr := good_rise ho.good
  rcases good_shape ho.good with ⟨_, a, b⟩ | ⟨e, _⟩
  · obtain ⟨lf, ks, vs, ns⟩ := p
    obtain rfl : lf = true := hl
    obtain rfl : ns = [] := b
    exact put_a key val h hf.1 hr a (by simp)
  · rw [hl] at e; cases e
end Go.Proofs.Ytafeddjcomeniaa
end

/- What lies in memory between two rounds of tree.Put's and tree.Drop's loops. No program here. Conditions: none. -/
section
namespace Go.Proofs.Ytafeddjcomeniaa
open Go.RowKit
set_option linter.unusedVariables false
set_option linter.unusedSimpArgs false

theorem Blk.c0 {w : World} {g : Nat} {t : TypeId} {x : Value} (h : Blk w g t #[x]) : w.cell? ⟨g, 0, none⟩ = some x := (h.cell 0).trans rfl
section
variable {B b : Nat} {w w' w0 : World} {ill : Int} {s : Sh} {v : Value}
theorem ShAt.cells (h : ShAt B w b ill s v) (hk : ∀ g t cs, Blk w g t cs → Blk w' g t cs) : ShAt B w' b ill s v := by
  obtain ⟨L, h3, h4, h5⟩ := h.row
  refine ⟨hk _ _ _ h.blk, h.hb, L, ⟨h3.1, ?_⟩, h4, fun i cs p hi hp => ?_⟩
  · rcases h3.2 with e | ⟨g', cap, cur, e, hg, hb', r⟩
    · exact .inl e
    · exact .inr ⟨g', cap, cur, e, hg, hk _ _ _ hb', r⟩
  · obtain ⟨A1, c1, A2, c2, A3, c3, e, hp⟩ := h5 i cs p hi hp
    exact ⟨A1, c1, A2, c2, A3, c3, e, hp.k.keep fun g cs => hk g _ cs, hp.v.keep fun g cs => hk g _ cs, hp.n.keep fun g cs => hk g _ cs⟩
theorem blk_row {W : World} {g : Nat} {t : TypeId} {cs : Array Value} {row : Option Nat} (h : Blk W g t cs) (hr : ∀ r, row = some r → ∃ o : Obj, W.heap[r]? = some o ∧ o.isCells = false) : some g ≠ row := by
  intro e
  obtain ⟨o, ho, hc⟩ := hr g e.symm
  unfold Blk at h
  rw [h] at ho
  injection ho with ho
  subst ho
  cases hc
theorem Wr.grown {row : Option Nat} (h : Wr B b ill s w0 w) (hB : B ≤ w0.heap.size) (hg : w.grownBy w' row) (hr : ∀ r, row = some r → w0.heap.size ≤ r ∧ ∃ o : Obj, w.heap[r]? = some o ∧ o.isCells = false) : Wr B b ill s w0 w' := by
  have hk : ∀ g t cs, Blk w g t cs → Blk w' g t cs := fun g t cs hb => hb.grown hg (blk_row hb fun r e => (hr r e).2)
  obtain ⟨v', hs⟩ := h.sh
  refine ⟨⟨v', hs.cells hk⟩, h.below.grown hg (Nat.le_trans hB h.size) fun k e => by have := (hr k e).1; omega, fun g t cs ht x => hk _ _ _ (h.far g t cs ht x), fun g cs => ⟨fun x => hk _ _ _ ((h.sm g cs).1 x), fun x => hk _ _ _ ((h.sm g cs).2 x)⟩, ⟨Nat.le_trans h.size hg.size, fun k o hk' hc => ?_⟩⟩
  have h1 := h.oth.same k o hk' hc
  refine (hg.block k (Array.getElem?_eq_some_iff.1 h1).1 fun e => ?_).trans h1
  have := (hr k e.symm).1
  have := (Array.getElem?_eq_some_iff.1 hk').1
  omega
/-- What a change of a tree answers. -/
def TPost (B b : Nat) (ill : Int) (s' : Sh) (n er : Int) (w : World) (e : Ending) (w' : World) : Prop := e = .returned (.tuple #[.int .u64 n, .int .i64 er]) ∧ Wr B b ill s' w w'
def putT (ill : Int) (key val : ByteArray) (root : Int) (l : List (Pg × Nat)) (s : Sh) : Sh × Int × Int :=
  if root = 0 then
    match addS ill s ⟨true, [key], [val], []⟩ with
    | (s1, none) => (s1, 0, 4)
    | (s1, some n) => (s1, n, 0)
  else if s.n < ill ∧ ill ≤ s.n + l.length then (⟨s.S, ill⟩, 0, 4)
  else match putW ill key val l ⟨s.S, s.n + l.length⟩ with
    | (s1, none) => (s1, 0, 4)
    | (s1, some ⟨n, none⟩) => (s1, n, 0)
    | (s1, some ⟨n, some (k, o)⟩) =>
      match addS ill s1 (rootP k n o) with
      | (s2, none) => (s2, 0, 4)
      | (s2, some m) => (s2, m, 0)
theorem Wr.of_kept {s' : Sh} {v' : Value} (h : ShAt B w b ill s v) (hk : DKept (fun k => k = b) w w') (hm : Sm w w') (hs : ShAt B w' b ill s' v') (hB : B ≤ w.heap.size) : Wr B b ill s' w w' :=
  ⟨⟨v', hs⟩, hk.below hB fun i e => by subst e; exact h.hb, fun g t cs ht x => hk.blk x fun e => x.ne_ h.blk ht.h e, hm, hk.others fun k e => by subst e; exact ⟨_, _, h.blk⟩⟩
theorem far_shelf : Far 79 := ⟨by decide, by decide, by decide, by decide⟩
theorem far_err : Far 28 := ⟨by decide, by decide, by decide, by decide⟩
/-- The two results are written. -/
theorem exit_two {r1 r2 : Nat} {x y n er : Int} (h : Wr B b ill s w0 w) (h2 : Two s.S) (k1 : Blk w r1 27 #[.int .u64 x]) (k2 : Blk w r2 28 #[.int .i64 y]) (h1 : w0.heap.size ≤ r1) (h3 : w0.heap.size ≤ r2) (hB : B ≤ w0.heap.size) :
    Wr B b ill s w0 ((w.setCell ⟨r1, 0, none⟩ (.int .u64 n)).setCell ⟨r2, 0, none⟩ (.int .i64 er)) ∧ ((w.setCell ⟨r1, 0, none⟩ (.int .u64 n)).setCell ⟨r2, 0, none⟩ (.int .i64 er)).cell? ⟨r1, 0, none⟩ = some (.int .u64 n) ∧ ((w.setCell ⟨r1, 0, none⟩ (.int .u64 n)).setCell ⟨r2, 0, none⟩ (.int .i64 er)).cell? ⟨r2, 0, none⟩ = some (.int .i64 er) := by
  have hne : r1 ≠ r2 := fun e => by subst e; exact k1.ne_ k2 (by decide) rfl
  have hw1 := h.box h2 k1 (w' := w.setCell ⟨r1, 0, none⟩ (.int .u64 n)) ((DKept.refl (S := fun k => k = r1)).set rfl) h1 hB
  have q1 : Blk (w.setCell ⟨r1, 0, none⟩ (.int .u64 n)) r1 27 #[.int .u64 n] := by have := k1.set_ 0 (.int .u64 n); simpa using this
  have q2 := k2.far (p := ⟨r1, 0, none⟩) hne.symm (.int .u64 n)
  have u := upd1 q2 0 (.int .i64 er)
  have q3 : Blk ((w.setCell ⟨r1, 0, none⟩ (.int .u64 n)).setCell ⟨r2, 0, none⟩ (.int .i64 er)) r2 28 #[.int .i64 er] := by simpa using u.blk
  have q4 := q1.far (p := ⟨r2, 0, none⟩) hne (.int .i64 er)
  exact ⟨hw1.upd u q2 ⟨by decide, by decide, by decide, by decide⟩ h3 hB, (q4.cell 0).trans rfl, (q3.cell 0).trans rfl⟩
/-- Between two rounds: the shelf, the results' cells, the box, the error's cell, another cell, the row of steps. -/
structure Rnd (B b : Nat) (ill : Int) (w W2 : World) (r1 r2 rb q r g : Nat) (t : TypeId) (s' : Sh) (er : Int) (ac : Array Value) (W : World) : Prop where
  wr : Wr B b ill s' w W
  k1 : Blk W r1 27 #[.int .u64 0]
  k2 : Blk W r2 28 #[.int .i64 0]
  kb : Blk W rb 79 #[.iface 23 (.pointer (some ⟨b, 0, none⟩))]
  ke : Blk W q 28 #[.int .i64 er]
  ka : Blk W r t ac
  row : W.heap[g]? = W2.heap[g]?
  sm : Sm W2 W
end
section
variable {B b : Nat} {w W2 W W' : World} {ill : Int} {r1 r2 rb q r g : Nat} {t : TypeId} {s s' : Sh} {er er' : Int} {ac ac' cur : Array Value}
theorem Rnd.later (h : Rnd B b ill w W2 r1 r2 rb q r g t s er ac W) (hB : B ≤ w.heap.size) (hg : g < W2.heap.size) (k : Later W W') : Rnd B b ill w W2 r1 r2 rb q r g t s er ac W' :=
  ⟨h.wr.later hB k, h.k1.below k h.k1.lt, h.k2.below k h.k2.lt, h.kb.below k h.kb.lt, h.ke.below k h.ke.lt, h.ka.below k h.ka.lt, ((show Below _ _ _ from k).block g (by
    obtain ⟨o, ho⟩ : ∃ o, W2.heap[g]? = some o := ⟨_, Array.getElem?_eq_getElem hg⟩
    have := h.row.trans ho
    exact (Array.getElem?_eq_some_iff.1 this).1)).trans h.row, h.sm.trans (Sm.later k)⟩
/-- The shelf is written. -/
theorem Rnd.wrote (h : Rnd B b ill w W2 r1 r2 rb q r g t s er ac W) (hg : Blk W2 g 89 cur) (ht : Far t) (k : Wr B b ill s' W W') : Rnd B b ill w W2 r1 r2 rb q r g t s' er ac W' :=
  ⟨h.wr.trans k, (k.sm _ _).2 h.k1, k.far _ _ _ far_err h.k2, k.far _ _ _ far_shelf h.kb, k.far _ _ _ far_err h.ke, k.far _ _ _ ht h.ka, (k.far _ _ _ far_step (h.row.trans hg)).trans hg.symm, h.sm.trans k.sm⟩
/-- A new cell beside is written. -/
theorem Rnd.upd {g' : Nat} {t' : TypeId} {cs cs' : Array Value} (h : Rnd B b ill w W2 r1 r2 rb q r g t s er ac W) (hB : B ≤ w.heap.size) (hg : Blk W2 g 89 cur) (u : Upd W W' g' t' cs') (hb : Blk W g' t' cs) (ht : Far t') (hw : w.heap.size ≤ g') (n : g' ≠ r1 ∧ g' ≠ r2 ∧ g' ≠ rb ∧ g' ≠ q ∧ g' ≠ r ∧ g' ≠ g) : Rnd B b ill w W2 r1 r2 rb q r g t s er ac W' :=
  ⟨h.wr.upd u hb ht hw hB, u.far h.k1 n.1.symm, u.far h.k2 n.2.1.symm, u.far h.kb n.2.2.1.symm, u.far h.ke n.2.2.2.1.symm, u.far h.ka n.2.2.2.2.1.symm, (u.far (show Blk W g _ _ from h.row.trans hg) n.2.2.2.2.2.symm).trans hg.symm, h.sm.trans (u.sm hb ht.s ht.n)⟩
theorem Rnd.updA (h : Rnd B b ill w W2 r1 r2 rb q r g t s er ac W) (hB : B ≤ w.heap.size) (hg : Blk W2 g 89 cur) (u : Upd W W' r t ac') (ht : Far t) (hw : w.heap.size ≤ r) (n : r ≠ r1 ∧ r ≠ r2 ∧ r ≠ rb ∧ r ≠ q ∧ r ≠ g) : Rnd B b ill w W2 r1 r2 rb q r g t s er ac' W' :=
  ⟨h.wr.upd u h.ka ht hw hB, u.far h.k1 n.1.symm, u.far h.k2 n.2.1.symm, u.far h.kb n.2.2.1.symm, u.far h.ke n.2.2.2.1.symm, u.blk, (u.far (show Blk W g _ _ from h.row.trans hg) n.2.2.2.2.symm).trans hg.symm, h.sm.trans (u.sm h.ka ht.s ht.n)⟩
theorem Rnd.updE (h : Rnd B b ill w W2 r1 r2 rb q r g t s er ac W) (hB : B ≤ w.heap.size) (hg : Blk W2 g 89 cur) (u : Upd W W' q 28 #[.int .i64 er']) (hw : w.heap.size ≤ q) (n : q ≠ r1 ∧ q ≠ r2 ∧ q ≠ rb ∧ q ≠ r ∧ q ≠ g) : Rnd B b ill w W2 r1 r2 rb q r g t s er' ac W' :=
  ⟨h.wr.upd u h.ke far_err hw hB, u.far h.k1 n.1.symm, u.far h.k2 n.2.1.symm, u.far h.kb n.2.2.1.symm, u.blk, u.far h.ka n.2.2.2.1.symm, (u.far (show Blk W g _ _ from h.row.trans hg) n.2.2.2.2.symm).trans hg.symm, h.sm.trans (u.sm h.ke (by decide) (by decide))⟩
theorem Rnd.grown {row : Option Nat} (h : Rnd B b ill w W2 r1 r2 rb q r g t s er ac W) (hB : B ≤ w.heap.size) (hg : Blk W2 g 89 cur) (hgr : W.grownBy W' row) (hr : ∀ r, row = some r → w.heap.size ≤ r ∧ ∃ o : Obj, W.heap[r]? = some o ∧ o.isCells = false) : Rnd B b ill w W2 r1 r2 rb q r g t s er ac W' := by
  have hk : ∀ g t cs, Blk W g t cs → Blk W' g t cs := fun g t cs hb => hb.grown hgr (blk_row hb fun r e => (hr r e).2)
  exact ⟨h.wr.grown hB hgr hr, hk _ _ _ h.k1, hk _ _ _ h.k2, hk _ _ _ h.kb, hk _ _ _ h.ke, hk _ _ _ h.ka, (hk _ _ _ (h.row.trans hg)).trans hg.symm, fun g cs => ⟨fun x => hk _ _ _ ((h.sm g cs).1 x), fun x => hk _ _ _ ((h.sm g cs).2 x)⟩⟩
theorem steps_row {B g n cap : Nat} {w : World} {L : List (Array Value)} (h1 : w.ownsRow B 89 5 (.slice (some ⟨g, 0, none⟩) n cap) n (L.flatMap Array.toList)) (h2 : L.length = n) (h5 : ∀ c ∈ L, c.size = 5) : RowC w g n L := by
  rcases h1.2 with ⟨e, _⟩ | ⟨g', cap', cur, e, hg, hb, hc, hm, hs, ht⟩
  · cases e
  · cases e
    have hb : Blk w g 89 cur := hb
    refine ⟨h2, fun i c hi => ⟨h5 c (List.mem_of_getElem? hi), fun j hj => ?_⟩⟩
    have hil := (List.getElem?_eq_some_iff.1 hi).1
    rw [hb.cell, ← Array.getElem?_toList, ← flatz_get L h5 i c hi j hj, ← ht, List.getElem?_take, if_pos (by omega)]
theorem RowC.take {g n m : Nat} {w : World} {L : List (Array Value)} (h : RowC w g n L) (hm : m ≤ n) : RowC w g m (L.take m) :=
  ⟨by rw [List.length_take, h.1]; omega, fun i c hi => h.2 i c (by
    rw [List.getElem?_take] at hi
    split at hi
    · exact hi
    · cases hi)⟩
/-- What a round leaves: the shelf is written, then the cell beside and the error's. -/
structure Tail (W w7 W8 W9 : World) (bs g : Nat) (cb : Array Value) : Prop where
  oth : KeepsOthers W W9
  kp : W9.heap[bs]? = W.heap[bs]? ∧ W9.heap[g]? = W.heap[g]?
  kbs : Blk W9 bs 81 cb
theorem far_steps : Far 81 := ⟨by decide, by decide, by decide, by decide⟩
theorem Rnd.tail {W6 w7 W8 W9 : World} {bs : Nat} {cb : Array Value} (h : Rnd B b ill w W2 r1 r2 rb q r g t s er ac W) (hB : B ≤ w.heap.size) (hg : Blk W2 g 89 cur) (ht : Far t) (hts : t ≠ 81) (hl : Later W W6) (hw : Wr B b ill s' W6 w7) (kbs : Blk W bs 81 cb)
    (u8 : Upd w7 W8 r t ac') (u9 : Upd W8 W9 q 28 #[.int .i64 er']) (hr : w.heap.size ≤ r) (hq : w.heap.size ≤ q) (n : r ≠ r1 ∧ r ≠ r2 ∧ r ≠ rb ∧ r ≠ q ∧ r ≠ g) (n' : q ≠ r1 ∧ q ≠ r2 ∧ q ≠ rb ∧ q ≠ r ∧ q ≠ g) :
    Rnd B b ill w W2 r1 r2 rb q r g t s' er' ac' W9 ∧ Tail W w7 W8 W9 bs g cb := by
  have h7 := (h.later hB hg.lt hl).wrote hg ht hw
  have h8 := h7.updA hB hg u8 ht hr n
  have h9 := h8.updE hB hg u9 hq n'
  have k7 := hw.far _ _ _ far_steps (kbs.below hl kbs.lt)
  have k8 := u8.far k7 (k7.ne_ h7.ka hts.symm)
  have k9 := u9.far k8 (k8.ne_ h8.ke (by decide))
  exact ⟨h9, ⟨((later_others hl).trans hw.oth).trans ((u8.kept.others fun k e => by subst e; exact ⟨_, _, h7.ka⟩).trans (u9.kept.others fun k e => by subst e; exact ⟨_, _, h8.ke⟩)), ⟨k9.trans (show W.heap[bs]? = _ from kbs).symm, h9.row.trans h.row.symm⟩, k9⟩⟩
/-- The two results are written, and the calls that were put off are taken. -/
theorem exit_defer {D r1 r2 : Nat} {x y n er : Int} {X : World} (h : Wr B b ill s w W) (h2 : Two s.S) (k1 : Blk W r1 27 #[.int .u64 x]) (k2 : Blk W r2 28 #[.int .i64 y]) (h1 : w.heap.size ≤ r1) (h3 : w.heap.size ≤ r2) (hB : B ≤ w.heap.size) (hD : w.heap.size ≤ D) (hDD : W.heap[D]? = some (.deferred (some [])))
    (hX : Later ((W.setCell ⟨r1, 0, none⟩ (.int .u64 n)).setCell ⟨r2, 0, none⟩ (.int .i64 er)) X) :
    X.heap[D]? = some (.deferred (some [])) ∧ Wr B b ill s w (X.putObj D (.deferred none)) ∧ (X.putObj D (.deferred none)).cell? ⟨r1, 0, none⟩ = some (.int .u64 n) ∧ (X.putObj D (.deferred none)).cell? ⟨r2, 0, none⟩ = some (.int .i64 er) := by
  have n1 : D ≠ r1 := fun e => by
    subst e
    have := hDD.symm.trans (show W.heap[D]? = some _ from k1); cases this
  have n2 : D ≠ r2 := fun e => by
    subst e
    have := hDD.symm.trans (show W.heap[D]? = some _ from k2); cases this
  obtain ⟨hw, x1, x2⟩ := exit_two (n := n) (er := er) h h2 k1 k2 h1 h3 hB
  have hlt := (Array.getElem?_eq_some_iff.1 hDD).1
  have hk : DKept (fun k => k = r1 ∨ k = r2) W ((W.setCell ⟨r1, 0, none⟩ (.int .u64 n)).setCell ⟨r2, 0, none⟩ (.int .i64 er)) := DKept.set (DKept.set DKept.refl (.inl rfl)) (.inr rfl)
  have hD1 : ((W.setCell ⟨r1, 0, none⟩ (.int .u64 n)).setCell ⟨r2, 0, none⟩ (.int .i64 er)).heap[D]? = some (.deferred (some [])) := (hk.block D hlt (fun e => e.elim n1 n2)).trans hDD
  have hD2 : X.heap[D]? = some (.deferred (some [])) := ((show Below _ _ _ from hX).block D (Array.getElem?_eq_some_iff.1 hD1).1).trans hD1
  have hg := grownBy_putObj' X D (.deferred none)
  have hr : ∀ r, some D = some r → ∃ o : Obj, X.heap[r]? = some o ∧ o.isCells = false := fun r e => by cases e; exact ⟨_, hD2, rfl⟩
  have y1 : X.cell? ⟨r1, 0, none⟩ = some (.int .u64 n) := (World.cell?_of_block ((show Below _ _ _ from hX).block r1 (World.block_lt_of_cell? _ _ x1))).trans x1
  have y2 : X.cell? ⟨r2, 0, none⟩ = some (.int .i64 er) := (World.cell?_of_block ((show Below _ _ _ from hX).block r2 (World.block_lt_of_cell? _ _ x2))).trans x2
  exact ⟨hD2, (hw.later hB hX).grown hB hg fun r e => ⟨by cases e; exact hD, hr r e⟩, cell_kept y1 hg hr, cell_kept y2 hg hr⟩
end
end Go.Proofs.Ytafeddjcomeniaa
end

/- The way back up of tree.Drop: what each step wants, and what it leaves. Plain Lean, and what a written number's box leaves. No program here. Conditions: none. -/
section
namespace Go.Proofs.Ytafeddjcomeniaa
open Go Go.RowKit
set_option linter.unusedVariables false

def StepOk (x : Pg × Nat) : Prop := x.1.leaf = false ∧ Ok x.1 ∧ x.2 ≤ x.1.keys.length ∧ 1 ≤ x.1.keys.length
theorem way_steps {Q : Pg → Prop} {S : List Pg} {key : ByteArray} (hS : S.length ≤ 100000) : ∀ {d : Nat} {n : Int} {lo hi : Option ByteArray}, OkN Q S d n lo hi → inB lo hi key → (itemsN S d n).length ≤ 1000 → ∀ j x, (wayN S d n key)[j]? = some x → j + 1 < (wayN S d n key).length → StepOk x
  | 0, _, _, _, h, _, _, _, _, _, _ => h.elim
  | d + 1, n, lo, hi, ⟨p, h1, h2, h3⟩, hb, hit, j, x, hj, hlt => by
    have e : wayN S (d + 1) n key = (p, kidN p key) :: if p.leaf then [] else wayN S d (p.kids.getD (kidN p key) 0) key := by rw [wayN]; simp only [h1]
    have eit : itemsN S (d + 1) n = itemsP (itemsN S d) p := by rw [itemsN]; simp only [h1]
    rw [e] at hj hlt
    rw [eit] at hit
    cases hl : p.leaf with
    | true =>
      rw [hl] at hlt
      simp at hlt
    | false =>
      rw [hl] at hj hlt
      simp only [Bool.false_eq_true, if_false] at hj hlt
      obtain ⟨e0, h0, hok, hbk, _, _⟩ := kid_there h3 hl hb
      cases j with
      | zero => cases hj; exact ⟨hl, pg_ok h3 hit hS, h0, h3.ne⟩
      | succ j =>
        have hf := kid_few (f := itemsN S d) hl e0
        exact way_steps hS hok hbk (by omega) j x hj (by simpa using hlt)
theorem turnW_bnd (ill : Int) (s : Sh) (p : Pg) (i : Nat) (n : Int) : s.n ≤ (turnW ill s p i n).1.n ∧ (turnW ill s p i n).1.n ≤ s.n + 1 ∧ (turnW ill s p i n).1.S.length ≤ s.S.length + 1 := by
  have ha : ∀ q, s.n ≤ (addS ill s q).1.n ∧ (addS ill s q).1.n ≤ s.n + 1 ∧ (addS ill s q).1.S.length ≤ s.S.length + 1 := fun q => by
    unfold addS
    split
    · dsimp only; omega
    · dsimp only; rw [List.length_append, List.length_singleton]; omega
  unfold turnW
  split
  · split
    · dsimp only; omega
    · exact ha _
  · exact ha _
theorem dropW_bnd (ill : Int) (key : ByteArray) : ∀ (l : List (Pg × Nat)) (s : Sh), s.n ≤ (dropW ill key l s).1.n ∧ (dropW ill key l s).1.n ≤ s.n + l.length ∧ (dropW ill key l s).1.S.length ≤ s.S.length + l.length
  | [], s => ⟨Int.le_refl _, by simp [dropW], by simp [dropW]⟩
  | [(p, i)], s => by
    unfold dropW
    dsimp only
    split
    · unfold addS
      split
      · dsimp only; simp; omega
      · dsimp only; rw [List.length_append]; simp; omega
    · dsimp only; simp; omega
  | (p, i) :: y :: l, s => by
    have ih := dropW_bnd ill key (y :: l) s
    unfold dropW
    generalize dropW ill key (y :: l) s = o at *
    obtain ⟨s1, o⟩ := o
    cases o with
    | none => dsimp only at *; rw [List.length_cons]; omega
    | some n =>
      dsimp only at *
      have := turnW_bnd ill s1 p i n
      rw [List.length_cons]
      omega
theorem two_turn {ill : Int} {s : Sh} {p : Pg} {i : Nat} {n : Int} (h : Two s.S) (hk : p.kids.length ≠ 1) : Two (turnW ill s p i n).1.S := by
  unfold turnW
  split
  · split
    · exact h
    · exact two_addS h (by assumption)
  · exact two_addS h (by rw [List.length_set]; exact hk)
theorem StepOk.kids {x : Pg × Nat} (h : StepOk x) : x.1.kids.length = x.1.keys.length + 1 := by
  rcases good_shape h.2.1.good with ⟨e, _⟩ | ⟨_, _, e⟩
  · rw [h.1] at e; cases e
  · exact e
/-- What the way back leans on. -/
structure Drops (l : List (Pg × Nat)) : Prop where
  st : ∀ j x, l[j]? = some x → j + 1 < l.length → StepOk x
  lf : ∀ x, l.getLast? = some x → x.1.leaf = true ∧ Ok x.1
theorem Drops.tail {x y : Pg × Nat} {l : List (Pg × Nat)} (h : Drops (x :: y :: l)) : Drops (y :: l) :=
  ⟨fun j z hz hj => h.st (j + 1) z (by simpa using hz) (by simpa using hj), fun z hz => h.lf z (by rw [List.getLast?_cons_cons]; exact hz)⟩
theorem leaf_nokids {p : Pg} (h : Ok p) (hl : p.leaf = true) : p.kids = [] := by
  rcases good_shape h.good with ⟨_, _, e⟩ | ⟨e, _⟩
  · exact e
  · rw [hl] at e; cases e
theorem dropP_kids (p : Pg) (key : ByteArray) : (dropP p key).kids = p.kids := by unfold dropP; split <;> rfl
theorem dropW_two {ill : Int} {key : ByteArray} : ∀ {l : List (Pg × Nat)} {s : Sh}, Two s.S → Drops l → Two (dropW ill key l s).1.S
  | [], _, h, _ => h
  | [(p, i)], s, h, hd => by
    unfold dropW
    dsimp only
    split
    · refine two_addS h ?_
      obtain ⟨h1, h2⟩ := hd.lf (p, i) rfl
      rw [dropP_kids, leaf_nokids h2 h1]; simp
    · exact h
  | (p, i) :: y :: l, s, h, hd => by
    have ih := dropW_two (ill := ill) (key := key) (l := y :: l) h hd.tail
    have h1 := hd.st 0 _ rfl (by simp)
    unfold dropW
    generalize dropW ill key (y :: l) s = o at *
    obtain ⟨s1, o⟩ := o
    cases o with
    | none => exact ih
    | some n =>
      have := h1.kids
      have := h1.2.2.2
      dsimp only at *
      exact two_turn ih (by omega)
theorem drop_at {ill : Int} {key : ByteArray} {s s1 : Sh} {l : List (Pg × Nat)} {j : Nat} {p : Pg} {i : Nat} {n : Int} (hj : l[j]? = some (p, i)) (hlt : j + 1 < l.length) (e : dropW ill key (l.drop (j + 1)) s = (s1, some n)) : dropW ill key (l.drop j) s = turnW ill s1 p i n := by
  rw [drop_get hj]
  obtain ⟨y, hy⟩ : ∃ y, l[j + 1]? = some y := ⟨_, List.getElem?_eq_getElem hlt⟩
  rw [drop_get hy] at e ⊢
  unfold dropW
  rw [e]
theorem drop_last {ill : Int} {key : ByteArray} {s : Sh} {l : List (Pg × Nat)} {j : Nat} {p : Pg} {i : Nat} (hj : l[j]? = some (p, i)) (hlt : j + 1 = l.length) : dropW ill key (l.drop j) s = if 1 < p.keys.length then addS ill s (dropP p key) else (s, some 0) := by
  rw [drop_get hj, List.drop_of_length_le (by omega)]
  rfl
theorem drop_none {ill : Int} {key : ByteArray} {s s1 : Sh} {l : List (Pg × Nat)} : ∀ (j : Nat), j < l.length → dropW ill key (l.drop j) s = (s1, none) → dropW ill key l s = (s1, none)
  | 0, _, h => h
  | j + 1, hj, h => by
    refine drop_none j (by omega) ?_
    obtain ⟨⟨p, i⟩, hx⟩ : ∃ x, l[j]? = some x := ⟨_, List.getElem?_eq_getElem (by omega)⟩
    obtain ⟨y, hy⟩ : ∃ y, l[j + 1]? = some y := ⟨_, List.getElem?_eq_getElem hj⟩
    rw [drop_get hx]
    rw [drop_get hy] at h ⊢
    unfold dropW
    rw [h]
theorem Drops.drop {l : List (Pg × Nat)} (h : Drops l) {j : Nat} (hj : j < l.length) : Drops (l.drop j) := by
  induction j generalizing l with
  | zero => exact h
  | succ j ih =>
    match l, h, hj with
    | [], _, hj => simp at hj
    | [x], _, hj => simp at hj
    | x :: y :: l, h, hj => exact ih h.tail (by simpa using hj)
/-- What Drop answers. -/
def dropT (ill : Int) (key : ByteArray) (there : Bool) (l : List (Pg × Nat)) (s : Sh) : Sh × Int × Int :=
  if s.n < ill ∧ ill ≤ s.n + l.length then (⟨s.S, ill⟩, 0, 4)
  else if there = false then (⟨s.S, s.n + l.length⟩, 0, 5)
  else match dropW ill key l ⟨s.S, s.n + l.length⟩ with
    | (s1, none) => (s1, 0, 4)
    | (s1, some n) => (s1, n, 0)

section
variable {B b : Nat} {w W2 W W' : World} {ill : Int} {r1 r2 rb q r g : Nat} {s s' : Sh} {er : Int} {x y : Int} {cur : Array Value}
/-- The shelf is written; the cell beside is a number's box. -/
theorem Rnd.wroteN (h : Rnd B b ill w W2 r1 r2 rb q r g 27 s er #[.int .u64 x] W) (hg : Blk W2 g 89 cur) (k : Wr B b ill s' W W') : Rnd B b ill w W2 r1 r2 rb q r g 27 s' er #[.int .u64 x] W' :=
  ⟨h.wr.trans k, (k.sm _ _).2 h.k1, k.far _ _ _ far_err h.k2, k.far _ _ _ far_shelf h.kb, k.far _ _ _ far_err h.ke, (k.sm _ _).2 h.ka, (k.far _ _ _ far_step (h.row.trans hg)).trans hg.symm, h.sm.trans k.sm⟩
/-- The box is written. -/
theorem Rnd.boxN (h : Rnd B b ill w W2 r1 r2 rb q r g 27 s er #[.int .u64 x] W) (hB : B ≤ w.heap.size) (hg : Blk W2 g 89 cur) (h2 : Two s.S) (hw : W2.heap.size ≤ r) (hw' : w.heap.size ≤ r) (n : r ≠ r1 ∧ r ≠ r2 ∧ r ≠ rb ∧ r ≠ q ∧ r ≠ g) : Rnd B b ill w W2 r1 r2 rb q r g 27 s er #[.int .u64 y] (W.setCell ⟨r, 0, none⟩ (.int .u64 y)) := by
  have hk : DKept (fun k => k = r) W (W.setCell ⟨r, 0, none⟩ (.int .u64 y)) := (DKept.refl (S := fun k => k = r)).set rfl
  refine ⟨h.wr.box h2 h.ka hk hw' hB, h.k1.far (p := ⟨r, 0, none⟩) n.1.symm _, h.k2.far (p := ⟨r, 0, none⟩) n.2.1.symm _, h.kb.far (p := ⟨r, 0, none⟩) n.2.2.1.symm _, h.ke.far (p := ⟨r, 0, none⟩) n.2.2.2.1.symm _, ?_, ?_, Sm.new (t := 27) (cs := #[]) h.sm hw hk⟩
  · have := h.ka.set_ 0 (.int .u64 y)
    simpa using this
  · have e : Blk W g 89 cur := h.row.trans hg
    exact (e.far (p := ⟨r, 0, none⟩) n.2.2.2.2.symm _).trans hg.symm
end
end Go.Proofs.Ytafeddjcomeniaa
end

/- What the way back of a put leans on, out of a good tree. Plain Lean. No program here. Conditions: none. -/
section
namespace Go.Proofs.Ytafeddjcomeniaa
open Go Go.RowKit
set_option linter.unusedVariables false

/-- What pages must be, so that puts keep it. -/
structure QPut (Q : Pg → Prop) (M : Int) : Prop where
  leaf : ∀ p key val, keyFit key → val.size ≤ 400 → Q p → goodB p = true → p.leaf = true → 1 ≤ p.keys.length → p.keys.length ≤ 126 → Pre Q (putP p key val)
  branch : ∀ p i a, Q p → goodB p = true → p.leaf = false → i ≤ p.keys.length → goodB (updP p i a) = true → (∀ n ∈ p.kids, n ≤ M) → (∀ n ∈ (updP p i a).kids, n ≤ M) → Pre Q (updP p i a)
  root : ∀ q n o, keyFit q → n ≤ M → o ≤ M → Q (rootP q n o)
  first : ∀ key val, keyFit key → val.size ≤ 400 → Q ⟨true, [key], [val], []⟩
theorem qput_every (M : Int) : QPut everyP M := ⟨fun _ _ _ _ _ _ _ _ _ _ => ⟨fun _ => trivial, fun _ _ _ _ _ => ⟨trivial, trivial⟩⟩, fun _ _ _ _ _ _ _ _ _ _ => ⟨fun _ => trivial, fun _ _ _ _ _ => ⟨trivial, trivial⟩⟩, fun _ _ _ _ _ _ => trivial, fun _ _ _ _ => trivial⟩
theorem kid_pos {Q : Pg → Prop} {S : List Pg} {d : Nat} {p : Pg} {lo hi : Option ByteArray} (h : OkPg (OkN Q S d) p lo hi) : ∀ n ∈ p.kids, 1 ≤ n := fun n hn => by
  cases hl : p.leaf with
  | true => rw [(h.leaflen hl).2] at hn; cases hn
  | false =>
    obtain ⟨i, hi'⟩ := kids_mem hn
    exact (ok_le (h.kids hl i n hi')).1
theorem runs_ok {Q : Pg → Prop} (ill M : Int) {key val : ByteArray} (hk : keyFit key) (hv : val.size ≤ 400) (hM : M ≤ 16383) (hQ : QPut Q M) :
    ∀ (d : Nat) (n : Int) (lo hi : Option ByteArray) (s : Sh), OkN Q s.S d n lo hi → inB lo hi key → (itemsN s.S d n).length ≤ 126 → s.S.length + 2 * d ≤ M → 0 ≤ s.n → s.n + 2 * d < 1000000000 → Runs ill key val (wayN s.S d n key) s := by
  intro d
  induction d with
  | zero => intro n lo hi s h; exact h.elim
  | succ d ih =>
    intro n lo hi s h hb hit hlen hn hn2
    obtain ⟨p, hp, hq, hpg⟩ := h
    have eway : wayN s.S (d + 1) n key = (p, kidN p key) :: if p.leaf then [] else wayN s.S d (p.kids.getD (kidN p key) 0) key := by rw [wayN]; simp only [hp]
    have eit : itemsN s.S (d + 1) n = itemsP (itemsN s.S d) p := by rw [itemsN]; simp only [hp]
    rw [eway]
    rw [eit] at hit
    have hpo := pg_ok hpg (by omega) (by omega)
    cases hl : p.leaf with
    | true =>
      simp only [if_true]
      obtain ⟨ho, hi', hlf⟩ := putP_ok hpg hl hk hv hb (itemsN s.S d)
      have hkl : p.keys.length ≤ 126 := by
        unfold itemsP at hit
        rw [hl] at hit
        simp only [if_true, List.length_zip] at hit
        have := (hpg.leaflen hl).1
        omega
      have hlen2 : (putP p key val).keys.length ≤ 127 := by
        have h1 := congrArg List.length hi'
        have h2 := putL_len key val (itemsP (itemsN s.S d) p)
        rw [← h1] at h2
        have h3 := (ho.leaflen hlf).1
        unfold itemsP at h2 hit
        rw [hlf, hl] at h2
        rw [hl] at hit
        simp only [if_true, List.length_zip] at h2 hit
        omega
      refine ⟨hl, hpo, ?_⟩
      exact ⟨⟨ho.good, by omega, fun n hn => by rw [(ho.leaflen hlf).2] at hn; cases hn⟩, ho.ne, hn, by omega, by omega⟩
    | false =>
      simp only [Bool.false_eq_true, if_false]
      obtain ⟨e0, h0, hok, hbk, hA, hC⟩ := kid_there hpg hl hb
      have hfk := kid_few (f := itemsN s.S d) hl e0
      have hr := ih _ _ _ s hok hbk (by omega) (by omega) hn (by omega)
      obtain ⟨⟨x, xs, hx, hxl⟩, hR⟩ := putW_ok ill M hk hv hM (fun p => hQ.leaf p key val hk hv) hQ.branch d _ _ _ s hok hbk (by omega) (by omega)
      rw [hx] at hr hR ⊢
      refine ⟨hr, hl, hpo, h0, fun s1 a e => ?_⟩
      rcases hR with ⟨s1', X, e', g, hc⟩ | ⟨s1', X, a', e', H⟩
      · rw [e'] at e; cases e
      · rw [e'] at e
        cases e
        have hpg1 : OkPg (OkN Q s1.S d) p lo hi := by rw [H.grew.S]; exact hpg.grow _
        have hu := updP_ok hpg1 hl h0 H.ok
        have hkk := updP_keys p (kidN p key) a h0
        have hlen1 : (s1.S.length : Int) ≤ M := by
          rw [H.grew.S, List.length_append]
          have := H.grew.len
          have := H.cost
          omega
        have hsl := hpo.few
        have hkfew : p.keys.length ≤ 126 := Nat.le_trans (ok_keys hpg) (by omega)
        refine ⟨⟨hu.good, by omega, fun m hm => ?_⟩, hu.ne, by have := H.grew.n; omega, by have := H.cost; omega, by omega⟩
        have := kids_le hu m hm
        have := kid_pos hu m hm
        omega
/-- How a change of a tree ends. -/
structure Chg (Q : Pg → Prop) (ill : Int) (s s' : Sh) (n er : Int) (k : Nat) (l : List KV) : Prop where
  res : (er = 4 ∧ n = 0 ∧ ∃ X, Grew ill s s' X false) ∨ (er = 0 ∧ (∃ X, Grew ill s s' X true) ∧ Tree Q s'.S k n l)
  cost : s'.n ≤ s.n + 100
  two : Two s'.S
theorem Grew.read {ill : Int} {s : Sh} {m : Nat} (h : ¬ (s.n < ill ∧ ill ≤ s.n + (m : Int))) : Grew ill s ⟨s.S, s.n + m⟩ [] true := ⟨by simp, by dsimp only; omega, by dsimp only [List.length_nil]; omega, fun e => (by cases e), fun _ => by dsimp only; omega⟩
theorem Grew.ill {ill : Int} {s : Sh} {m : Nat} (h : s.n < ill ∧ ill ≤ s.n + (m : Int)) : Grew ill s ⟨s.S, ill⟩ [] false := ⟨by simp, by dsimp only; omega, by dsimp only [List.length_nil]; omega, fun _ => ⟨rfl, h.1⟩, fun e => (by cases e)⟩
theorem putT_ok {Q : Pg → Prop} (ill : Int) {key val : ByteArray} (hk : keyFit key) (hv : val.size ≤ 400) (hQ : QPut Q 16383) {s : Sh} {k : Nat} {root : Int} {l : List KV} {d : Nat} (ht : Tree Q s.S k root l) (h2 : Two s.S) (h0 : root ≠ 0)
    (hok : OkN Q s.S d root none none) (hl : itemsN s.S d root = l) (hdp : 20 * d + min (rk s.S root) 20 ≤ 40 + k) (hkk : k ≤ 125) (hS : s.S.length ≤ 16000) (hn : 0 ≤ s.n) (hn2 : s.n < 90000000) :
    Runs ill key val (wayN s.S d root key) ⟨s.S, s.n + (wayN s.S d root key).length⟩ ∧
    (∀ s1 a, putW ill key val (wayN s.S d root key) ⟨s.S, s.n + (wayN s.S d root key).length⟩ = (s1, some a) → 0 ≤ s1.n ∧ s1.n < 1000000000 ∧ s1.S.length ≤ 99990) ∧
    Chg Q ill s (putT ill key val root (wayN s.S d root key) s).1 (putT ill key val root (wayN s.S d root key) s).2.1 (putT ill key val root (wayN s.S d root key) s).2.2 (k + 1) (putL l key val) := by
  have hf := ht.few
  have hwl := way_len (S := s.S) (key := key) d root
  have hR := runs_ok ill 16383 hk hv (by omega) hQ d root none none ⟨s.S, s.n + (wayN s.S d root key).length⟩ hok (inB_all key) (by dsimp only; rw [hl]; omega) (by dsimp only; omega) (by dsimp only; omega) (by dsimp only; omega)
  obtain ⟨_, hW⟩ := putW_ok ill 16383 hk hv (by omega) (fun p => hQ.leaf p key val hk hv) hQ.branch d root none none ⟨s.S, s.n + (wayN s.S d root key).length⟩ hok (inB_all key) (by dsimp only; rw [hl]; omega) (by dsimp only; omega)
  dsimp only at hR hW
  have h2W := Runs.two (s := ⟨s.S, s.n + (wayN s.S d root key).length⟩) h2 hR
  generalize wayN s.S d root key = FULL at *
  refine ⟨hR, fun s1 a e => ?_, ?_⟩
  · rcases hW with ⟨s', X, e', g, hc⟩ | ⟨s', X, a', e', H⟩
    · rw [e'] at e; cases e
    · rw [e'] at e
      cases e
      have h1 := H.grew.n
      have h3 := H.cost
      have h4 := H.grew.len
      have h5 := congrArg List.length H.grew.S
      rw [List.length_append] at h5
      dsimp only at h1 h3 h4 h5
      omega
  · unfold putT
    rw [if_neg h0]
    by_cases hi : s.n < ill ∧ ill ≤ s.n + (FULL.length : Int)
    · rw [if_pos hi]
      exact ⟨.inl ⟨rfl, rfl, _, Grew.ill hi⟩, by dsimp only; omega, h2⟩
    · rw [if_neg hi]
      have hg0 := Grew.read hi
      rcases hW with ⟨s', X, e', g, hc⟩ | ⟨s', X, a, e', H⟩
      · rw [e'] at h2W ⊢
        exact ⟨.inl ⟨rfl, rfl, _, hg0.trans g⟩, by dsimp only at hc ⊢; omega, h2W⟩
      · rw [e'] at h2W ⊢
        have hcost := H.cost
        have hT := Tree.put (s := ⟨s.S, s.n + FULL.length⟩) ht hl hdp H
        have hgr := hg0.trans H.grew
        obtain ⟨n, sp⟩ := a
        cases sp with
        | none => exact ⟨.inr ⟨rfl, ⟨_, hgr⟩, hT.1 rfl⟩, by dsimp only at hcost ⊢; omega, h2W⟩
        | some qo =>
          obtain ⟨q, o⟩ := qo
          dsimp only at h2W ⊢
          obtain ⟨ho1, ho2⟩ := okA_le H.ok
          have ho2 := ho2 q o rfl
          have hfit : keyFit q := H.ok.2.2
          have hlen1 : (s'.S.length : Int) ≤ 16383 := by
            have h3 := H.cost
            have h4 := H.grew.len
            have h5 := congrArg List.length H.grew.S
            rw [List.length_append] at h5
            dsimp only at h3 h4 h5
            omega
          have hq := hQ.root q n o hfit (by dsimp only at ho1; omega) (by omega)
          have htw : Two (addS ill s' (rootP q n o)).1.S := two_addS h2W (by simp [rootP])
          have hT2 := hT.2 q o rfl hq
          rcases addS_ok ill s' (rootP q n o) with ⟨s2, e2, g2, hc2⟩ | ⟨s2, e2, g2, hc2⟩
          · rw [e2] at htw ⊢
            exact ⟨.inl ⟨rfl, rfl, _, hgr.trans g2⟩, by dsimp only at hcost ⊢; omega, htw⟩
          · rw [e2] at htw ⊢
            refine ⟨.inr ⟨rfl, ⟨_, hgr.trans g2⟩, ?_⟩, by dsimp only at hcost ⊢; omega, htw⟩
            dsimp only
            rw [g2.S]
            exact hT2
theorem putT_ok0 {Q : Pg → Prop} (ill : Int) {key val : ByteArray} (hk : keyFit key) (hv : val.size ≤ 400) (hQ : QPut Q 16383) {s : Sh} {k : Nat} (h2 : Two s.S) :
    Chg Q ill s (addS ill s ⟨true, [key], [val], []⟩).1 ((addS ill s ⟨true, [key], [val], []⟩).2.getD 0) (if (addS ill s ⟨true, [key], [val], []⟩).2.isSome then 0 else 4) (k + 1) (putL [] key val) := by
  have htw : Two (addS ill s ⟨true, [key], [val], []⟩).1.S := two_addS h2 (by simp)
  rcases addS_ok ill s ⟨true, [key], [val], []⟩ with ⟨s2, e2, g2, hc2⟩ | ⟨s2, e2, g2, hc2⟩
  · rw [e2] at htw ⊢
    exact ⟨.inl ⟨rfl, rfl, _, g2⟩, by dsimp only; omega, htw⟩
  · rw [e2] at htw ⊢
    refine ⟨.inr ⟨rfl, ⟨_, g2⟩, ?_⟩, by dsimp only; omega, htw⟩
    dsimp only
    rw [g2.S]
    exact Tree.first hk hv (hQ.first key val hk hv)
end Go.Proofs.Ytafeddjcomeniaa
end

/- Pages of at most 900 bytes stay so where keys are put in. Plain Lean. No program here. Conditions: none. -/
section
namespace Go.Proofs.Ytafeddjcomeniaa
open Go

def fitP (p : Pg) : Prop := (encP p).length ≤ 900
/-- A key more is 443 bytes more, at most. -/
theorem enc_put (key val : ByteArray) (hk : keyFit key) (hv : val.size ≤ 400) : ∀ ks vs : List ByteArray, vs.length = ks.length → (encKV (putP ⟨true, ks, vs, []⟩ key val).keys (putP ⟨true, ks, vs, []⟩ key val).vals).length ≤ (encKV ks vs).length + 443
  | [], vs, h => by
    obtain rfl : vs = [] := List.length_eq_zero_iff.1 h
    have h3 := putU_oneB (n := key.size) (by have := hk.2; omega)
    have h4 := putU_two (n := val.size) (by omega)
    have := hk.2
    show (encKV [key] [val]).length ≤ _
    simp only [encKV, List.append_nil, List.length_append, putS_len, List.length_nil]
    omega
  | a :: ks, [], h => by cases h
  | a :: ks, b :: vs, h => by
    have ih := enc_put key val hk hv ks vs (by simpa using h)
    have h3 := putU_oneB (n := key.size) (by have := hk.2; omega)
    have h4 := putU_two (n := val.size) (by omega)
    have hk2 := hk.2
    unfold putP at ih ⊢
    simp only [if_true] at ih ⊢
    rw [there_cons, findN_cons]
    cases hl : lessB a key with
    | true =>
      simp only [if_true]
      cases hT : thereB ks key with
      | true =>
        rw [hT] at ih
        simp only [if_true] at ih
        simp only [if_true, List.set_cons_succ, encKV, List.length_append]
        omega
      | false =>
        rw [hT] at ih
        simp only [Bool.false_eq_true, if_false] at ih
        simp only [Bool.false_eq_true, if_false, List.take_succ_cons, List.drop_succ_cons, List.cons_append, encKV, List.length_append]
        omega
    | false =>
      simp only [Bool.false_eq_true, if_false]
      cases hT : (a.toList == key.toList) with
      | true =>
        simp only [if_true, List.set_cons_zero, encKV, List.length_append, putS_len]
        omega
      | false =>
        simp only [Bool.false_eq_true, if_false, List.take_zero, List.drop_zero, List.nil_append, List.singleton_append, encKV, List.length_append, putS_len]
        omega
theorem pre_leaf {p : Pg} {key val : ByteArray} (hk : keyFit key) (hv : val.size ≤ 400) (hq : fitP p) (hg : goodB p = true) (hl : p.leaf = true) (hne : 1 ≤ p.keys.length) (hn : p.keys.length ≤ 126) : Pre fitP (putP p key val) := by
  have hp : OkPg (fun _ _ _ => True) p none none := ⟨hg, hne, fun x _ => inB_all x, fun _ _ _ _ => trivial⟩
  obtain ⟨ho, hi', hlf⟩ := putP_ok hp hl hk hv (inB_all key) (fun _ => [])
  obtain ⟨hv1, hk1⟩ := hp.leaflen hl
  obtain ⟨hv2, hk2⟩ := ho.leaflen hlf
  have hlen : (putP p key val).keys.length ≤ 127 := by
    have h1 := congrArg List.length hi'
    have h2 := putL_len key val (itemsP (fun _ => []) p)
    rw [← h1] at h2
    unfold itemsP at h2
    rw [hlf, hl] at h2
    simp only [if_true, List.length_zip] at h2
    omega
  have hks := good_key_size ho.good
  have hvs := good_val_size ho.good
  have w1 := whole_len (p := p) (by omega) hl hv1
  have w2 := whole_len hlen hlf hv2
  have hb : (encP (putP p key val)).length ≤ (encP p).length + 443 := by
    have k1 : ∀ q : Pg, q.vals.length = q.keys.length → kvN q.keys q.vals 0 q.keys.length = (encKV q.keys q.vals).length := fun q h => by
      unfold kvN
      rw [List.take_length, ← h, List.take_length]; rfl
    rw [w1, w2, k1 p hv1, k1 _ hv2]
    obtain ⟨lf, ks, vs, ns⟩ := p
    obtain rfl : lf = true := hl
    obtain rfl : ns = [] := hk1
    have := enc_put key val hk hv ks vs hv1
    show 2 + _ ≤ 2 + (encKV ks vs).length + 443
    omega
  have hq : (encP p).length ≤ 900 := hq
  refine ⟨fun h => ?_, fun a k b h1 h2 => ?_⟩
  · show (encP (putP p key val)).length ≤ 900
    by_cases c : 900 < (encP (putP p key val)).length
    · rw [if_pos c] at h
      unfold splitP at h
      rw [hlf] at h
      simp only [if_true] at h
      split at h
      case isTrue => cases h
      case isFalse c2 =>
        have e1 : (putP p key val).keys.length = 1 := by have := ho.ne; omega
        have : kvN (putP p key val).keys (putP p key val).vals 0 1 ≤ 443 := kvN_one (i := 0) hv2 hks hvs (by omega)
        rw [w2, e1]
        omega
    · omega
  · unfold splitP at h2
    rw [hlf] at h2
    simp only [if_true] at h2
    split at h2
    case isFalse => cases h2
    case isTrue c2 =>
      cases h2
      exact split_bytes hlen hv2 hks hvs c2 (by omega)
end Go.Proofs.Ytafeddjcomeniaa
end

/- Branches of at most 900 bytes stay so where a kid has become another or two. Plain Lean. No program here. Conditions: none. -/
section
namespace Go.Proofs.Ytafeddjcomeniaa
open Go

theorem encK_app (a b : List ByteArray) : (encK (a ++ b)).length = (encK a).length + (encK b).length := by
  unfold encK; rw [List.flatMap_append, List.length_append]
theorem encN_app (a b : List Int) : (encN (a ++ b)).length = (encN a).length + (encN b).length := by
  unfold encN; rw [List.flatMap_append, List.length_append]
theorem encK_ge : ∀ ks : List ByteArray, (∀ s ∈ ks, 1 ≤ s.size ∧ s.size ≤ 40) → 2 * ks.length ≤ (encK ks).length
  | [], _ => by simp
  | k :: ks, h => by
    have ih := encK_ge ks fun s hs => h s (List.mem_cons_of_mem _ hs)
    have hk := h k List.mem_cons_self
    have e := encK_app [k] ks
    have e1 : (encK [k]).length = (putS k).length := by simp [encK]
    have := putU_pos k.size
    rw [putS_len] at e1
    rw [List.singleton_append] at e
    rw [e, List.length_cons]
    omega
theorem encN_ge : ∀ ns : List Int, ns.length ≤ (encN ns).length
  | [] => by simp
  | n :: ns => by
    have ih := encN_ge ns
    have e := encN_app [n] ns
    have e1 : (encN [n]).length = (putU n.toNat).length := by simp [encN]
    have := putU_pos n.toNat
    rw [List.singleton_append] at e
    rw [e, List.length_cons]
    omega
theorem branch_len {p : Pg} (hl : p.leaf = false) : (encP p).length = 1 + (putU p.keys.length).length + (encK p.keys).length + (encN p.kids).length := by
  unfold encP encB
  rw [hl]
  simp only [Bool.false_eq_true, if_false, List.length_cons, List.length_append]
  omega
theorem set_bytes {ns : List Int} {i : Nat} (hi : i < ns.length) {n : Int} (hn : n ≤ 16383) : (encN (ns.set i n)).length ≤ (encN ns).length + 1 := by
  have e1 : ns.set i n = ns.take i ++ n :: ns.drop (i + 1) := List.set_eq_take_append_cons_drop.trans (if_pos hi)
  have e2 : ns = ns.take i ++ ns[i] :: ns.drop (i + 1) := by rw [← List.drop_eq_getElem_cons hi, List.take_append_drop]
  have h2 : (encN ns).length = (encN (ns.take i ++ ns[i] :: ns.drop (i + 1))).length := congrArg (fun l => (encN l).length) e2
  rw [e1, h2, encN_app, encN_app, ← List.singleton_append, encN_app, ← List.singleton_append (x := ns[i]), encN_app]
  have a1 : (encN [n]).length = (putU n.toNat).length := by simp [encN]
  have a2 : (encN [ns[i]]).length = (putU ns[i].toNat).length := by simp [encN]
  have := putU_le2 (u := n.toNat) (by omega)
  have := putU_pos ns[i].toNat
  omega
theorem ins_bytes {α : Type} (l : List α) (x : α) (i : Nat) (f : List α → Nat) (hf : ∀ a b, f (a ++ b) = f a + f b) : f (l.take i ++ [x] ++ l.drop i) = f l + f [x] := by
  rw [hf, hf]
  have := hf (l.take i) (l.drop i)
  rw [List.take_append_drop] at this
  omega
/-- A half of a branch that has grown a little. -/
theorem half_bytes {ks ks' : List ByteArray} {ns ns' : List Int} (hk : ∀ s ∈ ks, 1 ≤ s.size ∧ s.size ≤ 40) (hn : ∀ n ∈ ns, n ≤ 16383) (hl : ns.length = ks.length + 1) {B : Nat} (hB : 3 + (encK ks).length + (encK ks').length + (encN ns).length + (encN ns').length ≤ B) (h1 : ks.length ≤ 20 ∨ 3 * 21 ≤ (encK ks').length + (encN ns').length) (hB2 : B ≤ 950) : (encP ⟨false, ks, [], ns⟩).length ≤ 900 := by
  rw [branch_len rfl]
  have a1 := encK_41 ks hk
  have a2 := encN_2 ns hn
  have a3 := encN_ge ns
  have a4 : (putU ks.length).length ≤ 2 := putU_le2 (u := ks.length) (by omega)
  dsimp only
  rcases h1 with h1 | h1 <;> omega
theorem pre_branch {p : Pg} {i : Nat} {a : Added} (hq : fitP p) (hg : goodB p = true) (hl : p.leaf = false) (hi : i ≤ p.keys.length) (hgu : goodB (updP p i a) = true) (hku : ∀ n ∈ (updP p i a).kids, n ≤ 16383) : Pre fitP (updP p i a) := by
  have hq : (encP p).length ≤ 900 := hq
  have hkl : p.kids.length = p.keys.length + 1 := by
    rcases good_shape hg with ⟨e, _⟩ | ⟨_, _, c⟩
    · rw [hl] at e; cases e
    · exact c
  rw [branch_len hl] at hq
  have g1 := encK_ge p.keys (good_key_size hg)
  have p1 := putU_pos p.keys.length
  have hulf := updP_leaf p i a
  have huk := good_key_size hgu
  have hukl : (updP p i a).kids.length = (updP p i a).keys.length + 1 := by
    rcases good_shape hgu with ⟨e, _⟩ | ⟨_, _, c⟩
    · rw [hulf] at e; cases e
    · exact c
  have hlen := updP_keys p i a hi
  have hA : (encK (updP p i a).keys).length + (encN (updP p i a).kids).length ≤ (encK p.keys).length + (encN p.kids).length + 44 := by
    obtain ⟨n, sp⟩ := a
    cases sp with
    | none =>
      have hn : n ≤ 16383 := hku n (List.mem_iff_getElem.2 ⟨i, by show i < (p.kids.set i n).length; rw [List.length_set]; omega, by show (p.kids.set i n)[i]'_ = n; simp⟩)
      have := set_bytes (ns := p.kids) (i := i) (by omega) hn
      show (encK p.keys).length + (encN (p.kids.set i n)).length ≤ _
      omega
    | some q =>
      obtain ⟨k, o⟩ := q
      have e1 : (updP p i ⟨n, some (k, o)⟩).keys = p.keys.take i ++ [k] ++ p.keys.drop i := rfl
      have e2 : (updP p i ⟨n, some (k, o)⟩).kids = (p.kids.set i n).take (i + 1) ++ [o] ++ (p.kids.set i n).drop (i + 1) := rfl
      have hk : 1 ≤ k.size ∧ k.size ≤ 40 := huk k (by rw [e1]; simp)
      have ho : o ≤ 16383 := hku o (by rw [e2]; simp)
      have hn : n ≤ 16383 := hku n (by
        rw [e2]
        refine List.mem_append.2 (.inl (List.mem_append.2 (.inl ?_)))
        exact List.mem_iff_getElem.2 ⟨i, by rw [List.length_take, List.length_set]; omega, by rw [List.getElem_take]; simp⟩)
      have b1 := set_bytes (ns := p.kids) (i := i) (by omega) hn
      have b2 := ins_bytes p.keys k i (fun l => (encK l).length) encK_app
      have b3 := ins_bytes (p.kids.set i n) o (i + 1) (fun l => (encN l).length) encN_app
      have b4 := encK_41 [k] (fun s hs => by rw [List.mem_singleton.1 hs]; exact hk)
      have b5 := encN_2 [o] (fun s hs => by rw [List.mem_singleton.1 hs]; exact ho)
      simp only [List.length_singleton] at b4 b5
      rw [e1, e2, b2, b3]
      omega
  obtain ⟨q, hqe⟩ : ∃ q, q = updP p i a := ⟨_, rfl⟩
  rw [← hqe] at hulf huk hukl hlen hA hku hgu ⊢
  have g2 := encN_ge q.kids
  have g3 := encK_ge q.keys huk
  have p2 : (putU q.keys.length).length ≤ 2 := putU_le2 (u := q.keys.length) (by omega)
  have hqb := branch_len hulf
  refine ⟨fun h => ?_, fun x k y h1 h2 => ?_⟩
  · show (encP q).length ≤ 900
    by_cases c : 900 < (encP q).length
    · exfalso
      rw [if_pos c] at h
      unfold splitP at h
      rw [hulf] at h
      simp only [Bool.false_eq_true, if_false] at h
      split at h
      case isTrue => cases h
      case isFalse c2 =>
        have := branch_few hgu hulf hku (by omega)
        omega
    · omega
  · unfold splitP at h2
    rw [hulf] at h2
    simp only [Bool.false_eq_true, if_false] at h2
    split at h2
    case isFalse => cases h2
    case isTrue c2 =>
      cases h2
      have hm : q.keys.length / 2 < q.keys.length := by omega
      have k1 := encK_app (q.keys.take (q.keys.length / 2)) (q.keys.drop (q.keys.length / 2))
      have k2 := encN_app (q.kids.take (q.keys.length / 2 + 1)) (q.kids.drop (q.keys.length / 2 + 1))
      have k3 := encK_app (q.keys.take (q.keys.length / 2 + 1)) (q.keys.drop (q.keys.length / 2 + 1))
      rw [List.take_append_drop] at k1 k2 k3
      have m1 := encK_ge (q.keys.drop (q.keys.length / 2)) fun s hs => huk s (List.mem_of_mem_drop hs)
      have m2 := encN_ge (q.kids.drop (q.keys.length / 2 + 1))
      have m3 := encK_ge (q.keys.take (q.keys.length / 2 + 1)) fun s hs => huk s (List.mem_of_mem_take hs)
      have m4 := encN_ge (q.kids.take (q.keys.length / 2 + 1))
      rw [List.length_drop] at m1 m2
      rw [List.length_take] at m3 m4
      refine ⟨?_, ?_⟩
      · refine half_bytes (ks' := q.keys.drop (q.keys.length / 2)) (ns' := q.kids.drop (q.keys.length / 2 + 1)) (fun s hs => huk s (List.mem_of_mem_take hs)) (fun n hn => hku n (List.mem_of_mem_take hn)) (by rw [List.length_take, List.length_take]; omega) (B := 950) (by omega) ?_ (Nat.le_refl _)
        rw [List.length_take]
        omega
      · refine half_bytes (ks' := q.keys.take (q.keys.length / 2 + 1)) (ns' := q.kids.take (q.keys.length / 2 + 1)) (fun s hs => huk s (List.mem_of_mem_drop hs)) (fun n hn => hku n (List.mem_of_mem_drop hn)) (by rw [List.length_drop, List.length_drop]; omega) (B := 950) (by omega) ?_ (Nat.le_refl _)
        rw [List.length_drop]
        omega
end Go.Proofs.Ytafeddjcomeniaa
end

/- The numbers of all pages, and how deep. Plain Lean. No program here. Conditions: none. -/
section
namespace Go.Proofs.Ytafeddjcomeniaa
open Go

def pagesN (S : List Pg) : Nat → Int → List Int
  | 0, _ => []
  | d + 1, n => match pgAt S n with
    | none => []
    | some p => n :: p.kids.flatMap (pagesN S d)
def deepN (S : List Pg) : Nat → Int → Nat
  | 0, _ => 0
  | d + 1, n => match pgAt S n with
    | none => 0
    | some p => 1 + (p.kids.map (deepN S d)).foldr max 0
theorem pages_len (S : List Pg) : ∀ (d : Nat) (n : Int), (pagesN S d n).length = nodesN S d n
  | 0, _ => rfl
  | d + 1, n => by
    rw [pagesN, nodesN]
    cases pgAt S n with
    | none => rfl
    | some p =>
      have h : ∀ l : List Int, (l.flatMap (pagesN S d)).length = (l.map (nodesN S d)).sum := fun l => by
        induction l with
        | nil => rfl
        | cons m l ih => rw [List.flatMap_cons, List.length_append, ih, List.map_cons, List.sum_cons, pages_len S d m]
      show (n :: p.kids.flatMap (pagesN S d)).length = 1 + _
      rw [List.length_cons, h]
      omega
end Go.Proofs.Ytafeddjcomeniaa
end

/- Trees all of whose leaves are as deep, with pages of at most 900 bytes: a put keeps them. Plain Lean. No program here. Conditions: none. -/
section
namespace Go.Proofs.Ytafeddjcomeniaa
open Go Go.RowKit
set_option linter.unusedVariables false

/-- All leaves are just d deep. -/
def ExN (S : List Pg) : Nat → Int → Prop
  | 0, _ => False
  | d + 1, n => ∃ p, pgAt S n = some p ∧ (p.leaf = true ↔ d = 0) ∧ ∀ m ∈ p.kids, ExN S d m
def ExA (S : List Pg) (d : Nat) (a : Added) : Prop := ExN S d a.n ∧ ∀ k o, a.sp = some (k, o) → ExN S d o
theorem ExN.grow {S : List Pg} (X : List Pg) : ∀ {d : Nat} {n : Int}, ExN S d n → ExN (S ++ X) d n
  | 0, _, h => h.elim
  | _ + 1, _, ⟨p, h1, h2, h3⟩ => ⟨p, pgAt_app h1 X, h2, fun m hm => (h3 m hm).grow X⟩
theorem ExN.new {S : List Pg} {d : Nat} {p : Pg} (h : p.leaf = true ↔ d = 0) (hk : ∀ m ∈ p.kids, ExN S d m) : ExN (S ++ [p]) (d + 1) ((S.length + 1 : Nat) : Int) := ⟨p, pgAt_new S p, h, fun m hm => (hk m hm).grow _⟩
theorem split_kids {p a b : Pg} {k : ByteArray} (h : splitP p = some (a, k, b)) : a.leaf = p.leaf ∧ b.leaf = p.leaf ∧ (∀ m ∈ a.kids, m ∈ p.kids) ∧ ∀ m ∈ b.kids, m ∈ p.kids := by
  unfold splitP at h
  split at h
  · rename_i hl
    split at h
    · cases h
      exact ⟨hl.symm, hl.symm, fun m hm => by simp [partP] at hm, fun m hm => by simp [partP] at hm⟩
    · cases h
  · rename_i hl
    split at h
    · cases h
      exact ⟨by simpa [brA] using hl, by simpa [brB] using hl, fun m hm => List.mem_of_mem_take hm, fun m hm => List.mem_of_mem_drop hm⟩
    · cases h
theorem halves_ex {ill : Int} {s s' : Sh} {d : Nat} {p : Pg} {a : Added} (h : halves ill s p = (s', some a)) (hl : p.leaf = true ↔ d = 0) (hk : ∀ m ∈ p.kids, ExN s.S d m) : ExA s'.S (d + 1) a := by
  unfold halves at h
  cases hs : (if 900 < (encP p).length then splitP p else none) with
  | none =>
    rw [hs] at h
    dsimp only at h
    rcases addS_ok ill s p with ⟨s1, e, g, _⟩ | ⟨s1, e, g, _⟩
    · rw [e] at h; cases h
    · rw [e] at h
      cases h
      refine ⟨?_, fun k o e => by cases e⟩
      rw [g.S]
      exact ExN.new hl hk
  | some q =>
    obtain ⟨x, k, y⟩ := q
    rw [hs] at h
    dsimp only at h
    have hs : splitP p = some (x, k, y) := by
      split at hs
      · exact hs
      · cases hs
    obtain ⟨l1, l2, k1, k2⟩ := split_kids hs
    rcases addS_ok ill s x with ⟨s1, e, g, _⟩ | ⟨s1, e, g, _⟩
    · rw [e] at h; cases h
    · rw [e] at h
      dsimp only at h
      rcases addS_ok ill s1 y with ⟨s2, e2, g2, _⟩ | ⟨s2, e2, g2, _⟩
      · rw [e2] at h; cases h
      · rw [e2] at h
        cases h
        refine ⟨?_, fun k' o e => ?_⟩
        · rw [g2.S, g.S]
          exact (ExN.new (by rw [l1]; exact hl) fun m hm => hk m (k1 m hm)).grow _
        · cases e
          rw [g2.S]
          exact ExN.new (by rw [l2]; exact hl) fun m hm => by rw [g.S]; exact (hk m (k2 m hm)).grow _
theorem upd_kids {p : Pg} {i : Nat} {a : Added} {m : Int} (h : m ∈ (updP p i a).kids) : m ∈ p.kids ∨ m = a.n ∨ ∃ k o, a.sp = some (k, o) ∧ m = o := by
  have hset : ∀ x ∈ p.kids.set i a.n, x ∈ p.kids ∨ x = a.n := fun x hx => List.mem_or_eq_of_mem_set hx
  unfold updP at h
  cases hsp : a.sp with
  | none =>
    rw [hsp] at h
    rcases hset m h with h | h
    · exact .inl h
    · exact .inr (.inl h)
  | some q =>
    obtain ⟨k, o⟩ := q
    rw [hsp] at h
    have h : m ∈ (p.kids.set i a.n).take (i + 1) ++ [o] ++ (p.kids.set i a.n).drop (i + 1) := h
    rcases List.mem_append.1 h with h | h
    · rcases List.mem_append.1 h with h | h
      · rcases hset m (List.mem_of_mem_take h) with h | h
        · exact .inl h
        · exact .inr (.inl h)
      · exact .inr (.inr ⟨k, o, rfl, List.mem_singleton.1 h⟩)
    · rcases hset m (List.mem_of_mem_drop h) with h | h
      · exact .inl h
      · exact .inr (.inl h)
theorem putP_leaf' (p : Pg) (key val : ByteArray) (h : p.leaf = true) : (putP p key val).leaf = true := by
  unfold putP
  rw [h]
  simp only [if_true]
  split <;> rfl
theorem putP_kids' (p : Pg) (key val : ByteArray) (h : p.leaf = true) (hk : p.kids = []) : (putP p key val).kids = [] := by
  unfold putP
  rw [h]
  simp only [if_true]
  split <;> first | rfl | exact hk
theorem putW_ex {Q : Pg → Prop} (ill M : Int) {key val : ByteArray} (hk : keyFit key) (hv : val.size ≤ 400) (hM : M ≤ 16383) (hQ : QPut Q M) :
    ∀ (d : Nat) (n : Int) (lo hi : Option ByteArray) (s : Sh), OkN Q s.S d n lo hi → inB lo hi key → (itemsN s.S d n).length ≤ 126 → s.S.length + 2 * d ≤ M → ExN s.S d n → ∀ s' a, putW ill key val (wayN s.S d n key) s = (s', some a) → ExA s'.S d a := by
  intro d
  induction d with
  | zero => intro n lo hi s h; exact h.elim
  | succ d ih =>
    intro n lo hi s h hb hit hlen hex s' a e
    obtain ⟨p, hp, hq, hpg⟩ := h
    obtain ⟨p', hp', hlf', hkx⟩ := hex
    rw [hp] at hp'
    cases hp'
    have eway : wayN s.S (d + 1) n key = (p, kidN p key) :: if p.leaf then [] else wayN s.S d (p.kids.getD (kidN p key) 0) key := by rw [wayN]; simp only [hp]
    have eit : itemsN s.S (d + 1) n = itemsP (itemsN s.S d) p := by rw [itemsN]; simp only [hp]
    rw [eway] at e
    rw [eit] at hit
    cases hl : p.leaf with
    | true =>
      rw [hl] at e
      simp only [if_true] at e
      have e : halves ill s (putP p key val) = (s', some a) := e
      have hpk := putP_kids' p key val hl (hpg.leaflen hl).2
      refine halves_ex e ?_ (fun m hm => by rw [hpk] at hm; cases hm)
      rw [putP_leaf' p key val hl]
      exact ⟨fun _ => hlf'.1 hl, fun _ => rfl⟩
    | false =>
      rw [hl] at e
      simp only [Bool.false_eq_true, if_false] at e
      obtain ⟨e0, h0, hok, hbk, hA, hC⟩ := kid_there hpg hl hb
      have hfk := kid_few (f := itemsN s.S d) hl e0
      have hkex := hkx _ (List.mem_of_getElem? e0)
      obtain ⟨⟨x, xs, hx, hxl⟩, hR⟩ := putW_ok ill M hk hv hM (fun p => hQ.leaf p key val hk hv) hQ.branch d _ _ _ s hok hbk (by omega) (by omega)
      have IH := ih _ _ _ s hok hbk (by omega) (by omega) hkex
      rw [hx] at e IH hR
      unfold putW at e
      rcases hR with ⟨s1, X, e1, g, hc⟩ | ⟨s1, X, b, e1, H⟩
      · rw [e1] at e; cases e
      · rw [e1] at e
        dsimp only at e
        have hA := IH s1 b e1
        refine halves_ex e ?_ fun m hm => ?_
        · rw [updP_leaf]
          exact ⟨fun h => (by cases h), fun h => by rw [hlf'.2 h] at hl; cases hl⟩
        · rcases upd_kids hm with hm | rfl | ⟨k, o, hsp, rfl⟩
          · rw [H.grew.S]; exact (hkx m hm).grow _
          · exact hA.1
          · exact hA.2 k _ hsp
/-- A tree behind k puts: good, of small pages, all leaves as deep. -/
structure TreeX (S : List Pg) (k : Nat) (r : Int) (l : List KV) : Prop where
  few : l.length ≤ k
  none_ : r = 0 → l = []
  some_ : r ≠ 0 → ∃ d, OkN fitP S d r none none ∧ itemsN S d r = l ∧ 20 * d + min (rk S r) 20 ≤ 40 + k ∧ ExN S d r
theorem TreeX.tree {S : List Pg} {k : Nat} {r : Int} {l : List KV} (h : TreeX S k r l) : Tree fitP S k r l := ⟨h.few, h.none_, fun h0 => by
  obtain ⟨d, h1, h2, h3, _⟩ := h.some_ h0
  exact ⟨d, h1, h2, h3⟩⟩
theorem TreeX.none0 (S : List Pg) : TreeX S 0 0 [] := ⟨Nat.le_refl _, fun _ => rfl, fun h => absurd rfl h⟩
theorem TreeX.more {S : List Pg} {k : Nat} {r : Int} {l : List KV} (h : TreeX S k r l) : TreeX S (k + 1) r l := ⟨by have := h.few; omega, h.none_, fun h0 => by
  obtain ⟨d, h1, h2, h3, h4⟩ := h.some_ h0
  exact ⟨d, h1, h2, by omega, h4⟩⟩
theorem qput_fit : QPut fitP 16383 := by
  refine ⟨fun p key val hk hv hq hg hl hne hn => pre_leaf hk hv hq hg hl hne hn, fun p i a hq hg hl hi hgu _ hku => pre_branch hq hg hl hi hgu hku, fun q n o hq hn ho => ?_, fun key val hk hv => ?_⟩
  · have h1 := putU_le2 (u := n.toNat) (by omega)
    have h2 := putU_le2 (u := o.toNat) (by omega)
    have h3 := encK_41 [q] (fun s hs => by rw [List.mem_singleton] at hs; rw [hs]; exact hq)
    have h4 : (encN [n, o]).length = (putU n.toNat).length + (putU o.toNat).length := by simp [encN]
    show (encP (rootP q n o)).length ≤ 900
    rw [branch_len rfl]
    show 1 + (putU [q].length).length + (encK [q]).length + (encN [n, o]).length ≤ 900
    have h5 := putU_le1 (u := 1) (by omega)
    simp only [List.length_singleton] at *
    omega
  · have h := enc_put key val hk hv [] [] rfl
    have e : (putP ⟨true, [], [], []⟩ key val) = ⟨true, [key], [val], []⟩ := rfl
    rw [e] at h
    dsimp only at h
    have h6 := putU_le1 (u := 0 + 1) (by omega)
    show (encP ⟨true, [key], [val], []⟩).length ≤ 900
    unfold encP encB
    simp only [if_true, List.length_cons, List.length_append, List.length_nil] at *
    have h7 : (encKV [] []).length = 0 := rfl
    omega
theorem putT_x {ill : Int} {key val : ByteArray} (hk : keyFit key) (hv : val.size ≤ 400) {s : Sh} {k : Nat} {root : Int} {l : List KV} {d : Nat} (hw : ill ≤ s.n) (hfew : l.length ≤ k) (h0 : root ≠ 0)
    (hok : OkN fitP s.S d root none none) (hl : itemsN s.S d root = l) (hdp : 20 * d + min (rk s.S root) 20 ≤ 40 + k) (hex : ExN s.S d root) (hkk : k ≤ 125) (hS : s.S.length ≤ 16000) :
    TreeX (putT ill key val root (wayN s.S d root key) s).1.S (k + 1) (putT ill key val root (wayN s.S d root key) s).2.1 (putL l key val) := by
  have hlen := putL_len key val l
  obtain ⟨⟨x, xs, hx, hxl⟩, hW⟩ := putW_ok ill 16383 hk hv (by omega) (fun p => qput_fit.leaf p key val hk hv) qput_fit.branch d root none none ⟨s.S, s.n + (wayN s.S d root key).length⟩ hok (inB_all key) (by dsimp only; rw [hl]; omega) (by dsimp only; omega)
  have hE := putW_ex ill 16383 hk hv (by omega) qput_fit d root none none ⟨s.S, s.n + (wayN s.S d root key).length⟩ hok (inB_all key) (by dsimp only; rw [hl]; omega) (by dsimp only; omega) hex
  dsimp only at hW hE
  unfold putT
  rw [if_neg h0, if_neg (by omega)]
  generalize wayN s.S d root key = FULL at *
  rcases hW with ⟨s', X, e', g, hc⟩ | ⟨s', X, a, e', H⟩
  · have := g.sick rfl
    dsimp only at this
    omega
  · rw [e']
    have hA := hE s' a e'
    have hok' := H.ok
    have hit := H.items
    dsimp only at hit
    rw [hl] at hit
    obtain ⟨n, sp⟩ := a
    cases sp with
    | none =>
      have hok' : OkN fitP s'.S d n none none := hok'
      have hfl : rk s'.S n ≤ rk s.S root + 1 := H.flat rfl
      exact ⟨by omega, fun h0 => absurd h0 (ok_ne hok'), fun _ => ⟨d, hok', hit, by dsimp only; omega, hA.1⟩⟩
    | some qo =>
      obtain ⟨q, o⟩ := qo
      dsimp only
      obtain ⟨h1, h2, h3⟩ : OkN fitP s'.S d n none (some q) ∧ OkN fitP s'.S d o (some q) none ∧ keyFit q := hok'
      have htl := H.tall _ rfl
      dsimp only at htl
      have hj : OkPg (OkN fitP s'.S d) (rootP q n o) none none := join_ok h1 h2 h3
      have hgn := H.grew.n
      dsimp only at hgn
      have hlen1 : (s'.S.length : Int) ≤ 16383 := by
        have h3 := H.cost
        have h4 := H.grew.len
        have h5 := congrArg List.length H.grew.S
        rw [List.length_append] at h5
        dsimp only at h3 h4 h5
        omega
      have hq := qput_fit.root q n o h3 (by have := (ok_le h1).2; omega) (by have := (ok_le h2).2; omega)
      rcases addS_ok ill s' (rootP q n o) with ⟨s2, e2, g2, hc2⟩ | ⟨s2, e2, g2, hc2⟩
      · have := g2.sick rfl
        omega
      · rw [e2]
        dsimp only
        rw [g2.S]
        have hd : d ≠ 0 := fun e => by subst e; exact h1.elim
        refine ⟨by omega, fun h0 => by omega, fun _ => ⟨d + 1, OkN.new hj hq, ?_, ?_, ExN.new ⟨fun h => (by cases h), fun h => absurd h hd⟩ fun m hm => ?_⟩⟩
        · rw [items_new hj]
          have : itemsP (itemsN s'.S d) (rootP q n o) = itemsN s'.S d n ++ itemsN s'.S d o := by
            show List.flatMap (itemsN s'.S d) [n, o] = _
            simp
          rw [this]
          exact hit
        · have : rk (s'.S ++ [rootP q n o]) ((s'.S.length + 1 : Nat) : Int) = 1 := by unfold rk; rw [pgAt_new]; rfl
          rw [this]
          omega
        · rcases List.mem_cons.1 hm with rfl | hm
          · exact hA.1
          · rw [List.mem_singleton] at hm
            subst hm
            exact hA.2 q _ rfl
theorem TreeX.first {S : List Pg} {key val : ByteArray} {k : Nat} (hk : keyFit key) (hv : val.size ≤ 400) : TreeX (S ++ [⟨true, [key], [val], []⟩]) (k + 1) ((S.length + 1 : Nat) : Int) (putL [] key val) := by
  have ht : Tree fitP (S ++ [⟨true, [key], [val], []⟩]) (k + 1) ((S.length + 1 : Nat) : Int) (putL [] key val) := Tree.first hk hv (qput_fit.first key val hk hv)
  refine ⟨ht.few, ht.none_, fun h0 => ?_⟩
  obtain ⟨d, h1, h2, h3, h4⟩ := ht.deep h0
  obtain rfl := h4 _ (pgAt_new S _) rfl
  exact ⟨1, h1, h2, h3, ExN.new ⟨fun _ => rfl, fun _ => rfl⟩ fun m hm => by cases hm⟩
/-- The depth of a tree all of whose leaves are as deep. -/
theorem deep_ex {S : List Pg} {Q : Pg → Prop} : ∀ {d : Nat} {n : Int} {lo hi : Option ByteArray}, ExN S d n → OkN Q S d n lo hi → deepN S d n = d
  | 0, _, _, _, h, _ => h.elim
  | d + 1, n, lo, hi, ⟨p, h1, h2, h3⟩, ⟨p', g1, g2, g3⟩ => by
    rw [h1] at g1
    cases g1
    rw [deepN]
    simp only [h1]
    cases hl : p.leaf with
    | true =>
      have hd := h2.1 hl
      subst hd
      rw [(g3.leaflen hl).2]; rfl
    | false =>
      have hk := (g3.kidlen hl).2
      have hall : ∀ m ∈ p.kids, deepN S d m = d := fun m hm => by
        obtain ⟨i, hi'⟩ := kids_mem hm
        exact deep_ex (h3 m hm) (g3.kids hl i m hi')
      have hmap : p.kids.map (deepN S d) = List.replicate p.kids.length d := List.eq_replicate_iff.2 ⟨by simp, fun x hx => by
        obtain ⟨m, hm, rfl⟩ := List.mem_map.1 hx
        exact hall m hm⟩
      rw [hmap, hk]
      have : ∀ k, (List.replicate (k + 1) d).foldr max 0 = d := fun k => by
        induction k with
        | zero => simp
        | succ k ih => rw [List.replicate_succ, List.foldr_cons, ih]; omega
      rw [this]
      omega
end Go.Proofs.Ytafeddjcomeniaa
end

/- tree.ranger in memory; whether it is done. Conditions: it lies in memory. -/
section
namespace Go.Proofs.Ytafeddjcomeniaa
open Go.RowKit
set_option linter.unusedVariables false
set_option linter.unusedSimpArgs false

def kvC (x : KV) : List Value := [.string x.1, .string x.2]
/-- A ranger in block g over the shelf in block b, with what it has collected; all of its own from G on. -/
structure RgAt (G B b g : Nat) (ill : Int) (v : Value) (fr til : ByteArray) (most : Int) (S : List Pg) (n r : Int) (l : List KV) (w : World) : Prop where
  sh : ShAt B w b ill ⟨S, n⟩ v
  blk : ∃ A c, Blk w g 106 #[shV b, .int .i64 r, .string fr, .string til, .int .i64 most, .slice A l.length c] ∧ w.ownsRow G 61 2 (.slice A l.length c) l.length (l.flatMap kvC)
  gG : G ≤ g
/-- What a ranger keeps. -/
structure RgK (G b g : Nat) (w w' : World) : Prop where
  kd : DKept (fun k => k = b ∨ G ≤ k) w w'
  blk : ∀ k t cs, t ≠ 61 → k ≠ b → k ≠ g → Blk w k t cs → Blk w' k t cs
section
variable {G B b g : Nat} {ill : Int} {v : Value} {fr til : ByteArray} {most : Int} {S : List Pg} {n r : Int} {l : List KV} {w w' w2 : World}
theorem RgK.refl (w : World) : RgK G b g w w := ⟨DKept.refl, fun _ _ _ _ _ _ h => h⟩
theorem RgK.trans (h : RgK G b g w w') (k : RgK G b g w' w2) : RgK G b g w w2 := ⟨h.kd.trans k.kd (fun _ _ e => e), fun i t cs ht h1 h2 hb => k.blk i t cs ht h1 h2 (h.blk i t cs ht h1 h2 hb)⟩
theorem RgK.later (h : Later w w') : RgK G b g w w' := ⟨DKept.of_below h, fun i t cs _ _ _ hb => hb.below h hb.lt⟩
theorem RgK.sm {cb cg : Array Value} (h : RgK G b g w w') (hb : Blk w b 26 cb) (hg : Blk w g 106 cg) : Sm w w' := fun i cs =>
  ⟨fun x => h.blk i _ cs (by decide) (fun e => x.ne_ hb (by decide) e) (fun e => x.ne_ hg (by decide) e) x, fun x => h.blk i _ cs (by decide) (fun e => x.ne_ hb (by decide) e) (fun e => x.ne_ hg (by decide) e) x⟩
theorem RgAt.later (h : RgAt G B b g ill v fr til most S n r l w) (k : Later w w') : RgAt G B b g ill v fr til most S n r l w' := by
  obtain ⟨A, c, h1, h2⟩ := h.blk
  exact ⟨h.sh.later k, ⟨A, c, h1.below k h1.lt, own_heap' h2 fun i hi => (show Below _ _ _ from k).block i (h2.lt i hi).2⟩, h.gG⟩
end
theorem rcells {w : World} {g : Nat} {t : TypeId} {v0 v1 v2 v3 v4 v5 : Value} (h : Blk w g t #[v0, v1, v2, v3, v4, v5]) :
    w.cell? ⟨g, 0, none⟩ = some v0 ∧ w.cell? ⟨g, 1, none⟩ = some v1 ∧ w.cell? ⟨g, 2, none⟩ = some v2 ∧ w.cell? ⟨g, 3, none⟩ = some v3 ∧ w.cell? ⟨g, 4, none⟩ = some v4 ∧ w.cell? ⟨g, 5, none⟩ = some v5 :=
  ⟨(h.cell 0).trans rfl, (h.cell 1).trans rfl, (h.cell 2).trans rfl, (h.cell 3).trans rfl, (h.cell 4).trans rfl, (h.cell 5).trans rfl⟩
theorem far_ranger : Far 106 := ⟨by decide, by decide, by decide, by decide⟩
set_option maxRecDepth 100000 in
theorem done_any {G B b g : Nat} {ill : Int} {v : Value} {fr til : ByteArray} {most : Int} {S : List Pg} {n r : Int} {l : List KV} {w : World} (h : RgAt G B b g ill v fr til most S n r l w) :
    Calls Try.prog 41 #[.pointer (some ⟨g, 0, none⟩)] w fun e w' => e = .returned (.bool (decide (most ≤ (l.length : Int)))) ∧ Later w w' := by
  obtain ⟨A, c, h1, _⟩ := h.blk
  have hf := Lib.hid fun m => rcells (h1.below (later_drewN w m) h1.lt)
  clear h h1
  go_enter Try.func41, Try.ntmps41
  have c4 := fun m => (hf.out m).2.2.2.2.1
  have c5 := fun m => (hf.out m).2.2.2.2.2
  go_upto_region 1 with fail
  go_quiet (fail)
  go_wp2_with fail
  go_ret
  exact ⟨rfl, later_drewN _ _⟩
end Go.Proofs.Ytafeddjcomeniaa
end

/- tree.ranger's walk. Conditions: ranger and shelf lie in memory; the shelf is well; the tree is good, not deep. -/
section
namespace Go.Proofs.Ytafeddjcomeniaa
open Go.RowKit
set_option linter.unusedVariables false
set_option linter.unusedSimpArgs false

theorem more_len (a b : ByteArray) (m : Nat) (l A : List KV) : (more a b m l A).length ≤ l.length + A.length := by
  unfold more filt
  rw [List.length_append, List.length_take]
  have := List.length_filter_le (fun x : KV => inR a b x.1) A
  omega
def remN (S : List Pg) (d : Nat) (ns : List Int) : Nat := (ns.map (nodesN S d)).sum
theorem remN_drop {S : List Pg} {d : Nat} {ns : List Int} {i : Nat} (h : i < ns.length) : remN S d (ns.drop i) = nodesN S d ns[i] + remN S d (ns.drop (i + 1)) := by
  unfold remN
  rw [List.drop_eq_getElem_cons h, List.map_cons, List.sum_cons]
theorem remN_le {S : List Pg} {d : Nat} (ns : List Int) (i : Nat) : remN S d (ns.drop i) ≤ remN S d ns := by
  have : remN S d ns = remN S d (ns.take i) + remN S d (ns.drop i) := by
    unfold remN
    rw [← List.sum_append, ← List.map_append, List.take_append_drop]
  omega
theorem cinfo_item : (Try.prog.info? 61).map (fun i => (i.zero, i.size, i.bytes)) = some (some (.agg #[.string ⟨#[]⟩, .string ⟨#[]⟩]), 2, 32) := by kernel_rfl
/-- What the walk answers. -/
def RgPost (G B b g : Nat) (ill : Int) (v : Value) (fr til : ByteArray) (most : Int) (S : List Pg) (n r : Int) (K : Nat) (L : List KV) (w : World) (e : Ending) (w' : World) : Prop :=
  e = .returned (.int .i64 0) ∧ ∃ n' r', n ≤ n' ∧ n' ≤ n + K ∧ r ≤ r' ∧ r' ≤ r + K ∧ RgAt G B b g ill v fr til most S n' r' L w' ∧ RgK G b g w w'
/-- What it asks. -/
structure RgPre (Q : Pg → Prop) (S : List Pg) (ill : Int) (d : Nat) (nn : Int) (lo hi : Option ByteArray) (deep n r : Int) (l : List KV) : Prop where
  ok : OkN Q S d nn lo hi
  few : (itemsN S d nn).length ≤ 1000
  len : S.length ≤ 100000
  well : ill ≤ n
  n0 : 0 ≤ n
  n1 : n + nodesN S d nn ≤ 1000000000
  r0 : 0 ≤ r
  r1 : r + nodesN S d nn ≤ 4096
  d0 : 1 ≤ deep
  d1 : deep + d ≤ 21
  room : l.length + (itemsN S d nn).length ≤ 1000000
theorem flat_drop {f : Int → List KV} (ns : List Int) (i : Nat) : ((ns.drop i).flatMap f).length ≤ (ns.flatMap f).length := by
  have : ns.flatMap f = (ns.take i).flatMap f ++ (ns.drop i).flatMap f := by rw [← List.flatMap_append, List.take_append_drop]
  rw [this, List.length_append]; omega
/-- Between two rounds of its loops. -/
structure Lp (G B b g : Nat) (ill : Int) (v : Value) (fr til : ByteArray) (most : Int) (S : List Pg) (q : Nat) (pc : Array Value) (n r N R : Int) (L : List KV) (w W3 wr : World) : Prop where
  at_ : RgAt G B b g ill v fr til most S N R L wr
  kp : RgK G b g w wr
  pg : Blk wr q 54 pc
  n0 : n ≤ N
  r0 : r ≤ R
  sm : Sm W3 wr
theorem Lp.later {G B b g : Nat} {ill : Int} {v : Value} {fr til : ByteArray} {most : Int} {S : List Pg} {q : Nat} {pc : Array Value} {n r N R : Int} {L : List KV} {w W3 wr w' : World} (h : Lp G B b g ill v fr til most S q pc n r N R L w W3 wr) (k : Later wr w') : Lp G B b g ill v fr til most S q pc n r N R L w W3 w' :=
  ⟨h.at_.later k, h.kp.trans (RgK.later k), h.pg.below k h.pg.lt, h.n0, h.r0, h.sm.trans (Sm.later k)⟩
set_option maxRecDepth 100000 in
set_option maxHeartbeats 16000000 in
theorem rwalk_any {Q : Pg → Prop} {G B b g : Nat} {ill : Int} {v : Value} {fr til : ByteArray} {most : Int} {S : List Pg} : ∀ (d : Nat) {nn : Int} {lo hi : Option ByteArray} {deep n r : Int} {l : List KV} {w : World}, RgPre Q S ill d nn lo hi deep n r l → RgAt G B b g ill v fr til most S n r l w →
    Calls Try.prog 42 #[.pointer (some ⟨g, 0, none⟩), .int .u64 nn, .int .i64 deep] w (RgPost G B b g ill v fr til most S n r (nodesN S d nn) (more fr til most.toNat l (itemsN S d nn)) w) := by
  intro d
  induction d with
  | zero => intro nn lo hi deep n r l w hp; exact hp.ok.elim
  | succ d ih =>
    intro nn lo hi deep n r l w hp hr
    obtain ⟨p, hpg, hq, hok⟩ := hp.ok
    have eit : itemsN S (d + 1) nn = itemsP (itemsN S d) p := by rw [itemsN]; simp only [hpg]
    have eno : nodesN S (d + 1) nn = 1 + remN S d p.kids := by rw [nodesN]; simp only [hpg]; rfl
    obtain ⟨_, hfew, hlen, hwell, hn0, hn1, hr0, hr1, hd0, hd1, hroom⟩ := hp
    rw [eit] at hfew hroom ⊢
    rw [eno] at hn1 hr1 ⊢
    have hpo := pg_ok hok hfew hlen
    obtain ⟨A0, c0, hbk, hown⟩ := hr.blk
    have CR := Lib.hid (rdPage_any (d := deep) hr.sh hn0 (by show n < _; omega) hpg hlen hpo hbk far_ranger rfl rfl hr0 (by omega) (by omega))
    have IH := @Lib.hid _ @ih
    have HR := Lib.hid hr
    have HB := Lib.hid hbk
    have HOK := Lib.hid hok
    have HPO := Lib.hid hpo
    have HOWN := Lib.hid hown
    have HBND : Hid ((itemsP (itemsN S d) p).length ≤ 1000 ∧ S.length ≤ 100000 ∧ ill ≤ n ∧ 0 ≤ n ∧ n + (1 + remN S d p.kids : Nat) ≤ 1000000000 ∧ 0 ≤ r ∧ r + (1 + remN S d p.kids : Nat) ≤ 4096 ∧ 1 ≤ deep ∧ deep + (d + 1 : Nat) ≤ 21 ∧ l.length + (itemsP (itemsN S d) p).length ≤ 1000000) := Lib.hid ⟨hfew, hlen, hwell, hn0, hn1, hr0, hr1, hd0, hd1, hroom⟩
    obtain ⟨TOT, hTOT⟩ : ∃ T, T = 1 + remN S d p.kids := ⟨_, rfl⟩
    obtain ⟨FUL, hFUL⟩ : ∃ F, F = more fr til most.toNat l (itemsP (itemsN S d) p) := ⟨_, rfl⟩
    rw [← hTOT, ← hFUL]
    have HTOT := Lib.hid hTOT
    have HFUL := Lib.hid hFUL
    have HWELL : Hid (n + 1 ≠ ill) := Lib.hid (by omega)
    clear ih hr hpg hq hok eit eno hfew hlen hwell hn0 hn1 hr0 hr1 hd1 hroom hpo hbk hown hTOT hFUL hd0
    go_enter Try.func42, Try.ntmps42
    go_wp2_with fail
    refine CR.out.mono ?_
    rintro e w2 ⟨hd2, h2, hg2, hk2, hm2, _⟩
    rcases hd2 with ⟨hil, _⟩ | ⟨_, cc, rfl, A1, c1, A2, c2, A3, c3, rfl, hpa⟩
    · exact absurd hil HWELL.out
    · have hG := HR.out.gG
      have hrk2 : RgK G b g w w2 := ⟨(DKept.refl (S := fun k => k = b ∨ G ≤ k)).trans hk2 fun k _ e => (by rcases e with e | e; exact .inl e; exact .inr (by omega)), fun k t cs ht h1 h2 hb => hk2.blk hb fun e => by rcases e with e | e; exact h1 e; exact h2 e⟩
      have hr2 : RgAt G B b g ill v fr til most S (n + 1) (r + 1) l w2 := ⟨h2, ⟨A0, c0, by simpa using hg2, own_heap' HOWN.out fun i hi => hk2.block i (HOWN.out.lt i hi).2 (fun e => by
        rcases e with rfl | rfl
        · exact own_blk' HOWN.out HR.out.sh.blk (by decide) hi
        · exact own_blk' HOWN.out HB.out (by decide) hi)⟩, hG⟩
      unfold pgc
      obtain ⟨W3, hW3⟩ : ∃ W3, W3 = w2.alloc (.cells #[.bool p.leaf, .slice A1 p.keys.length c1, .slice A2 p.vals.length c2, .slice A3 p.kids.length c3] 54) := ⟨_, rfl⟩
      have hl3 : Later w2 W3 := by rw [hW3]; exact below_new _ _
      obtain ⟨q, hqq⟩ : ∃ q, q = w2.heap.size := ⟨_, rfl⟩
      have kp3 : Blk W3 q 54 #[.bool p.leaf, .slice A1 p.keys.length c1, .slice A2 p.vals.length c2, .slice A3 p.kids.length c3] := by rw [hW3, hqq]; exact Blk.new _ _ _
      have HQ := Lib.hid hqq
      have HW3 := Lib.hid hW3
      have HP3 := Lib.hid (hpa.sm (Sm.later hl3))
      have HKP := Lib.hid kp3
      have HR3 := Lib.hid (hr2.later hl3)
      have HK3 := Lib.hid (hrk2.trans (RgK.later hl3))
      have HKD : Hid (∀ V, Sm W3 V → Calls Try.prog 60 #[.agg #[.bool p.leaf, .slice A1 p.keys.length c1, .slice A2 p.vals.length c2, .slice A3 p.kids.length c3], .string fr] V fun e w' => e = .returned (.int .i64 (kidN p fr : Nat)) ∧ Below V.heap.size V w') := Lib.hid fun V hV => kid_a fr (HP3.out.sm hV) HPO.out.few (good_rise HPO.out.good)
      have HFD : Hid (∀ V, Sm W3 V → Calls Try.prog 38 #[.agg #[.bool p.leaf, .slice A1 p.keys.length c1, .slice A2 p.vals.length c2, .slice A3 p.kids.length c3], .string fr] V fun e w' => e = .returned (.tuple #[.int .i64 (findN p.keys fr : Nat), .bool (thereB p.keys fr)]) ∧ Below V.heap.size V w') := Lib.hid fun V hV => find_a fr (HP3.out.sm hV) HPO.out.few (good_rise HPO.out.good)
      have HFR : Hid (∀ V, Later W3 V → V.cell? ⟨g, 2, none⟩ = some (.string fr)) := Lib.hid fun V hV => by
        obtain ⟨A, c, h1, _⟩ := hr2.blk
        exact ((h1.below (show Later w2 V from Later.trans hl3 hV) h1.lt).cell 2).trans rfl
      have HQN : Hid (q ≠ b ∧ q ≠ g) := Lib.hid ⟨by have := hr2.sh.blk.lt; omega, by have := hg2.lt; omega⟩
      clear h2 hg2 hk2 hm2 hpa hG hrk2 hr2 hl3 hqq hW3 CR
      obtain ⟨z0, z1, z2, z3⟩ := cells4 kp3
      clear kp3
      generalize hk1 : p.keys.length = k1 at *
      generalize hk2 : p.vals.length = k2 at *
      generalize hk3 : p.kids.length = k3 at *
      generalize hlf : p.leaf = lf at *
      have HE := Lib.hid (And.intro hk1 (And.intro hk2 (And.intro hk3 hlf)))
      clear hk1 hk2 hk3 hlf
      go_upto_region 4 with fail
      rw [← HW3.out, ← HQ.out]
      cases lf with
      | false =>
        go_upto_region 5 with fail
        clear z0 z1 z2 z3
        obtain ⟨kn, hkn⟩ : ∃ kn, kn = kidN p fr := ⟨_, rfl⟩
        rw [← hkn] at HKD
        have HKN := Lib.hid hkn
        clear hkn
        have HL0 := Lib.hid (Later.refl W3)
        have ZF0 : Hid (∀ s, W3.heap.size ≤ s → W3.heap.size ≤ s) := Lib.hid (fun _ h => h)
        have ZS0 : Hid (∀ V, Later W3 V → (Later W3) V) := Lib.hid (fun _ h => h)
        refine walk_start 7 (S := Later W3) (T := Later W3) (by kernel_rfl) (fun r => W3.heap.size ≤ r) (fun _ h => h.size) ZS0.out (closed_later _) (Later.refl _).drew ?_
        refine wt 0 28 ?_ (fun V hV => ?_) ?_
        rotate_left 1
        · (obtain ⟨z0, z1, z2, z3⟩ := cells4 (HKP.out.below (HL0.out.trans hV) HKP.out.lt); have y2 := HFR.out V (HL0.out.trans hV); clear hV; go_simp; (try with_reducible rfl))
        try simp only [pa, List.set]
        refine wt 1 29 ?_ (fun V hV => ?_) ?_
        rotate_left 1
        · (clear hV; go_simp; (try with_reducible rfl))
        try simp only [pa, List.set]
        refine wt 2 30 ?_ (fun V hV => ?_) ?_
        rotate_left 1
        · (clear hV; go_simp; (try with_reducible rfl))
        try simp only [pa, List.set]
        refine wt 3 31 ?_ (fun V hV => ?_) ?_
        rotate_left 1
        · (clear hV; go_simp; (try with_reducible rfl))
        try simp only [pa, List.set]
        refine wt 4 32 ?_ (fun V hV => ?_) ?_
        rotate_left 1
        · (obtain ⟨z0, z1, z2, z3⟩ := cells4 (HKP.out.below (HL0.out.trans hV) HKP.out.lt); have y2 := HFR.out V (HL0.out.trans hV); clear hV; go_simp; (try with_reducible rfl))
        try simp only [pa, List.set]
        refine walk_core 5 rfl (by kernel_rfl) (fun _ _ _ _ _ h => h) (fun V hV K hK => ?_)
        have hV0 := HL0.out.trans hV
        go_simp
        go_at_call 60
        refine (HKD.out V (Sm.later hV0)).mono ?_
        rintro e x5 ⟨rfl, hb⟩
        have HT5 := Lib.hid (hV.of hb)
        have HL1 := Lib.hid (hV0.of hb)
        have hsize := hb.size
        have hkeep := fun (r : Nat) (_ : True) (h : r < V.heap.size) => hb.block r h
        have ZF1 : Hid (∀ s, x5.heap.size ≤ s → _) := Lib.hid (fun s h => ZF0.out s (Nat.le_trans hV.size (Nat.le_trans hsize h)))
        refine hK.out _ _ (Later x5) (Later x5) _ (fun r _ h => hkeep r trivial h) (fun _ h _ => h) (fun V' h => (hV.of hb).trans h) (fun _ h => h) (fun V' h => ZF1.out _ h.size) (Later.refl _) (closed_later _) ?_
        clear hK K hV hsize hkeep hV0 hb
        try simp only [pa, List.set]
        refine wt 6 9 ?_ (fun V hV => ?_) ?_
        rotate_left 1
        · (clear hV; go_simp; (try with_reducible rfl))
        try simp only [pa, List.set]
        refine walk_exit (fun V hV => wpAnyJ_done (by kernel_rfl) ?_ _)
        have hV0 := HL1.out.trans hV
        have hlf := HE.out.2.2.2
        have eib : itemsP (itemsN S d) p = p.kids.flatMap (itemsN S d) := by unfold itemsP; rw [hlf]; rfl
        have hkl : kn ≤ k3 := by
          have h0 := (kidN_get (good_rise HPO.out.good) hlf fr).1
          rw [← HKN.out] at h0
          have := (HOK.out.kidlen hlf).2
          have := HE.out.2.2.1
          omega
        have HST : Hid (more fr til most.toNat l ((p.kids.drop kn).flatMap (itemsN S d)) = FUL) := Lib.hid (by
          rw [HFUL.out, eib, HKN.out]
          exact (kids_start HOK.out hlf fr til most.toNat l).symm)
        have HLP : Hid (Lp G B b g ill v fr til most S q #[.bool false, .slice A1 k1 c1, .slice A2 k2 c2, .slice A3 k3 c3] n r (n + 1) (r + 1) l w W3 V) := Lib.hid ⟨HR3.out.later hV0, HK3.out.trans (RgK.later hV0), HKP.out.below hV0 HKP.out.lt, by omega, by omega, Sm.later hV0⟩
        have HBD : Hid (n + 1 + remN S d (p.kids.drop kn) ≤ n + TOT ∧ r + 1 + remN S d (p.kids.drop kn) ≤ r + TOT ∧ l.length + ((p.kids.drop kn).flatMap (itemsN S d)).length ≤ 1000000) := Lib.hid (by
          have h1 := HTOT.out
          have h2 := remN_le (S := S) (d := d) p.kids kn
          have h3 := flat_drop (f := itemsN S d) p.kids kn
          have h4 := HBND.out.2.2.2.2.2.2.2.2.2
          rw [eib] at h4
          omega)
        have hsm3 : Sm W3 W3 := Sm.refl _
        have HEIB := Lib.hid eib
        clear hV hV0 hlf eib hsm3
        go_wp2_with fail
        go_loopg [9] (k3 - kn) (fun m iv wr => ∃ (i : Nat) (N R : Int) (L : List KV), iv = .int .i64 (i : Int) ∧ i + m = k3 ∧ Hid (more fr til most.toNat L ((p.kids.drop i).flatMap (itemsN S d)) = FUL) ∧ Hid (Lp G B b g ill v fr til most S q #[.bool false, .slice A1 k1 c1, .slice A2 k2 c2, .slice A3 k3 c3] n r N R L w W3 wr) ∧ Hid (N + remN S d (p.kids.drop i) ≤ n + TOT ∧ R + remN S d (p.kids.drop i) ≤ r + TOT ∧ L.length + ((p.kids.drop i).flatMap (itemsN S d)).length ≤ 1000000))
        case atStart => exact ⟨kn, n + 1, r + 1, l, rfl, by omega, HST, HLP, HBD⟩
        case round =>
          obtain ⟨i, N, R, L, rfl, him, HM, HL, HD⟩ := hrel
          clear HST HLP HBD
          have FIN : Hid (∀ V, Lp G B b g ill v fr til most S q #[.bool false, .slice A1 k1 c1, .slice A2 k2 c2, .slice A3 k3 c3] n r N R L w W3 V → L = FUL → RgPost G B b g ill v fr til most S n r TOT FUL w (.returned (.int .i64 0)) V) := Lib.hid fun V hV e => by
            subst e
            exact ⟨rfl, N, R, hV.n0, by have := HD.out; omega, hV.r0, by have := HD.out; omega, hV.at_, hV.kp⟩
          by_cases hlt : i < k3
          · have hd1 : decide (i < k3) = true := decide_eq_true hlt
            have hd2 : decide ((i : Int) < (k3 : Int)) = true := decide_eq_true (by omega)
            have hd3 : (i : Int) < (k3 : Int) := by omega
            obtain ⟨z0, z1, z2, z3⟩ := cells4 HL.out.pg
            have CD := Lib.hid (done_any HL.out.at_)
            go_upto_region 8 with (fail)
            refine CD.out.mono ?_
            rintro e w4 ⟨rfl, hl4⟩
            have HL4 := Lib.hid (HL.out.later hl4)
            clear CD hl4
            by_cases hdn : most ≤ (L.length : Int)
            · have e1 : decide (most ≤ (L.length : Int)) = true := decide_eq_true hdn
              have he : L = FUL := by rw [← HM.out]; exact (more_done (by omega)).symm
              have HF := Lib.hid (FIN.out w4 HL4.out he)
              rw [e1]
              clear he FIN hdn e1
              go_wp2_with fail
              go_ret
              exact HF.out
            · have e1 : decide (most ≤ (L.length : Int)) = false := decide_eq_false hdn
              rw [e1]
              clear e1
              go_upto_region 8 with fail
              obtain ⟨ST, hST⟩ : ∃ ST, ST = (decide (0 < i) && (!decide (til.size = 0) && !lessB (p.keys.getD (i - 1) ByteArray.empty) til)) := ⟨_, rfl⟩
              have HST := Lib.hid hST
              clear hST z0 z1 z2 z3
              have CF : Hid (∀ m, (w4.drewN m).cell? ⟨q, 1, none⟩ = some (.slice A1 k1 c1) ∧ (w4.drewN m).cell? ⟨g, 3, none⟩ = some (.string til)) := Lib.hid fun m => by
                have h1 := HL4.out.pg.below (later_drewN w4 m) HL4.out.pg.lt
                obtain ⟨A, c, h2, _⟩ := HL4.out.at_.blk
                exact ⟨(h1.cell 1).trans rfl, ((h2.below (later_drewN w4 m) h2.lt).cell 3).trans rfl⟩
              go_cut [67] from 46 to 66 (fun cv wx => cv = .bool ST ∧ Hid (Later w4 wx))
              case first =>
                by_cases hi0 : i = 0
                · subst hi0
                  have hs : ST = false := by rw [HST.out]; rfl
                  subst hs
                  go_quiet (fail)
                  go_wp2_with fail
                  go_meet
                  exact ⟨rfl, Lib.hid (later_drewN _ _)⟩
                · have hp1 : (0 : Int) < (i : Int) := by omega
                  have hp2 : decide ((0 : Int) < (i : Int)) = true := decide_eq_true hp1
                  have hp3 : decide (0 < i) = true := decide_eq_true (by omega)
                  have cr := fun m => (CF.out m).1
                  have ct := fun m => (CF.out m).2
                  by_cases ht : til.size = 0
                  · have hs : ST = false := by rw [HST.out, decide_eq_true ht]; simp
                    subst hs
                    have ht0 : til = ⟨#[]⟩ := by cases til with | mk a => simp [ByteArray.size] at ht; rw [ht]
                    rw [ht0] at ct
                    clear ht0 ht
                    go_quiet (fail)
                    go_wp2_with fail
                    go_meet
                    exact ⟨rfl, Lib.hid (later_drewN _ _)⟩
                  · obtain ⟨j, rfl⟩ : ∃ j, i = j + 1 := ⟨i - 1, by omega⟩
                    have hjk : j < p.keys.length := by
                      have := (HOK.out.kidlen HE.out.2.2.2).2; have := HE.out.2.2.1; omega
                    have hkey := getD_some ByteArray.empty hjk
                    obtain ⟨key, hkk⟩ : ∃ key, key = p.keys.getD j ByteArray.empty := ⟨_, rfl⟩
                    rw [← hkk] at hkey
                    obtain ⟨ad, rfl, _, ⟨cs, hbl⟩, hc⟩ := HP3.out.k.get hkey
                    have hs : ST = !lessB key til := by rw [HST.out, hkk, decide_eq_false ht, decide_eq_true (show 0 < j + 1 by omega)]; rfl
                    have hj1 : ((j + 1 : Nat) : Int) - 1 = (j : Int) := by omega
                    have ew : IntKind.i64.wrap ((j : Nat) : Int) = (j : Int) := IntWalk.i64_in _ (by have := HPO.out.few; omega)
                    have hck := fun m => hc (w4.drewN m) (fun g cs => ((HL4.out.sm.trans (Sm.later (later_drewN w4 m))) g cs).1)
                    have hk1 : k1 = p.keys.length := HE.out.1.symm
                    have b1 : (0 : Int) ≤ (j : Int) := by omega
                    have b2 : (j : Int) < (k1 : Int) := by omega
                    have tz : (til.toList == ([] : List UInt8)) = false := by
                      rw [beq_eq_false_iff_ne]
                      intro e
                      exact ht (by rw [ByteArray.toList_eq] at e; cases til with | mk a => (have := congrArg List.length e; simpa [ByteArray.size] using this))
                    clear hc hbl hkey hkk hjk hj1 hk1 ht HST
                    go_quiet (fail)
                    go_wp2_with fail
                    go_meet
                    exact ⟨by rw [hs]; rfl, Lib.hid (later_drewN _ _)⟩
              case rest =>
                obtain ⟨rfl, HX⟩ := hcut
                have HL5 := Lib.hid (HL4.out.later HX.out)
                cases hST : ST with
                | true =>
                  have he : L = FUL := by
                    have hs := HST.out.symm.trans hST
                    simp only [Bool.and_eq_true, decide_eq_true_eq, Bool.not_eq_true', decide_eq_false_iff_not] at hs
                    obtain ⟨h1, h2, h3⟩ := hs
                    rw [← HM.out]
                    have hjk : i - 1 < p.keys.length := by
                      have := (HOK.out.kidlen HE.out.2.2.2).2; have := HE.out.2.2.1; omega
                    exact (kids_stop HOK.out HE.out.2.2.2 h1 (getD_some ByteArray.empty hjk) h2 h3).symm
                  have HF := Lib.hid (FIN.out wc HL5.out he)
                  clear he FIN hdn hST HST
                  go_wp2_with fail
                  go_ret
                  exact HF.out
                | false =>
                  obtain ⟨m, hm⟩ : ∃ m, m = p.kids.getD i 0 := ⟨_, rfl⟩
                  have hki : i < p.kids.length := by have := HE.out.2.2.1; omega
                  have hkm : p.kids[i]? = some m := by rw [hm]; exact getD_some 0 hki
                  have hkg : p.kids[i] = m := by rw [List.getElem?_eq_getElem hki] at hkm; exact Option.some.inj hkm
                  obtain ⟨ad, rfl, _, _, hcell⟩ := HP3.out.n.get hkm
                  have hc0 := hcell wc (fun g cs => (HL5.out.sm g cs).2)
                  obtain ⟨z0, z1, z2, z3⟩ := cells4 HL5.out.pg
                  have hok := HOK.out.kids HE.out.2.2.2 i m hkm
                  have hrem := remN_drop (S := S) (d := d) hki
                  have hfl : ((p.kids.drop i).flatMap (itemsN S d)).length = (itemsN S d m).length + ((p.kids.drop (i + 1)).flatMap (itemsN S d)).length := by
                    rw [List.drop_eq_getElem_cons hki, List.flatMap_cons, List.length_append, hkg]
                  rw [hkg] at hrem
                  have hfk := kid_few (f := itemsN S d) HE.out.2.2.2 hkm
                  have hb := HBND.out
                  have hD := HD.out
                  have ht := HTOT.out
                  have hn0 := HL5.out.n0
                  have hr0 := HL5.out.r0
                  have CW := Lib.hid (IH.out (deep := deep + 1) ⟨hok, by omega, hb.2.1, by omega, by omega, by omega, by omega, by omega, by omega, by omega, by omega⟩ HL5.out.at_)
                  have HM2 : Hid (more fr til most.toNat (more fr til most.toNat L (itemsN S d m)) ((p.kids.drop (i + 1)).flatMap (itemsN S d)) = FUL) := Lib.hid (by
                    rw [← HM.out, kids_step hki, hkg])
                  have hml := more_len fr til most.toNat L (itemsN S d m)
                  have HD2 : Hid (∀ N' R' : Int, N' ≤ N + nodesN S d m → R' ≤ R + nodesN S d m → N' + remN S d (p.kids.drop (i + 1)) ≤ n + TOT ∧ R' + remN S d (p.kids.drop (i + 1)) ≤ r + TOT ∧ (more fr til most.toNat L (itemsN S d m)).length + ((p.kids.drop (i + 1)).flatMap (itemsN S d)).length ≤ 1000000) := Lib.hid fun N' R' h1 h2 => by omega
                  have b1 : (0 : Int) ≤ (i : Int) := by omega
                  have ewd : IntKind.i64.wrap (deep + 1) = deep + 1 := IntWalk.i64_in _ (by omega)
                  have ewi : IntKind.i64.wrap ((i : Int) + 1) = (i : Int) + 1 := IntWalk.i64_in _ (by have := HPO.out.few; have := (HOK.out.kidlen HE.out.2.2.2).2; omega)
                  clear hm hki hkm hkg hcell hok hrem hfl hfk hb hD ht hn0 hr0 hml hST HST FIN
                  go_wp2_with fail
                  refine CW.out.mono ?_
                  rintro e w6 ⟨rfl, N', R', g1, g2, g3, g4, hat, hkp⟩
                  obtain ⟨A9, c9, hb9, _⟩ := HL5.out.at_.blk
                  have HL6 : Hid (Lp G B b g ill v fr til most S q #[.bool false, .slice A1 k1 c1, .slice A2 k2 c2, .slice (some ad) k3 c3] n r N' R' (more fr til most.toNat L (itemsN S d m)) w W3 w6) := Lib.hid
                    ⟨hat, HL5.out.kp.trans hkp, hkp.blk q _ _ (by decide) HQN.out.1 HQN.out.2 HL5.out.pg, Int.le_trans HL5.out.n0 g1, Int.le_trans HL5.out.r0 g3, HL5.out.sm.trans (hkp.sm HL5.out.at_.sh.blk hb9)⟩
                  have HD3 := Lib.hid (HD2.out N' R' g2 g4)
                  clear hat hkp g1 g2 g3 g4 hb9 CW hc0 z0 z1 z2 z3
                  go_wp2_with fail
                  go_roundg (k3 - (i + 1))
                  case measure => omega
                  case rel => exact ⟨i + 1, N', R', _, by simp, by omega, HM2, HL6, HD3⟩
          · have hd1 : decide (i < k3) = false := decide_eq_false hlt
            have hd2 : decide ((i : Int) < (k3 : Int)) = false := decide_eq_false (by omega)
            have hd3 : ¬ ((i : Int) < (k3 : Int)) := by omega
            obtain ⟨z0, z1, z2, z3⟩ := cells4 HL.out.pg
            have he : L = FUL := by
              rw [← HM.out, List.drop_of_length_le (by have := HE.out.2.2.1; omega)]
              exact (more_skip (A := ([] : List Int).flatMap (itemsN S d)) (fun x hx => by simp at hx)).symm
            have HF := Lib.hid (FIN.out wr HL.out he)
            clear he FIN
            go_wp2_with fail
            go_ret
            exact HF.out
      | true =>
        go_upto_region 13 with fail
        clear z0 z1 z2 z3
        obtain ⟨f, hf⟩ : ∃ f, f = findN p.keys fr := ⟨_, rfl⟩
        rw [← hf] at HFD
        have HF := Lib.hid hf
        clear hf
        have HL0 := Lib.hid (Later.refl W3)
        have ZF0 : Hid (∀ s, W3.heap.size ≤ s → W3.heap.size ≤ s) := Lib.hid (fun _ h => h)
        have ZS0 : Hid (∀ V, Later W3 V → (Later W3) V) := Lib.hid (fun _ h => h)
        refine walk_start 11 (S := Later W3) (T := Later W3) (by kernel_rfl) (fun r => W3.heap.size ≤ r) (fun _ h => h.size) ZS0.out (closed_later _) (Later.refl _).drew ?_
        refine wt 0 81 ?_ (fun V hV => ?_) ?_
        rotate_left 1
        · (obtain ⟨z0, z1, z2, z3⟩ := cells4 (HKP.out.below (HL0.out.trans hV) HKP.out.lt); have y2 := HFR.out V (HL0.out.trans hV); clear hV; go_simp; (try with_reducible rfl))
        try simp only [pa, List.set]
        refine wt 1 82 ?_ (fun V hV => ?_) ?_
        rotate_left 1
        · (clear hV; go_simp; (try with_reducible rfl))
        try simp only [pa, List.set]
        refine wt 2 83 ?_ (fun V hV => ?_) ?_
        rotate_left 1
        · (clear hV; go_simp; (try with_reducible rfl))
        try simp only [pa, List.set]
        refine wt 3 84 ?_ (fun V hV => ?_) ?_
        rotate_left 1
        · (clear hV; go_simp; (try with_reducible rfl))
        try simp only [pa, List.set]
        refine wt 4 85 ?_ (fun V hV => ?_) ?_
        rotate_left 1
        · (obtain ⟨z0, z1, z2, z3⟩ := cells4 (HKP.out.below (HL0.out.trans hV) HKP.out.lt); have y2 := HFR.out V (HL0.out.trans hV); clear hV; go_simp; (try with_reducible rfl))
        try simp only [pa, List.set]
        refine walk_core 5 rfl (by kernel_rfl) (fun _ _ _ _ _ h => h) (fun V hV K hK => ?_)
        have hV0 := HL0.out.trans hV
        go_simp
        go_at_call 38
        refine (HFD.out V (Sm.later hV0)).mono ?_
        rintro e x5 ⟨rfl, hb⟩
        have HT5 := Lib.hid (hV.of hb)
        have HL1 := Lib.hid (hV0.of hb)
        have hsize := hb.size
        have hkeep := fun (r : Nat) (_ : True) (h : r < V.heap.size) => hb.block r h
        have ZF1 : Hid (∀ s, x5.heap.size ≤ s → _) := Lib.hid (fun s h => ZF0.out s (Nat.le_trans hV.size (Nat.le_trans hsize h)))
        refine hK.out _ _ (Later x5) (Later x5) _ (fun r _ h => hkeep r trivial h) (fun _ h _ => h) (fun V' h => (hV.of hb).trans h) (fun _ h => h) (fun V' h => ZF1.out _ h.size) (Later.refl _) (closed_later _) ?_
        clear hK K hV hsize hkeep hV0 hb
        try simp only [pa, List.set]
        refine wt 6 80 ?_ (fun V hV => ?_) ?_
        rotate_left 1
        · (clear hV; go_simp; (try with_reducible rfl))
        try simp only [pa, List.set]
        refine wt 7 87 ?_ (fun V hV => ?_) ?_
        rotate_left 1
        · (clear hV; go_simp; (try with_reducible rfl))
        try simp only [pa, List.set]
        refine wt 8 88 ?_ (fun V hV => ?_) ?_
        rotate_left 1
        · (clear hV; go_simp; (try with_reducible rfl))
        try simp only [pa, List.set]
        refine wt 9 11 ?_ (fun V hV => ?_) ?_
        rotate_left 1
        · (clear hV; go_simp; (try with_reducible rfl))
        try simp only [pa, List.set]
        refine wt 10 12 ?_ (fun V hV => ?_) ?_
        rotate_left 1
        · (clear hV; go_simp; (try with_reducible rfl))
        try simp only [pa, List.set]
        refine walk_exit (fun V hV => wpAnyJ_done (by kernel_rfl) ?_ _)
        have hV0 := HL1.out.trans hV
        have hlf := HE.out.2.2.2
        have eib : itemsP (itemsN S d) p = p.keys.zip p.vals := by unfold itemsP; rw [hlf]; rfl
        have hvk := (HOK.out.leaflen hlf).1
        have hfk : f ≤ k1 := by rw [HF.out, ← HE.out.1]; exact findN_le _ _
        have HST : Hid (more fr til most.toNat l ((p.keys.zip p.vals).drop f) = FUL) := Lib.hid (by
          rw [HFUL.out, eib, HF.out]
          exact (leaf_start fr til most.toNat l).symm)
        have HLP : Hid (Lp G B b g ill v fr til most S q #[.bool true, .slice A1 k1 c1, .slice A2 k2 c2, .slice A3 k3 c3] n r (n + 1) (r + 1) l w W3 V) := Lib.hid ⟨HR3.out.later hV0, HK3.out.trans (RgK.later hV0), HKP.out.below hV0 HKP.out.lt, by omega, by omega, Sm.later hV0⟩
        have HBD : Hid (l.length + (k1 - f) ≤ 1000000) := Lib.hid (by
          have h4 := HBND.out.2.2.2.2.2.2.2.2.2
          have := HE.out.1
          rw [eib, List.length_zip, hvk] at h4
          omega)
        have HVK := Lib.hid hvk
        clear hV hV0 hlf eib hvk
        go_wp2_with fail
        go_loopg [11] (k1 - f) (fun m iv wr => ∃ (i : Nat) (L : List KV), iv = .int .i64 (i : Int) ∧ i + m = k1 ∧ f ≤ i ∧ Hid (more fr til most.toNat L ((p.keys.zip p.vals).drop i) = FUL) ∧ Hid (Lp G B b g ill v fr til most S q #[.bool true, .slice A1 k1 c1, .slice A2 k2 c2, .slice A3 k3 c3] n r (n + 1) (r + 1) L w W3 wr) ∧ Hid (L.length + (k1 - i) ≤ 1000000))
        case atStart => exact ⟨f, l, rfl, by omega, Nat.le_refl _, HST, HLP, HBD⟩
        case round =>
          obtain ⟨i, L, rfl, him, hfi, HM, HL, HD⟩ := hrel
          clear HST HLP HBD
          have FIN : Hid (∀ V, Lp G B b g ill v fr til most S q #[.bool true, .slice A1 k1 c1, .slice A2 k2 c2, .slice A3 k3 c3] n r (n + 1) (r + 1) L w W3 V → L = FUL → RgPost G B b g ill v fr til most S n r TOT FUL w (.returned (.int .i64 0)) V) := Lib.hid fun V hV e => by
            subst e
            exact ⟨rfl, n + 1, r + 1, by omega, by have := HTOT.out; omega, by omega, by have := HTOT.out; omega, hV.at_, hV.kp⟩
          obtain ⟨GO, hGO⟩ : ∃ GO, GO = (decide (i < k1) && (!decide (most ≤ (L.length : Int)) && (decide (til.size = 0) || lessB (p.keys.getD i ByteArray.empty) til))) := ⟨_, rfl⟩
          have HGO := Lib.hid hGO
          clear hGO
          have SF : Hid (∀ V, Later wr V → V.cell? ⟨q, 1, none⟩ = some (.slice A1 k1 c1) ∧ V.cell? ⟨g, 3, none⟩ = some (.string til)) := Lib.hid fun V hV => by
            have h1 := HL.out.pg.below hV HL.out.pg.lt
            obtain ⟨A, c, h2, _⟩ := HL.out.at_.blk
            exact ⟨(h1.cell 1).trans rfl, ((h2.below hV h2.lt).cell 3).trans rfl⟩
          go_upto_region 14 with fail
          go_cut [117] from 89 to 116 (fun cv wx => cv = .bool GO ∧ Hid (Later wr wx))
          case first =>
            by_cases hlt : i < k1
            · have hd1 : decide (i < k1) = true := decide_eq_true hlt
              have hd3 : (i : Int) < (k1 : Int) := by omega
              by_cases hdn : most ≤ (L.length : Int)
              · have e1 : decide (most ≤ (L.length : Int)) = true := decide_eq_true hdn
                have hs : GO = false := by rw [HGO.out, e1]; simp
                subst hs
                have E1 := Lib.hid e1
                clear e1 hdn
                have HL0 := Lib.hid (Later.refl wr)
                have ZF0 : Hid (∀ s, wr.heap.size ≤ s → wr.heap.size ≤ s) := Lib.hid (fun _ h => h)
                have ZS0 : Hid (∀ V, Later wr V → (Later wr) V) := Lib.hid (fun _ h => h)
                refine walk_start 29 (S := Later wr) (T := Later wr) (by kernel_rfl) (fun r => wr.heap.size ≤ r) (fun _ h => h.size) ZS0.out (closed_later _) (Later.refl _).drew ?_
                refine wt 0 89 ?_ (fun V hV => ?_) ?_
                rotate_left 1
                · (clear hV; go_simp; (try with_reducible rfl))
                try simp only [pa, List.set]
                refine wt 1 90 ?_ (fun V hV => ?_) ?_
                rotate_left 1
                · (clear hV; go_simp; (try with_reducible rfl))
                try simp only [pa, List.set]
                refine wt 2 91 ?_ (fun V hV => ?_) ?_
                rotate_left 1
                · (obtain ⟨z1, y3⟩ := SF.out V (HL0.out.trans hV); clear hV; go_simp; (try with_reducible rfl))
                try simp only [pa, List.set]
                refine wt 3 92 ?_ (fun V hV => ?_) ?_
                rotate_left 1
                · (clear hV; go_simp; (try with_reducible rfl))
                try simp only [pa, List.set]
                refine wt 4 93 ?_ (fun V hV => ?_) ?_
                rotate_left 1
                · (clear hV; go_simp; (try with_reducible rfl))
                try simp only [pa, List.set]
                refine wt 5 94 ?_ (fun V hV => ?_) ?_
                rotate_left 1
                · (clear hV; go_simp; (try with_reducible rfl))
                try simp only [pa, List.set]
                refine wt 6 95 ?_ (fun V hV => ?_) ?_
                rotate_left 1
                · (clear hV; go_simp; (try with_reducible rfl))
                try simp only [pa, List.set]
                refine walk_core 7 rfl (by kernel_rfl) (fun _ _ _ _ _ h => h) (fun V hV K hK => ?_)
                have hV0 := HL0.out.trans hV
                go_simp
                go_at_call 41
                refine (done_any (HL.out.at_.later hV0)).mono ?_
                rintro e x7 ⟨rfl, hb⟩
                rw [E1.out]
                have HT7 := Lib.hid (hV.of hb)
                have HL1 := Lib.hid (hV0.of hb)
                have hsize := hb.size
                have hkeep := fun (r : Nat) (_ : True) (h : r < V.heap.size) => hb.block r h
                have ZF1 : Hid (∀ s, x7.heap.size ≤ s → _) := Lib.hid (fun s h => ZF0.out s (Nat.le_trans hV.size (Nat.le_trans hsize h)))
                refine hK.out _ _ (Later x7) (Later x7) _ (fun r _ h => hkeep r trivial h) (fun _ h _ => h) (fun V' h => (hV.of hb).trans h) (fun _ h => h) (fun V' h => ZF1.out _ h.size) (Later.refl _) (closed_later _) ?_
                clear hK K hV hsize hkeep hV0 hb
                try simp only [pa, List.set]
                refine wt 8 97 ?_ (fun V hV => ?_) ?_
                rotate_left 1
                · (clear hV; go_simp; (try with_reducible rfl))
                try simp only [pa, List.set]
                refine wt 9 98 ?_ (fun V hV => ?_) ?_
                rotate_left 1
                · (clear hV; go_simp; (try with_reducible rfl))
                try simp only [pa, List.set]
                refine wt 10 99 ?_ (fun V hV => ?_) ?_
                rotate_left 1
                · (clear hV; go_simp; (try with_reducible rfl))
                try simp only [pa, List.set]
                refine ws 11 100 ?_
                try simp only [pa, List.set]
                refine ws 12 101 ?_
                try simp only [pa, List.set]
                refine ws 13 102 ?_
                try simp only [pa, List.set]
                refine ws 14 103 ?_
                try simp only [pa, List.set]
                refine ws 15 104 ?_
                try simp only [pa, List.set]
                refine ws 16 105 ?_
                try simp only [pa, List.set]
                refine ws 17 106 ?_
                try simp only [pa, List.set]
                refine ws 18 107 ?_
                try simp only [pa, List.set]
                refine ws 19 108 ?_
                try simp only [pa, List.set]
                refine ws 20 109 ?_
                try simp only [pa, List.set]
                refine ws 21 110 ?_
                try simp only [pa, List.set]
                refine ws 22 111 ?_
                try simp only [pa, List.set]
                refine ws 23 112 ?_
                try simp only [pa, List.set]
                refine ws 24 113 ?_
                try simp only [pa, List.set]
                refine ws 25 114 ?_
                try simp only [pa, List.set]
                refine ws 26 115 ?_
                try simp only [pa, List.set]
                refine ws 27 116 ?_
                try simp only [pa, List.set]
                refine wt 28 117 ?_ (fun V hV => ?_) ?_
                rotate_left 1
                · (clear hV; go_simp; (try with_reducible rfl))
                try simp only [pa, List.set]
                refine walk_exit (fun V hV => wpAnyJ_done (by kernel_rfl) ?_ _)
                have hV0 := HL1.out.trans hV
                go_wp2_with fail
                go_meet
                exact ⟨rfl, Lib.hid hV0⟩
              · have e1 : decide (most ≤ (L.length : Int)) = false := decide_eq_false hdn
                have E1 := Lib.hid e1
                by_cases ht : til.size = 0
                · have hs : GO = true := by rw [HGO.out, e1, decide_eq_true ht, hd1]; rfl
                  subst hs
                  have ht0 : til = ⟨#[]⟩ := by cases til with | mk a => simp [ByteArray.size] at ht; rw [ht]
                  have SF2 : Hid (∀ V, Later wr V → V.cell? ⟨q, 1, none⟩ = some (.slice A1 k1 c1) ∧ V.cell? ⟨g, 3, none⟩ = some (.string ⟨#[]⟩)) := Lib.hid fun V hV => by
                    have := SF.out V hV
                    rw [ht0] at this
                    exact this
                  clear e1 hdn ht ht0
                  have HL0 := Lib.hid (Later.refl wr)
                  have ZF0 : Hid (∀ s, wr.heap.size ≤ s → wr.heap.size ≤ s) := Lib.hid (fun _ h => h)
                  have ZS0 : Hid (∀ V, Later wr V → (Later wr) V) := Lib.hid (fun _ h => h)
                  refine walk_start 29 (S := Later wr) (T := Later wr) (by kernel_rfl) (fun r => wr.heap.size ≤ r) (fun _ h => h.size) ZS0.out (closed_later _) (Later.refl _).drew ?_
                  refine wt 0 89 ?_ (fun V hV => ?_) ?_
                  rotate_left 1
                  · (clear hV; go_simp; (try with_reducible rfl))
                  try simp only [pa, List.set]
                  refine wt 1 90 ?_ (fun V hV => ?_) ?_
                  rotate_left 1
                  · (clear hV; go_simp; (try with_reducible rfl))
                  try simp only [pa, List.set]
                  refine wt 2 91 ?_ (fun V hV => ?_) ?_
                  rotate_left 1
                  · (obtain ⟨z1, y3⟩ := SF2.out V (HL0.out.trans hV); clear hV; go_simp; (try with_reducible rfl))
                  try simp only [pa, List.set]
                  refine wt 3 92 ?_ (fun V hV => ?_) ?_
                  rotate_left 1
                  · (clear hV; go_simp; (try with_reducible rfl))
                  try simp only [pa, List.set]
                  refine wt 4 93 ?_ (fun V hV => ?_) ?_
                  rotate_left 1
                  · (clear hV; go_simp; (try with_reducible rfl))
                  try simp only [pa, List.set]
                  refine wt 5 94 ?_ (fun V hV => ?_) ?_
                  rotate_left 1
                  · (clear hV; go_simp; (try with_reducible rfl))
                  try simp only [pa, List.set]
                  refine wt 6 95 ?_ (fun V hV => ?_) ?_
                  rotate_left 1
                  · (clear hV; go_simp; (try with_reducible rfl))
                  try simp only [pa, List.set]
                  refine walk_core 7 rfl (by kernel_rfl) (fun _ _ _ _ _ h => h) (fun V hV K hK => ?_)
                  have hV0 := HL0.out.trans hV
                  go_simp
                  go_at_call 41
                  refine (done_any (HL.out.at_.later hV0)).mono ?_
                  rintro e x7 ⟨rfl, hb⟩
                  rw [E1.out]
                  have HT7 := Lib.hid (hV.of hb)
                  have HL1 := Lib.hid (hV0.of hb)
                  have hsize := hb.size
                  have hkeep := fun (r : Nat) (_ : True) (h : r < V.heap.size) => hb.block r h
                  have ZF1 : Hid (∀ s, x7.heap.size ≤ s → _) := Lib.hid (fun s h => ZF0.out s (Nat.le_trans hV.size (Nat.le_trans hsize h)))
                  refine hK.out _ _ (Later x7) (Later x7) _ (fun r _ h => hkeep r trivial h) (fun _ h _ => h) (fun V' h => (hV.of hb).trans h) (fun _ h => h) (fun V' h => ZF1.out _ h.size) (Later.refl _) (closed_later _) ?_
                  clear hK K hV hsize hkeep hV0 hb
                  try simp only [pa, List.set]
                  refine wt 8 97 ?_ (fun V hV => ?_) ?_
                  rotate_left 1
                  · (clear hV; go_simp; (try with_reducible rfl))
                  try simp only [pa, List.set]
                  refine wt 9 98 ?_ (fun V hV => ?_) ?_
                  rotate_left 1
                  · (clear hV; go_simp; (try with_reducible rfl))
                  try simp only [pa, List.set]
                  refine wt 10 99 ?_ (fun V hV => ?_) ?_
                  rotate_left 1
                  · (clear hV; go_simp; (try with_reducible rfl))
                  try simp only [pa, List.set]
                  refine wt 11 100 ?_ (fun V hV => ?_) ?_
                  rotate_left 1
                  · (clear hV; go_simp; (try with_reducible rfl))
                  try simp only [pa, List.set]
                  refine wt 12 101 ?_ (fun V hV => ?_) ?_
                  rotate_left 1
                  · (clear hV; go_simp; (try with_reducible rfl))
                  try simp only [pa, List.set]
                  refine wt 13 102 ?_ (fun V hV => ?_) ?_
                  rotate_left 1
                  · (clear hV; go_simp; (try with_reducible rfl))
                  try simp only [pa, List.set]
                  refine wt 14 103 ?_ (fun V hV => ?_) ?_
                  rotate_left 1
                  · (obtain ⟨z1, y3⟩ := SF2.out V (HL1.out.trans hV); clear hV; go_simp; (try with_reducible rfl))
                  try simp only [pa, List.set]
                  refine wt 15 104 ?_ (fun V hV => ?_) ?_
                  rotate_left 1
                  · (clear hV; go_simp; (try with_reducible rfl))
                  try simp only [pa, List.set]
                  refine wt 16 105 ?_ (fun V hV => ?_) ?_
                  rotate_left 1
                  · (clear hV; go_simp; (try with_reducible rfl))
                  try simp only [pa, List.set]
                  refine ws 17 106 ?_
                  try simp only [pa, List.set]
                  refine ws 18 107 ?_
                  try simp only [pa, List.set]
                  refine ws 19 108 ?_
                  try simp only [pa, List.set]
                  refine ws 20 109 ?_
                  try simp only [pa, List.set]
                  refine ws 21 110 ?_
                  try simp only [pa, List.set]
                  refine ws 22 111 ?_
                  try simp only [pa, List.set]
                  refine ws 23 112 ?_
                  try simp only [pa, List.set]
                  refine ws 24 113 ?_
                  try simp only [pa, List.set]
                  refine ws 25 114 ?_
                  try simp only [pa, List.set]
                  refine ws 26 115 ?_
                  try simp only [pa, List.set]
                  refine wt 27 116 ?_ (fun V hV => ?_) ?_
                  rotate_left 1
                  · (clear hV; go_simp; (try with_reducible rfl))
                  try simp only [pa, List.set]
                  refine wt 28 117 ?_ (fun V hV => ?_) ?_
                  rotate_left 1
                  · (clear hV; go_simp; (try with_reducible rfl))
                  try simp only [pa, List.set]
                  refine walk_exit (fun V hV => wpAnyJ_done (by kernel_rfl) ?_ _)
                  have hV0 := HL1.out.trans hV
                  go_wp2_with fail
                  go_meet
                  exact ⟨rfl, Lib.hid hV0⟩
                · have hik : i < p.keys.length := by have := HE.out.1; omega
                  obtain ⟨key, hkk⟩ : ∃ key, key = p.keys.getD i ByteArray.empty := ⟨_, rfl⟩
                  have hkey := getD_some ByteArray.empty hik
                  rw [← hkk] at hkey
                  obtain ⟨ad, rfl, _, _, hc⟩ := HP3.out.k.get hkey
                  have hs : GO = lessB key til := by rw [HGO.out, e1, decide_eq_false ht, hd1, hkk]; rfl
                  have HS := Lib.hid hs
                  have HCK : Hid (∀ V, Later wr V → V.cell? (ad.add i) = some (.string key)) := Lib.hid fun V hV => hc V fun g cs => ((HL.out.sm.trans (Sm.later hV)) g cs).1
                  have b1 : (0 : Int) ≤ (i : Int) := by omega
                  have tz : (til.toList == ([] : List UInt8)) = false := by
                    rw [beq_eq_false_iff_ne]
                    intro e
                    exact ht (by rw [ByteArray.toList_eq] at e; cases til with | mk a => (have := congrArg List.length e; simpa [ByteArray.size] using this))
                  clear e1 hdn ht hik hkk hkey hc hs
                  have HL0 := Lib.hid (Later.refl wr)
                  have ZF0 : Hid (∀ s, wr.heap.size ≤ s → wr.heap.size ≤ s) := Lib.hid (fun _ h => h)
                  have ZS0 : Hid (∀ V, Later wr V → (Later wr) V) := Lib.hid (fun _ h => h)
                  refine walk_start 29 (S := Later wr) (T := Later wr) (by kernel_rfl) (fun r => wr.heap.size ≤ r) (fun _ h => h.size) ZS0.out (closed_later _) (Later.refl _).drew ?_
                  refine wt 0 89 ?_ (fun V hV => ?_) ?_
                  rotate_left 1
                  · (clear hV; go_simp; (try with_reducible rfl))
                  try simp only [pa, List.set]
                  refine wt 1 90 ?_ (fun V hV => ?_) ?_
                  rotate_left 1
                  · (clear hV; go_simp; (try with_reducible rfl))
                  try simp only [pa, List.set]
                  refine wt 2 91 ?_ (fun V hV => ?_) ?_
                  rotate_left 1
                  · (obtain ⟨z1, y3⟩ := SF.out V (HL0.out.trans hV); have hck := HCK.out V (HL0.out.trans hV); clear hV; go_simp; (try with_reducible rfl))
                  try simp only [pa, List.set]
                  refine wt 3 92 ?_ (fun V hV => ?_) ?_
                  rotate_left 1
                  · (clear hV; go_simp; (try with_reducible rfl))
                  try simp only [pa, List.set]
                  refine wt 4 93 ?_ (fun V hV => ?_) ?_
                  rotate_left 1
                  · (clear hV; go_simp; (try with_reducible rfl))
                  try simp only [pa, List.set]
                  refine wt 5 94 ?_ (fun V hV => ?_) ?_
                  rotate_left 1
                  · (clear hV; go_simp; (try with_reducible rfl))
                  try simp only [pa, List.set]
                  refine wt 6 95 ?_ (fun V hV => ?_) ?_
                  rotate_left 1
                  · (clear hV; go_simp; (try with_reducible rfl))
                  try simp only [pa, List.set]
                  refine walk_core 7 rfl (by kernel_rfl) (fun _ _ _ _ _ h => h) (fun V hV K hK => ?_)
                  have hV0 := HL0.out.trans hV
                  go_simp
                  go_at_call 41
                  refine (done_any (HL.out.at_.later hV0)).mono ?_
                  rintro e x7 ⟨rfl, hb⟩
                  rw [E1.out]
                  have HT7 := Lib.hid (hV.of hb)
                  have HL1 := Lib.hid (hV0.of hb)
                  have hsize := hb.size
                  have hkeep := fun (r : Nat) (_ : True) (h : r < V.heap.size) => hb.block r h
                  have ZF1 : Hid (∀ s, x7.heap.size ≤ s → _) := Lib.hid (fun s h => ZF0.out s (Nat.le_trans hV.size (Nat.le_trans hsize h)))
                  refine hK.out _ _ (Later x7) (Later x7) _ (fun r _ h => hkeep r trivial h) (fun _ h _ => h) (fun V' h => (hV.of hb).trans h) (fun _ h => h) (fun V' h => ZF1.out _ h.size) (Later.refl _) (closed_later _) ?_
                  clear hK K hV hsize hkeep hV0 hb
                  try simp only [pa, List.set]
                  refine wt 8 97 ?_ (fun V hV => ?_) ?_
                  rotate_left 1
                  · (clear hV; go_simp; (try with_reducible rfl))
                  try simp only [pa, List.set]
                  refine wt 9 98 ?_ (fun V hV => ?_) ?_
                  rotate_left 1
                  · (clear hV; go_simp; (try with_reducible rfl))
                  try simp only [pa, List.set]
                  refine wt 10 99 ?_ (fun V hV => ?_) ?_
                  rotate_left 1
                  · (clear hV; go_simp; (try with_reducible rfl))
                  try simp only [pa, List.set]
                  refine wt 11 100 ?_ (fun V hV => ?_) ?_
                  rotate_left 1
                  · (clear hV; go_simp; (try with_reducible rfl))
                  try simp only [pa, List.set]
                  refine wt 12 101 ?_ (fun V hV => ?_) ?_
                  rotate_left 1
                  · (clear hV; go_simp; (try with_reducible rfl))
                  try simp only [pa, List.set]
                  refine wt 13 102 ?_ (fun V hV => ?_) ?_
                  rotate_left 1
                  · (clear hV; go_simp; (try with_reducible rfl))
                  try simp only [pa, List.set]
                  refine wt 14 103 ?_ (fun V hV => ?_) ?_
                  rotate_left 1
                  · (obtain ⟨z1, y3⟩ := SF.out V (HL1.out.trans hV); have hck := HCK.out V (HL1.out.trans hV); clear hV; go_simp; (try with_reducible rfl))
                  try simp only [pa, List.set]
                  refine wt 15 104 ?_ (fun V hV => ?_) ?_
                  rotate_left 1
                  · (clear hV; go_simp; (try with_reducible rfl))
                  try simp only [pa, List.set]
                  refine wt 16 105 ?_ (fun V hV => ?_) ?_
                  rotate_left 1
                  · (clear hV; go_simp; (try with_reducible rfl))
                  try simp only [pa, List.set]
                  refine wt 17 106 ?_ (fun V hV => ?_) ?_
                  rotate_left 1
                  · (clear hV; go_simp; (try with_reducible rfl))
                  try simp only [pa, List.set]
                  refine wt 18 107 ?_ (fun V hV => ?_) ?_
                  rotate_left 1
                  · (obtain ⟨z1, y3⟩ := SF.out V (HL1.out.trans hV); have hck := HCK.out V (HL1.out.trans hV); clear hV; go_simp; (try with_reducible rfl))
                  try simp only [pa, List.set]
                  refine wt 19 108 ?_ (fun V hV => ?_) ?_
                  rotate_left 1
                  · (clear hV; go_simp; (try with_reducible rfl))
                  try simp only [pa, List.set]
                  refine wt 20 109 ?_ (fun V hV => ?_) ?_
                  rotate_left 1
                  · (clear hV; go_simp; (try with_reducible rfl))
                  try simp only [pa, List.set]
                  refine wt 21 110 ?_ (fun V hV => ?_) ?_
                  rotate_left 1
                  · (obtain ⟨z1, y3⟩ := SF.out V (HL1.out.trans hV); have hck := HCK.out V (HL1.out.trans hV); clear hV; go_simp; (try with_reducible rfl))
                  try simp only [pa, List.set]
                  refine wt 22 111 ?_ (fun V hV => ?_) ?_
                  rotate_left 1
                  · (clear hV; go_simp; (try with_reducible rfl))
                  try simp only [pa, List.set]
                  refine wt 23 112 ?_ (fun V hV => ?_) ?_
                  rotate_left 1
                  · (clear hV; go_simp; (try with_reducible rfl))
                  try simp only [pa, List.set]
                  refine wt 24 113 ?_ (fun V hV => ?_) ?_
                  rotate_left 1
                  · (clear hV; go_simp; (try with_reducible rfl))
                  try simp only [pa, List.set]
                  refine wt 25 114 ?_ (fun V hV => ?_) ?_
                  rotate_left 1
                  · (obtain ⟨z1, y3⟩ := SF.out V (HL1.out.trans hV); have hck := HCK.out V (HL1.out.trans hV); clear hV; go_simp; (try with_reducible rfl))
                  try simp only [pa, List.set]
                  refine wt 26 115 ?_ (fun V hV => ?_) ?_
                  rotate_left 1
                  · (clear hV; go_simp; (try with_reducible rfl))
                  try simp only [pa, List.set]
                  refine wt 27 116 ?_ (fun V hV => ?_) ?_
                  rotate_left 1
                  · (clear hV; go_simp; (try with_reducible rfl))
                  try simp only [pa, List.set]
                  refine wt 28 117 ?_ (fun V hV => ?_) ?_
                  rotate_left 1
                  · (clear hV; go_simp; (try with_reducible rfl))
                  try simp only [pa, List.set]
                  refine walk_exit (fun V hV => wpAnyJ_done (by kernel_rfl) ?_ _)
                  have hV0 := HL1.out.trans hV
                  go_wp2_with fail
                  go_meet
                  exact ⟨by rw [HS.out]; rfl, Lib.hid hV0⟩
            · have hd1 : decide (i < k1) = false := decide_eq_false hlt
              have hd3 : ¬ ((i : Int) < (k1 : Int)) := by omega
              have hs : GO = false := by rw [HGO.out, hd1]; rfl
              subst hs
              have HL0 := Lib.hid (Later.refl wr)
              have ZF0 : Hid (∀ s, wr.heap.size ≤ s → wr.heap.size ≤ s) := Lib.hid (fun _ h => h)
              have ZS0 : Hid (∀ V, Later wr V → (Later wr) V) := Lib.hid (fun _ h => h)
              refine walk_start 29 (S := Later wr) (T := Later wr) (by kernel_rfl) (fun r => wr.heap.size ≤ r) (fun _ h => h.size) ZS0.out (closed_later _) (Later.refl _).drew ?_
              refine wt 0 89 ?_ (fun V hV => ?_) ?_
              rotate_left 1
              · (clear hV; go_simp; (try with_reducible rfl))
              try simp only [pa, List.set]
              refine wt 1 90 ?_ (fun V hV => ?_) ?_
              rotate_left 1
              · (clear hV; go_simp; (try with_reducible rfl))
              try simp only [pa, List.set]
              refine wt 2 91 ?_ (fun V hV => ?_) ?_
              rotate_left 1
              · (obtain ⟨z1, y3⟩ := SF.out V (HL0.out.trans hV); clear hV; go_simp; (try with_reducible rfl))
              try simp only [pa, List.set]
              refine wt 3 92 ?_ (fun V hV => ?_) ?_
              rotate_left 1
              · (clear hV; go_simp; (try with_reducible rfl))
              try simp only [pa, List.set]
              refine wt 4 93 ?_ (fun V hV => ?_) ?_
              rotate_left 1
              · (clear hV; go_simp; (try with_reducible rfl))
              try simp only [pa, List.set]
              refine wt 5 94 ?_ (fun V hV => ?_) ?_
              rotate_left 1
              · (clear hV; go_simp; (try with_reducible rfl))
              try simp only [pa, List.set]
              refine ws 6 95 ?_
              try simp only [pa, List.set]
              refine ws 7 96 ?_
              try simp only [pa, List.set]
              refine ws 8 97 ?_
              try simp only [pa, List.set]
              refine wt 9 98 ?_ (fun V hV => ?_) ?_
              rotate_left 1
              · (clear hV; go_simp; (try with_reducible rfl))
              try simp only [pa, List.set]
              refine wt 10 99 ?_ (fun V hV => ?_) ?_
              rotate_left 1
              · (clear hV; go_simp; (try with_reducible rfl))
              try simp only [pa, List.set]
              refine ws 11 100 ?_
              try simp only [pa, List.set]
              refine ws 12 101 ?_
              try simp only [pa, List.set]
              refine ws 13 102 ?_
              try simp only [pa, List.set]
              refine ws 14 103 ?_
              try simp only [pa, List.set]
              refine ws 15 104 ?_
              try simp only [pa, List.set]
              refine ws 16 105 ?_
              try simp only [pa, List.set]
              refine ws 17 106 ?_
              try simp only [pa, List.set]
              refine ws 18 107 ?_
              try simp only [pa, List.set]
              refine ws 19 108 ?_
              try simp only [pa, List.set]
              refine ws 20 109 ?_
              try simp only [pa, List.set]
              refine ws 21 110 ?_
              try simp only [pa, List.set]
              refine ws 22 111 ?_
              try simp only [pa, List.set]
              refine ws 23 112 ?_
              try simp only [pa, List.set]
              refine ws 24 113 ?_
              try simp only [pa, List.set]
              refine ws 25 114 ?_
              try simp only [pa, List.set]
              refine ws 26 115 ?_
              try simp only [pa, List.set]
              refine ws 27 116 ?_
              try simp only [pa, List.set]
              refine wt 28 117 ?_ (fun V hV => ?_) ?_
              rotate_left 1
              · (clear hV; go_simp; (try with_reducible rfl))
              try simp only [pa, List.set]
              refine walk_exit (fun V hV => wpAnyJ_done (by kernel_rfl) ?_ _)
              have hV0 := HL0.out.trans hV
              go_wp2_with fail
              go_meet
              exact ⟨rfl, Lib.hid hV0⟩
          case rest =>
            obtain ⟨rfl, HX⟩ := hcut
            have HL5 := Lib.hid (HL.out.later HX.out)
            have hr := good_rise HPO.out.good
            have hvk := HVK.out
            have hek := HE.out.1
            cases hG : GO with
            | false =>
              have he : L = FUL := by
                rw [← HM.out]
                by_cases h1 : i < k1
                · by_cases h2 : most ≤ (L.length : Int)
                  · exact (more_done (by omega)).symm
                  · have hs := HGO.out.symm.trans hG
                    rw [decide_eq_true h1, decide_eq_false h2, Bool.true_and, Bool.not_false, Bool.true_and, Bool.or_eq_false_iff, decide_eq_false_iff_not] at hs
                    have hik : i < p.keys.length := by omega
                    have e2 : p.keys.getD i ByteArray.empty = p.keys[i] := by rw [List.getD_eq_getElem?_getD, List.getElem?_eq_getElem hik]; rfl
                    rw [e2] at hs
                    exact (leaf_stop hr hik hs.1 hs.2).symm
                · exact (leaf_end (by omega)).symm
              have HF := Lib.hid (FIN.out wc HL5.out he)
              clear he FIN hG HGO hr hvk hek
              go_wp2_with fail
              go_ret
              exact HF.out
            | true =>
              have hs := HGO.out.symm.trans hG
              simp only [Bool.and_eq_true, decide_eq_true_eq, Bool.not_eq_true', decide_eq_false_iff_not, Bool.or_eq_true] at hs
              obtain ⟨h1, h2, h3⟩ := hs
              have hik : i < p.keys.length := by omega
              have hiv : i < p.vals.length := by omega
              have e2 : p.keys.getD i ByteArray.empty = p.keys[i] := by rw [List.getD_eq_getElem?_getD, List.getElem?_eq_getElem hik]; rfl
              have hstep := leaf_step (a := fr) (b := til) (most := most.toNat) (l := L) hr hvk (by rw [← HF.out]; exact hfi) hik (by omega) (by rw [← e2]; exact h3)
              obtain ⟨key, hkk⟩ : ∃ key, key = p.keys[i] := ⟨_, rfl⟩
              obtain ⟨val, hvv⟩ : ∃ val, val = p.vals[i] := ⟨_, rfl⟩
              rw [← hkk, ← hvv, HM.out] at hstep
              obtain ⟨ad, rfl, _, _, hc⟩ := HP3.out.k.get (show p.keys[i]? = some key by rw [hkk]; exact List.getElem?_eq_getElem hik)
              obtain ⟨ae, rfl, _, _, hd⟩ := HP3.out.v.get (show p.vals[i]? = some val by rw [hvv]; exact List.getElem?_eq_getElem hiv)
              have HM2 := Lib.hid hstep.symm
              have b1 : (0 : Int) ≤ (i : Int) := by omega
              have b2 : (i : Int) < (k1 : Int) := by omega
              have b3 : (i : Int) < (k2 : Int) := by have := HE.out.2.1; omega
              have ewi : IntKind.i64.wrap ((i : Int) + 1) = (i : Int) + 1 := IntWalk.i64_in _ (by have := HPO.out.few; omega)
              obtain ⟨A9, c9, hb9, ho9⟩ := HL5.out.at_.blk
              have HB9 := Lib.hid hb9
              have HO9 := Lib.hid ho9
              obtain ⟨i0, hi0, hz0, hz1, hz2⟩ := info_parts cinfo_item
              have SX : Hid (∀ V, Blk V q 54 #[.bool true, .slice (some ad) k1 c1, .slice (some ae) k2 c2, .slice A3 k3 c3] → Blk V g 106 #[shV b, .int .i64 (r + 1), .string fr, .string til, .int .i64 most, .slice A9 L.length c9] → Sm W3 V → V.cell? ⟨q, 1, none⟩ = some (.slice (some ad) k1 c1) ∧ V.cell? ⟨q, 2, none⟩ = some (.slice (some ae) k2 c2) ∧ V.cell? ⟨g, 5, none⟩ = some (.slice A9 L.length c9) ∧ V.cell? (ad.add i) = some (.string key) ∧ V.cell? (ae.add i) = some (.string val)) := Lib.hid fun V hq hg hs => by
                exact ⟨(hq.cell 1).trans rfl, (hq.cell 2).trans rfl, (hg.cell 5).trans rfl, hc V fun g cs => (hs g cs).1, hd V fun g cs => (hs g cs).1⟩
              obtain ⟨SP, hSP⟩ : ∃ SP : World → Prop, ∀ V, SP V ↔ (V.cell? ⟨q, 1, none⟩ = some (.slice (some ad) k1 c1) ∧ V.cell? ⟨q, 2, none⟩ = some (.slice (some ae) k2 c2) ∧ V.cell? ⟨g, 5, none⟩ = some (.slice A9 L.length c9) ∧ V.cell? (ad.add i) = some (.string key) ∧ V.cell? (ae.add i) = some (.string val)) := ⟨_, fun _ => Iff.rfl⟩
              have HSP := Lib.hid hSP
              have HROOM : Hid (L.length + 1 ≤ 1000000) := Lib.hid (by have := HD.out; omega)
              clear hSP h1 h2 h3 hik hiv e2 hstep hkk hvv hc hd hb9 ho9 hG HGO FIN hr hvk hek
              go_upto_region 16 with fail
              have HL0 := Lib.hid (Later.refl wc)
              have ZF0 : Hid (∀ s, wc.heap.size ≤ s → wc.heap.size ≤ s) := Lib.hid (fun _ h => h)
              have ZS0 : Hid (∀ V, Later wc V → (SP) V) := Lib.hid (fun V hV => (HSP.out V).2 (SX.out V (HL5.out.pg.below hV HL5.out.pg.lt) (HB9.out.below hV HB9.out.lt) (HL5.out.sm.trans (Sm.later hV))))
              refine walk_start 20 (S := SP) (T := Later wc) (by kernel_rfl) (fun r => wc.heap.size ≤ r) (fun _ h => h.size) ZS0.out (closed_later _) (Later.refl _).drew ?_
              refine wt 0 120 ?_ (fun V hV => ?_) ?_
              rotate_left 1
              · (clear hV; go_simp; (try with_reducible rfl))
              try simp only [pa, List.set]
              refine wt 1 121 ?_ (fun V hV => ?_) ?_
              rotate_left 1
              · (clear hV; go_simp; (try with_reducible rfl))
              try simp only [pa, List.set]
              refine wt 2 122 ?_ (fun V hV => ?_) ?_
              rotate_left 1
              · (clear hV; go_simp; (try with_reducible rfl))
              try simp only [pa, List.set]
              refine wt 3 123 ?_ (fun V hV => ?_) ?_
              rotate_left 1
              · (clear hV; go_simp; (try with_reducible rfl))
              try simp only [pa, List.set]
              refine wt 4 124 ?_ (fun V hV => ?_) ?_
              rotate_left 1
              · (obtain ⟨y1, y2, y3, y4, y5⟩ := (HSP.out _).1 hV; clear hV; go_simp; (try with_reducible rfl))
              try simp only [pa, List.set]
              refine wt 5 125 ?_ (fun V hV => ?_) ?_
              rotate_left 1
              · (clear hV; go_simp; (try with_reducible rfl))
              try simp only [pa, List.set]
              refine wt 6 126 ?_ (fun V hV => ?_) ?_
              rotate_left 1
              · (obtain ⟨y1, y2, y3, y4, y5⟩ := (HSP.out _).1 hV; clear hV; go_simp; (try with_reducible rfl))
              try simp only [pa, List.set]
              refine wt 7 127 ?_ (fun V hV => ?_) ?_
              rotate_left 1
              · (clear hV; go_simp; (try with_reducible rfl))
              try simp only [pa, List.set]
              refine wt 8 128 ?_ (fun V hV => ?_) ?_
              rotate_left 1
              · (clear hV; go_simp; (try with_reducible rfl))
              try simp only [pa, List.set]
              refine wt 9 129 ?_ (fun V hV => ?_) ?_
              rotate_left 1
              · (obtain ⟨y1, y2, y3, y4, y5⟩ := (HSP.out _).1 hV; clear hV; go_simp; (try with_reducible rfl))
              try simp only [pa, List.set]
              refine wt 10 130 ?_ (fun V hV => ?_) ?_
              rotate_left 1
              · (clear hV; go_simp; (try with_reducible rfl))
              try simp only [pa, List.set]
              refine wt 11 131 ?_ (fun V hV => ?_) ?_
              rotate_left 1
              · (obtain ⟨y1, y2, y3, y4, y5⟩ := (HSP.out _).1 hV; clear hV; go_simp; (try with_reducible rfl))
              try simp only [pa, List.set]
              refine wt 12 132 ?_ (fun V hV => ?_) ?_
              rotate_left 1
              · (clear hV; go_simp; (try with_reducible rfl))
              try simp only [pa, List.set]
              refine wt 13 133 ?_ (fun V hV => ?_) ?_
              rotate_left 1
              · (clear hV; go_simp; (try with_reducible rfl))
              try simp only [pa, List.set]
              refine wt 14 134 ?_ (fun V hV => ?_) ?_
              rotate_left 1
              · (obtain ⟨y1, y2, y3, y4, y5⟩ := (HSP.out _).1 hV; clear hV; go_simp; (try with_reducible rfl))
              try simp only [pa, List.set]
              refine wt 15 135 ?_ (fun V hV => ?_) ?_
              rotate_left 1
              · (clear hV; go_simp; (try with_reducible rfl))
              try simp only [pa, List.set]
              refine walk_pend ⟨16, 136, (.cells #[.string key, .string val] 61), fun r => .slice (some ⟨r, 0, none⟩) 1 1⟩ ⟨_, rfl, rfl, rfl, fun W => ?_⟩ ?_
              · (go_simp; (try with_reducible rfl))
              refine walk_force (by kernel_rfl) (by kernel_rfl) (by kernel_rfl) (by kernel_rfl) (fun r16 x16 hV hr16 hB16 => ?_)
              have lt16 : r16 < x16.heap.size := (Array.getElem?_eq_some_iff.1 hr16).1
              have HL1 := Lib.hid (HL0.out.trans hV)
              have ZF1 : Hid (∀ s, x16.heap.size ≤ s → _ ∧ s ≠ r16) := Lib.hid (fun s h => ⟨ZF0.out s (Nat.le_trans hV.size h), Nat.ne_of_gt (Nat.lt_of_lt_of_le lt16 h)⟩)
              have ZS1 : Hid (∀ V, Later x16 V → (SP) V) := Lib.hid (fun V' h => ZS0.out V' (hV.trans h))
              refine ⟨SP, Later x16, Later.refl _, fun _ h => h, ZS1.out, fun V' h => ZF0.out _ (Nat.le_trans hV.size h.size), fun V' h => Nat.lt_of_lt_of_le lt16 h.size, closed_later _, ?_⟩
              try simp only [pa, List.set]
              have HT16 := Lib.hid hV
              clear hV
              refine walk_core 17 rfl (by kernel_rfl) (fun _ _ _ _ _ h => h) (fun V hV K hK => ?_)
              have hV0 := HL1.out.trans hV
              have hSV := ZS1.out V hV
              try simp only [List.getElem_toArray, List.getElem_cons_succ, List.getElem_cons_zero]
              have hlt7 := HO9.out.lt
              have ho7 := own_heap' HO9.out fun r hr => (show Below _ _ _ from hV0).block r (hlt7 r hr).2
              have k6 : Blk V r16 61 #[.string key, .string val] := Blk.below (show Blk x16 r16 _ _ from hr16) hV lt16
              have hsv : wc.heap.size ≤ V.heap.size := (show Below _ _ _ from hV0).size
              have hGv : G ≤ V.heap.size := by have := HL5.out.at_.gG; have := HB9.out.lt; omega
              have hrd6 : Reads V V.heap.size 2 (some ⟨r16, 0, none⟩) 1 [.string key, .string val] := ⟨rfl, fun _ => ⟨_, rfl, k6.lt, fun j u hu => by
                rw [show (⟨r16, 0, none⟩ : Addr).add j = ⟨r16, j, none⟩ by unfold Addr.add; by_cases e : j = 0 <;> simp [e], k6.cell, ← Array.getElem?_toList]
                exact hu⟩⟩
              have hone6 : ∀ u ∈ [Value.string key, .string val], u.oneCell' = true := by
                intro u hu
                simp only [List.mem_cons, List.not_mem_nil, or_false] at hu
                rcases hu with rfl | rfl <;> rfl
              refine wp_append_any V (.tmp 124) (.tmp 136) _ rfl G 61 i0 _ 2 32 Try.underlying33 hi0 hz0 hz1 hz2 rfl (by omega) (.slice A9 L.length c9) L.length (L.flatMap kvC) rfl ho7 V.heap.size _ 1 1 _ rfl hrd6 hone6 (by have := HROOM.out; unfold maxLen; omega) (by have := HROOM.out; omega) hGv ?_
              intro v7 x17 hown7 hg7 hat7
              obtain ⟨A7, c7, rfl⟩ := own_shape hown7
              have hsize := hg7.size
              have hkeep := fun (r : Nat) (hF : wc.heap.size ≤ r ∧ r ≠ r16) (hl : r < V.heap.size) => hg7.block r hl (fun e => by have := (hlt7 r e.symm).2; omega)
              have hnq : some q ≠ (Value.slice A9 L.length c9).ownBlock := fun e => own_blk' HO9.out HL5.out.pg (by decide) e.symm
              have hng : some g ≠ (Value.slice A9 L.length c9).ownBlock := fun e => own_blk' HO9.out HB9.out (by decide) e.symm
              have kp7 := (HL5.out.pg.below hV0 HL5.out.pg.lt).grown hg7 hnq
              have kg7 := (HB9.out.below hV0 HB9.out.lt).grown hg7 hng
              have hdk : DKept (fun k => (Value.slice A9 L.length c9).ownBlock = some k) wc x17 := (DKept.of_below (show Below _ _ _ from hV0)).grown hg7 (fun k e => .inl e)
              have hsm7 : Sm wc x17 := Sm.kept hdk fun r hr => ⟨fun cs hb => own_blk' HO9.out hb (by decide) hr, fun cs hb => own_blk' HO9.out hb (by decide) hr⟩
              have hS := fun V' (h : Later x17 V') => (HSP.out V').2 (SX.out V' (kp7.below h kp7.lt) (kg7.below h kg7.lt) ((HL5.out.sm.trans hsm7).trans (Sm.later h)))
              have hsh7 := HL5.out.at_.sh.kept hdk hsm7 (fun e => own_blk' HO9.out HL5.out.at_.sh.blk (by decide) e) (fun r hr e => by
                obtain ⟨Ls, hs, _⟩ := HL5.out.at_.sh.row
                exact own_two hs HO9.out (by decide) hr e)
              have hrk7 : RgK G b g wc x17 := ⟨(DKept.refl (S := fun k => k = b ∨ G ≤ k)).trans hdk fun k _ e => .inr (HO9.out.lt k e).1, fun k t cs ht _ _ hb => hdk.blk hb fun e => own_blk' HO9.out hb ht.symm e⟩
              have HSH7 := Lib.hid hsh7
              have HRK7 := Lib.hid hrk7
              have HKP7 := Lib.hid kp7
              have HKG7 := Lib.hid kg7
              have HSM7 := Lib.hid (HL5.out.sm.trans hsm7)
              have HO7 : Hid (x17.ownsRow G 61 2 (.slice A7 (L.length + 1) c7) (L.length + 1) ((L ++ [(key, val)]).flatMap kvC)) := Lib.hid (by
                rw [List.flatMap_append]
                exact hown7)
              clear hlt7 ho7 k6 hsv hGv hrd6 hone6 hown7 hg7 hat7 hnq hng kp7 kg7 hdk hsm7 hsh7 hrk7
              have ZF2 : Hid (∀ s, x17.heap.size ≤ s → _) := Lib.hid (fun s h => ZF1.out s (Nat.le_trans hV.size (Nat.le_trans hsize h)))
              have ZS2 : Hid (∀ V, Later x17 V → (SP) V) := Lib.hid hS
              refine hK.out _ _ (SP) (Later x17) _ hkeep (fun _ h _ => h) (fun _ h => h) ZS2.out (fun V' h => ZF2.out _ h.size) (Later.refl _) (closed_later _) ?_
              clear hK K hV hsize hkeep hV0 hSV hS
              try simp only [Act.put]
              try simp only [pa, List.set]
              refine wt 18 138 ?_ (fun V hV => ?_) ?_
              rotate_left 1
              · (clear hV; go_simp; (try with_reducible rfl))
              try simp only [pa, List.set]
              refine wt 19 139 ?_ (fun V hV => ?_) ?_
              rotate_left 1
              · (clear hV; go_simp; (try with_reducible rfl))
              try simp only [pa, List.set]
              refine walk_exit (fun V hV => ?_)
              have hSV := ZS2.out V hV
              try simp only [pa, List.set]
              have kg := HKG7.out.below hV HKG7.out.lt
              have fg := kg.frozen 5
              have cg := (kg.cell 5).trans rfl
              have u := upd1 kg 5 (.slice A7 (L.length + 1) c7)
              obtain ⟨W9, hW9⟩ : ∃ W9, W9 = V.setCell ⟨g, 5, none⟩ (.slice A7 (L.length + 1) c7) := ⟨_, rfl⟩
              rw [← hW9] at u
              have hG := HL5.out.at_.gG
              have ho9 := own_heap' HO7.out fun r hr => (show Below _ _ _ from hV).block r (HO7.out.lt r hr).2
              have hll : (L ++ [(key, val)]).length = L.length + 1 := by rw [List.length_append]; rfl
              have HL9 : Hid (Lp G B b g ill v fr til most S q #[.bool true, .slice (some ad) k1 c1, .slice (some ae) k2 c2, .slice A3 k3 c3] n r (n + 1) (r + 1) (L ++ [(key, val)]) w W3 W9) := Lib.hid
                ⟨⟨(HSH7.out.later hV).updFar u kg far_ranger, ⟨A7, c7, by rw [hll]; simpa using u.blk, by rw [hll]; exact own_heap' ho9 fun r hr => u.kept.block r (ho9.lt r hr).2 fun e => by subst e; exact own_blk' ho9 kg (by decide) hr⟩, hG⟩,
                 ((HL5.out.kp.trans HRK7.out).trans (RgK.later hV)).trans ⟨(DKept.refl (S := fun k => k = b ∨ G ≤ k)).trans u.kept fun k _ e => .inr (by omega), fun k t cs _ _ h2 hb => u.far hb h2⟩,
                 u.far (HKP7.out.below hV HKP7.out.lt) HQN.out.2, HL5.out.n0, HL5.out.r0, (HSM7.out.trans (Sm.later hV)).trans (u.sm kg (by decide) (by decide))⟩
              have HD2 : Hid ((L ++ [(key, val)]).length + (k1 - (i + 1)) ≤ 1000000) := Lib.hid (by rw [hll]; have := HD.out; omega)
              have HW9 := Lib.hid hW9
              clear hV hSV kg u hW9 hG ho9 hll
              refine wpAnyJ_one (i := 20) (by kernel_rfl) rfl (fun K hK => ?_)
              simp only [List.getElem_toArray, List.getElem_cons_succ, List.getElem_cons_zero]
              go_simp
              refine hK.out _ _ (fun h _ => absurd rfl h) ?_
              clear hK K
              try simp only [pa, List.set]
              refine wpAnyJ_done (by kernel_rfl) ?_ _
              rw [← HW9.out]
              go_wp2_with fail
              go_roundg (k1 - (i + 1))
              case measure => omega
              case rel => exact ⟨i + 1, _, by simp, by omega, by omega, HM2, HL9, HD2⟩
end Go.Proofs.Ytafeddjcomeniaa
end

/- tree.Range. Conditions: the shelf lies in memory and is well; the tree is good, with few items. -/
section
namespace Go.Proofs.Ytafeddjcomeniaa
open Go.RowKit
set_option linter.unusedVariables false
set_option linter.unusedSimpArgs false

def ranged (fr til : ByteArray) (most : Int) (l : List KV) : List KV := (filt fr til l).take most.toNat
theorem more_nil (fr til : ByteArray) (m : Nat) (l : List KV) : more fr til m [] l = (filt fr til l).take m := by
  unfold more; simp
/-- Rows of items that a call hands out. -/
def Items (G : Nat) (w : World) (v : Value) (L : List KV) : Prop := ∃ A c, v = .slice A L.length c ∧ w.ownsRow G 61 2 v L.length (L.flatMap kvC)
def RangePost (B b : Nat) (ill : Int) (s : Sh) (v : Value) (L : List KV) (w : World) (e : Ending) (w' : World) : Prop :=
  ∃ lv, e = .returned (.tuple #[lv, .int .i64 0]) ∧ Items w.heap.size w' lv L ∧ Seen B b ill s v 4096 w w'
set_option maxRecDepth 100000 in
set_option maxHeartbeats 8000000 in
theorem rangeT_any {Q : Pg → Prop} {B b : Nat} {w : World} {ill : Int} {s : Sh} {v : Value} {root most : Int} {k : Nat} {l : List KV} (fr til : ByteArray) (h : ShAt B w b ill s v) (hn : 0 ≤ s.n) (hn2 : s.n < 900000000) (hl : s.S.length ≤ 100000) (hw : ill ≤ s.n)
    (ht : Tree Q s.S k root l) (hk : k ≤ 200) :
    Calls Try.prog 12 #[shV b, .int .u64 root, .string fr, .string til, .int .i64 most] w (RangePost B b ill s v (ranged fr til most l) w) := by
  obtain ⟨W1, hW1⟩ : ∃ W1, W1 = w.alloc (.cells #[shV b, .int .i64 0, .string fr, .string til, .int .i64 most, .slice none 0 0] 106) := ⟨_, rfl⟩
  have hl1 : Later w W1 := by rw [hW1]; exact below_new _ _
  obtain ⟨g, hg⟩ : ∃ g, g = w.heap.size := ⟨_, rfl⟩
  have kg : Blk W1 g 106 #[shV b, .int .i64 0, .string fr, .string til, .int .i64 most, .slice none 0 0] := by rw [hW1, hg]; exact Blk.new _ _ _
  have hr : RgAt g B b g ill v fr til most s.S s.n 0 [] W1 := ⟨h.later hl1, ⟨none, 0, kg, World.ownsRow_nil _ _ _ _⟩, Nat.le_refl _⟩
  have CD := Lib.hid (done_any hr)
  have HG := Lib.hid hg
  have HL1 := Lib.hid hl1
  have HW1 := Lib.hid hW1
  have HR := Lib.hid hr
  have HT := Lib.hid ht
  have HNN := Lib.hid (And.intro hn (And.intro hn2 (And.intro hl (And.intro hw hk))))
  have HLB := Lib.hid h.blk.lt
  have hnil : Hid (∀ V, Later W1 V → ranged fr til most l = [] → RangePost B b ill s v (ranged fr til most l) w (.returned (.tuple #[.slice none 0 0, .int .i64 0])) V) := Lib.hid fun V hV e => by
    rw [e]
    exact ⟨_, rfl, ⟨none, 0, rfl, World.ownsRow_nil _ _ _ _⟩, s.n, Int.le_refl _, by omega, (h.later hl1).later hV, (DKept.of_below hl1).later hV, (Sm.later hl1).trans (Sm.later hV)⟩
  clear h hn hn2 hl hw ht hk hl1 kg hr hg hW1
  unfold shV
  go_enter Try.func12, Try.ntmps12
  unfold shV at HW1
  by_cases h0 : root = 0
  · subst h0
    have e0 := HT.out.none_ rfl
    have FIN := Lib.hid (hnil.out W1 (Below.refl _ _) (by rw [e0]; simp [ranged, filt]))
    clear e0
    go_wp2_with fail
    rw [← HW1.out]
    go_ret2
    exact FIN.out
  · have h0' : (root == 0) = false := beq_eq_false_iff_ne.2 h0
    go_upto_region 2 with fail
    rw [← HW1.out, ← HG.out]
    go_wp2_with fail
    refine CD.out.mono ?_
    rintro e w2 ⟨rfl, hl2⟩
    have HL2 := Lib.hid hl2
    have HR2 := Lib.hid (HR.out.later hl2)
    clear CD hl2
    by_cases hm : most ≤ ((([] : List KV).length : Nat) : Int)
    · have e1 : decide (most ≤ ((([] : List KV).length : Nat) : Int)) = true := decide_eq_true hm
      rw [e1]
      have e2 : ranged fr til most l = [] := by
        unfold ranged
        have : most.toNat = 0 := by simp at hm; omega
        rw [this]; rfl
      have FIN := Lib.hid (hnil.out w2 HL2.out e2)
      clear e1 e2 hm
      go_wp2_with fail
      go_ret2
      exact FIN.out
    · have e1 : decide (most ≤ ((([] : List KV).length : Nat) : Int)) = false := decide_eq_false hm
      rw [e1]
      obtain ⟨d, hok, hit, hdp, _⟩ := HT.out.deep h0
      have hnod := nodes_le hok
      have hfw := HT.out.few
      have hnn := HNN.out
      have CW := rwalk_any (deep := 1) d ⟨hok, by rw [hit]; omega, hnn.2.2.1, hnn.2.2.2.1, hnn.1, by rw [hit] at hnod; omega, Int.le_refl _, by rw [hit] at hnod; omega, Int.le_refl _, by omega, by rw [hit]; simp; omega⟩ HR2.out
      rw [hit, more_nil] at CW
      have HNOD : Hid (nodesN s.S d root ≤ 400) := Lib.hid (by rw [hit] at hnod; omega)
      have CW := Lib.hid CW
      clear e1 hm hok hit hdp hnod hfw hnn
      go_wp2_with fail
      refine CW.out.mono ?_
      rintro e w3 ⟨rfl, n', r', g1, g2, g3, g4, hat, hkp⟩
      rw [show (filt fr til l).take most.toNat = ranged fr til most l from rfl] at hat
      obtain ⟨RL, hRL⟩ : ∃ RL, RL = ranged fr til most l := ⟨_, rfl⟩
      rw [← hRL] at hat
      obtain ⟨A, c, hb, ho⟩ := hat.blk
      have c5 : w3.cell? ⟨g, 5, none⟩ = some (.slice A RL.length c) := (hb.cell 5).trans rfl
      have FIN : Hid (RangePost B b ill s v (ranged fr til most l) w (.returned (.tuple #[.slice A RL.length c, .int .i64 0])) w3) := Lib.hid (by
        rw [← hRL]
        refine ⟨_, rfl, ⟨A, c, rfl, by rw [← HG.out]; exact ho⟩, n', g1, by have := HNOD.out; omega, hat.sh, ?_, ?_⟩
        · exact (DKept.of_below (S := fun k => k = b) (HL1.out.trans HL2.out)).trans hkp.kd fun i hi e => by
            rcases e with e | e
            · exact e
            · rw [HG.out] at e; omega
        · obtain ⟨_, _, hb2, _⟩ := HR2.out.blk
          exact (Sm.later (HL1.out.trans HL2.out)).trans (hkp.sm HR2.out.sh.blk hb2))
      generalize RL.length = ln at *
      clear hat hkp hb ho CW hRL
      go_wp2_with fail
      go_ret2
      exact FIN.out
end Go.Proofs.Ytafeddjcomeniaa
end
