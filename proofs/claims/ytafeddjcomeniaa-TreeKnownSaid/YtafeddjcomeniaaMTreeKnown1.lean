/- The texts of this proof, joined: contracts of the functions that the law reaches, and what they come to in plain Lean. Conditions: those that each theorem names. -/
import Derived.Test.YtafeddjcomeniaaMTreeKnown0
import Derived.Deep.LoopGhost
import Derived.Deep.Draws
import Derived.RegionTactic
import Derived.Shelf.Abstract
import Derived.Deep.DeepCutAuto
import Derived.Deep.CutBlock
import Derived.Deep.RegionHeld3
import Derived.Test.YtafeddjcomeniaaRows
import Derived.Lib.AppendStr
import Derived.Deep.DrawnRows
import Derived.RangeFuncOwn
import Derived.RangeFuncNested
import Derived.RangeFuncBound
import Derived.RangeFuncCalls
import Derived.RangeFuncLeaves
import Derived.Shelf.RegionOpen
import Derived.WalkKit
import Derived.OwnWalkIn
import Derived.TacticsInMore
import Derived.LoopNIn
import Derived.LoopIn
import Derived.OrdersIn
import Derived.RangeFuncWrites

/- sort.Search, sort.SearchStrings, page.Find and page.Kid. Conditions: the row or the page reads in memory; few keys; they rise. -/
section
namespace Go.Proofs.Ytafeddjcomeniaa
open Go.RowKit
set_option linter.unusedVariables false
set_option linter.unusedSimpArgs false

set_option maxHeartbeats 4000000 in
set_option maxRecDepth 1000000 in
theorem search_any (g : Nat) (cb : Array Value) (n : Nat) (p : Nat → Bool) (w : World) (eg : ∀ args w, (callFunc g args).run Try.prog w = .ok (.enter g args) w) (hn : n < 1152921504606846976)
    (hf : ∀ (m i : Nat), i < n → Calls Try.prog g (#[.int .i64 i] ++ cb) (w.drewN m) fun e w' => e = .returned (.bool (p i)) ∧ ∃ q, w' = w.drewN q) :
    Calls Try.prog 80 #[.int .i64 n, .func (.func g) #[] cb] w fun e w' => e = .returned (.int .i64 (bs p 0 n : Nat)) ∧ ∃ q, w' = w.drewN q := by
  have HF := Lib.hid hf
  obtain ⟨r, hr⟩ : ∃ r, r = bs p 0 n := ⟨_, rfl⟩
  rw [← hr]
  have HR := Lib.hid hr
  clear hf hr
  go_enter Try.func80, Try.ntmps80
  go_wp2_with fail
  go_loopg [5, 6] n (fun kx s5 s6 wr => ∃ (lo hi q : Nat), s5 = .int .i64 lo ∧ s6 = .int .i64 hi ∧ lo ≤ hi ∧ hi ≤ n ∧ hi - lo ≤ kx ∧ wr = w.drewN q ∧ Hid (r = bs p lo hi))
  case atStart => exact ⟨0, n, 0, rfl, rfl, Nat.zero_le _, Nat.le_refl _, by omega, rfl, HR⟩
  case round =>
    obtain ⟨lo, hi, q, rfl, rfl, hlh, hin, hg, rfl, I⟩ := hrel
    by_cases hlt : lo < hi
    · have hc := HF.out q ((lo + hi) / 2) (by omega)
      rw [show (((lo + hi) / 2 : Nat) : Int) = ((lo : Int) + (hi : Int)) / 2 by omega] at hc
      cases hp : p ((lo + hi) / 2) <;> rw [hp] at hc
      · have I2 : Hid (r = bs p ((lo + hi) / 2 + 1) hi) := Lib.hid (by rw [I.out, bs_no p hlt hp])
        have HC := Lib.hid hc
        clear hp hc
        go_wp2_with (go_at_fn g; refine HC.out.mono ?_; rintro e w' ⟨rfl, nq, rfl⟩)
        go_roundg (hi - ((lo + hi) / 2 + 1))
        case measure => omega
        case rel => exact ⟨(lo + hi) / 2 + 1, hi, nq, by rw [show ((lo : Int) + (hi : Int)) / 2 + 1 = (((lo + hi) / 2 + 1 : Nat) : Int) by omega], rfl, by omega, hin, Nat.le_refl _, rfl, I2⟩
      · have I2 : Hid (r = bs p lo ((lo + hi) / 2)) := Lib.hid (by rw [I.out, bs_yes p hlt hp])
        have HC := Lib.hid hc
        clear hp hc
        go_wp2_with (go_at_fn g; refine HC.out.mono ?_; rintro e w' ⟨rfl, nq, rfl⟩)
        go_roundg ((lo + hi) / 2 - lo)
        case measure => omega
        case rel => exact ⟨lo, (lo + hi) / 2, nq, rfl, by rw [show ((lo : Int) + (hi : Int)) / 2 = (((lo + hi) / 2 : Nat) : Int) by omega], by omega, by omega, Nat.le_refl _, rfl, I2⟩
    · obtain rfl : hi = lo := by omega
      have e : r = hi := by rw [I.out, bs_end p (Nat.lt_irrefl _)]
      subst e
      clear I HR
      go_wp2
      go_ret
      exact ⟨rfl, _, rfl⟩

set_option maxHeartbeats 2000000 in
theorem closure_any (ba bx cap : Nat) (A : Option Addr) (l : List ByteArray) (x : ByteArray) (i : Nat) (W : World) (hi : i < l.length)
    (ha : W.cell? ⟨ba, 0, none⟩ = some (.slice A l.length cap)) (hx : W.cell? ⟨bx, 0, none⟩ = some (.string x)) (hc : Srow W A cap l) :
    Calls Try.prog 81 (#[.int .i64 i] ++ #[.pointer (some ⟨ba, 0, none⟩), .pointer (some ⟨bx, 0, none⟩)]) W fun e w' => e = .returned (.bool (!(Op.bytesLess (l.getD i ByteArray.empty).toList x.toList))) ∧ ∃ q, w' = W.drewN q := by
  obtain ⟨ad, rfl, _, _, hg⟩ := hc.get (getD_some ByteArray.empty hi)
  have hcell := hg W (fun _ _ => id)
  generalize l.getD i ByteArray.empty = y at *
  generalize l.length = n at *
  have hiz : (i : Int) < (n : Int) := by omega
  clear hc hg
  go_enter Try.func81, Try.ntmps81
  go_wp2_with fail
  go_region
  all_goals go_wp2
  all_goals go_ret
  all_goals exact ⟨by first | rfl | simp, 1, rfl⟩
theorem bs_find {ks : List ByteArray} (h : Rise ks) (key : ByteArray) : bs (fun i => !(Op.bytesLess (ks.getD i ByteArray.empty).toList key.toList)) 0 ks.length = findN ks key := by
  refine bs_first (fun i => !(lessB (ks.getD i ByteArray.empty) key)) (findN ks key) ks.length (fun i hi => ?_) (fun i hi hj => ?_) ks.length 0 ks.length (by omega) (Nat.zero_le _) (findN_le _ _) (Nat.le_refl _)
  · have := findN_before key ks i hi
    simp only [this]; rfl
  · have := findN_behind h key hi hj
    simp only [this]; rfl
set_option maxHeartbeats 2000000 in
theorem searchStrings_any {w : World} {A : Option Addr} {c : Nat} {l : List ByteArray} (key : ByteArray) (h : Srow w A c l) (hn : l.length ≤ 1000) (hr : Rise l) :
    Calls Try.prog 68 #[.slice A l.length c, .string key] w fun e w' => e = .returned (.int .i64 (findN l key : Nat)) ∧ Below w.heap.size w w' := by
  obtain ⟨W0, hW0⟩ : ∃ W0, W0 = (w.alloc (.cells #[.slice A l.length c] 52)).alloc (.cells #[.string key] 9) := ⟨_, rfl⟩
  have hb0 : Below w.heap.size w W0 := by rw [hW0]; exact (below_new _ _).alloc (by simp) _
  have k1 : Blk W0 w.heap.size 52 #[.slice A l.length c] := by rw [hW0]; exact (Blk.new _ _ _).alloc _
  have k2 : Blk W0 (w.heap.size + 1) 9 #[.string key] := by rw [hW0]; have := Blk.new (w.alloc (.cells #[.slice A l.length c] 52)) 9 #[.string key]; simpa using this
  have ca : W0.cell? ⟨w.heap.size, 0, none⟩ = some (.slice A l.length c) := (k1.cell 0).trans rfl
  have cx : W0.cell? ⟨w.heap.size + 1, 0, none⟩ = some (.string key) := (k2.cell 0).trans rfl
  have hC0 := h.smS (Sm.below hb0)
  have eg : ∀ args w, (callFunc 81 args).run Try.prog w = .ok (.enter 81 args) w := enters_of Try.func81 (by kernel_rfl) rfl
  have hS := search_any 81 #[.pointer (some ⟨w.heap.size, 0, none⟩), .pointer (some ⟨w.heap.size + 1, 0, none⟩)] l.length (fun i => !(Op.bytesLess (l.getD i ByteArray.empty).toList key.toList)) W0 eg (by omega)
    (fun m i hi => (closure_any w.heap.size (w.heap.size + 1) c A l key i (W0.drewN m) hi ca cx (hC0.keep fun g cs => fun h => h.drewN m)).mono fun _ _ ⟨he, q, hq⟩ => ⟨he, m + q, by rw [hq, World.drewN_drewN]⟩)
  rw [bs_find hr] at hS
  have HS := Lib.hid hS
  have HW := Lib.hid hW0
  have HB := Lib.hid hb0
  clear hS hW0 hb0 k1 k2 ca cx hC0 h eg hr
  generalize findN l key = r at *
  generalize l.length = n at *
  go_enter Try.func68, Try.ntmps68
  go_wp2_with (go_at_call 80; rw [← HW.out]; refine HS.out.mono ?_; rintro e w' ⟨rfl, q, rfl⟩)
  go_ret
  exact ⟨rfl, HB.out.trans (below_drewN HB.out.size q)⟩
section
variable {w : World} {A1 A2 A3 : Option Addr} {c1 c2 c3 : Nat} {p : Pg}
set_option maxRecDepth 100000 in
set_option maxHeartbeats 8000000 in
theorem find_a (key : ByteArray) (h : PgA w A1 c1 A2 c2 A3 c3 p) (hf : p.keys.length ≤ 1000) (hr : Rise p.keys) : Calls Try.prog 38 #[.agg (pgc A1 c1 A2 c2 A3 c3 p), .string key] w fun e w' => e = .returned (.tuple #[.int .i64 (findN p.keys key : Nat), .bool (thereB p.keys key)]) ∧ Below w.heap.size w w' := by
  obtain ⟨lf, ks, vs, ns⟩ := p
  unfold pgc
  dsimp only at *
  obtain ⟨W0, hW0⟩ : ∃ W0, W0 = w.alloc (.cells #[.bool lf, .slice A1 ks.length c1, .slice A2 vs.length c2, .slice A3 ns.length c3] 54) := ⟨_, rfl⟩
  have hb0 : Below w.heap.size w W0 := by rw [hW0]; exact (Below.refl _ _).alloc (Nat.le_refl _) _
  have hk0 : Blk W0 w.heap.size 54 #[.bool lf, .slice A1 ks.length c1, .slice A2 vs.length c2, .slice A3 ns.length c3] := by rw [hW0]; exact Blk.new _ _ _
  have hkf : ks.length ≤ 1000 := hf
  have h0 := h.sm (Sm.below hb0)
  have CS := searchStrings_any key h0.k hkf hr
  have hle := findN_le ks key
  have hth : thereB ks key = (decide (findN ks key < ks.length) && ((ks.getD (findN ks key) ByteArray.empty).toList == key.toList)) := rfl
  generalize findN ks key = f at *
  generalize thereB ks key = th at *
  have SP : Hid (∀ V, Later W0 V → V.cell? ⟨w.heap.size, 1, none⟩ = some (.slice A1 ks.length c1)) := Lib.hid fun V hV => (cells4 (hk0.below hV hk0.lt)).2.1
  have HK := Lib.hid h0.k
  have HB0 := Lib.hid hb0
  have HW0 := Lib.hid hW0
  have CS := Lib.hid CS
  have HTH := Lib.hid hth
  have q1 := SP.out W0 (Later.refl _)
  clear h hf hr hW0 hb0 hk0 h0 hth
  go_enter Try.func38, Try.ntmps38
  go_wp2_with fail
  rw [← HW0.out]
  refine CS.out.mono ?_
  rintro e w1 ⟨rfl, hb1⟩
  have H1 : Hid (Later W0 w1) := Lib.hid hb1
  clear hb1 q1 CS HW0
  by_cases hlt : f < ks.length
  · obtain ⟨ad, rfl, _, _, hc0⟩ := HK.out.get (getD_some ByteArray.empty hlt)
    have hc : ∀ V, Later W0 V → V.cell? (ad.add f) = some (.string (ks.getD f ByteArray.empty)) := fun V hV => hc0 V (fun g cs => ((Sm.later hV) g cs).1)
    clear hc0
    have i0 : (0 : Int) ≤ (f : Int) := by omega
    have i1 : (f : Int) < (ks.length : Int) := by omega
    have HTT : Hid (th = ((ks.getD f ByteArray.empty).toList == key.toList)) := Lib.hid (by rw [HTH.out, decide_eq_true hlt, Bool.true_and])
    have HC : Hid (∀ V, Later W0 V → V.cell? (ad.add f) = some (.string (ks.getD f ByteArray.empty))) := Lib.hid hc
    generalize ks.getD f ByteArray.empty = z at *
    clear hc HTH
    go_upto_region 2 with fail
    have HL0 := Lib.hid (Later.refl w1)
    have ZF0 : Hid (∀ s, w1.heap.size ≤ s → w1.heap.size ≤ s) := Lib.hid (fun _ h => h)
    have ZS0 : Hid (∀ V, Later w1 V → (Later w1) V) := Lib.hid (fun _ h => h)
    refine walk_start 17 (S := Later w1) (T := Later w1) (by kernel_rfl) (fun r => w1.heap.size ≤ r) (fun _ h => h.size) ZS0.out (closed_later _) (Later.refl _).drew ?_
    refine wt 0 11 ?_ (fun V hV => ?_) ?_
    rotate_left 1
    · (clear hV; go_simp; (try with_reducible rfl))
    try simp only [pa, List.set]
    refine wt 1 12 ?_ (fun V hV => ?_) ?_
    rotate_left 1
    · (clear hV; go_simp; (try with_reducible rfl))
    try simp only [pa, List.set]
    refine wt 2 13 ?_ (fun V hV => ?_) ?_
    rotate_left 1
    · (clear hV; go_simp; (try with_reducible rfl))
    try simp only [pa, List.set]
    refine wt 3 14 ?_ (fun V hV => ?_) ?_
    rotate_left 1
    · (have q1 := SP.out V (H1.out.trans (HL0.out.trans hV)); have q2 := HC.out V (H1.out.trans (HL0.out.trans hV)); clear hV; go_simp; (try with_reducible rfl))
    try simp only [pa, List.set]
    refine wt 4 15 ?_ (fun V hV => ?_) ?_
    rotate_left 1
    · (clear hV; go_simp; (try with_reducible rfl))
    try simp only [pa, List.set]
    refine wt 5 16 ?_ (fun V hV => ?_) ?_
    rotate_left 1
    · (clear hV; go_simp; (try with_reducible rfl))
    try simp only [pa, List.set]
    refine wt 6 17 ?_ (fun V hV => ?_) ?_
    rotate_left 1
    · (clear hV; go_simp; (try with_reducible rfl))
    try simp only [pa, List.set]
    refine wt 7 18 ?_ (fun V hV => ?_) ?_
    rotate_left 1
    · (clear hV; go_simp; (try with_reducible rfl))
    try simp only [pa, List.set]
    refine wt 8 19 ?_ (fun V hV => ?_) ?_
    rotate_left 1
    · (have q1 := SP.out V (H1.out.trans (HL0.out.trans hV)); have q2 := HC.out V (H1.out.trans (HL0.out.trans hV)); clear hV; go_simp; (try with_reducible rfl))
    try simp only [pa, List.set]
    refine wt 9 20 ?_ (fun V hV => ?_) ?_
    rotate_left 1
    · (clear hV; go_simp; (try with_reducible rfl))
    try simp only [pa, List.set]
    refine wt 10 21 ?_ (fun V hV => ?_) ?_
    rotate_left 1
    · (clear hV; go_simp; (try with_reducible rfl))
    try simp only [pa, List.set]
    refine wt 11 22 ?_ (fun V hV => ?_) ?_
    rotate_left 1
    · (have q1 := SP.out V (H1.out.trans (HL0.out.trans hV)); have q2 := HC.out V (H1.out.trans (HL0.out.trans hV)); clear hV; go_simp; (try with_reducible rfl))
    try simp only [pa, List.set]
    refine wt 12 23 ?_ (fun V hV => ?_) ?_
    rotate_left 1
    · (clear hV; go_simp; (try with_reducible rfl))
    try simp only [pa, List.set]
    refine wt 13 24 ?_ (fun V hV => ?_) ?_
    rotate_left 1
    · (clear hV; go_simp; (try with_reducible rfl))
    try simp only [pa, List.set]
    refine wt 14 25 ?_ (fun V hV => ?_) ?_
    rotate_left 1
    · (clear hV; go_simp; (try with_reducible rfl))
    try simp only [pa, List.set]
    refine wt 15 4 ?_ (fun V hV => ?_) ?_
    rotate_left 1
    · (clear hV; go_simp; (try with_reducible rfl))
    try simp only [pa, List.set]
    refine wt 16 5 ?_ (fun V hV => ?_) ?_
    rotate_left 1
    · (clear hV; go_simp; (try with_reducible rfl))
    try simp only [pa, List.set]
    refine walk_exit (fun V hV => wpAnyJ_done (by kernel_rfl) ?_ _)
    have hV0 := HL0.out.trans hV
    have HZ := Lib.hid ((HB0.out.trans ((show Below _ _ _ from H1.out.trans hV0).mono HB0.out.size)))
    clear hV hV0
    have ht := HTT.out
    go_wp2_with fail
    refine bodyPost_ret (v := .tuple #[.int .i64 (f : Int), .bool (z.toList == key.toList)]) (by simp [results, Try.results38, go_sem]) rfl ⟨by rw [ht], HZ.out⟩
  · have hle : f = ks.length := by omega
    have HTT : Hid (th = false) := Lib.hid (by rw [HTH.out, decide_eq_false hlt, Bool.false_and])
    have g1 : decide ((f : Int) < (ks.length : Int)) = false := decide_eq_false (by omega)
    clear HTH
    go_upto_region 2 with fail
    have HL0 := Lib.hid (Later.refl w1)
    have ZF0 : Hid (∀ s, w1.heap.size ≤ s → w1.heap.size ≤ s) := Lib.hid (fun _ h => h)
    have ZS0 : Hid (∀ V, Later w1 V → (Later w1) V) := Lib.hid (fun _ h => h)
    refine walk_start 17 (S := Later w1) (T := Later w1) (by kernel_rfl) (fun r => w1.heap.size ≤ r) (fun _ h => h.size) ZS0.out (closed_later _) (Later.refl _).drew ?_
    refine wt 0 11 ?_ (fun V hV => ?_) ?_
    rotate_left 1
    · (clear hV; go_simp; (try with_reducible rfl))
    try simp only [pa, List.set]
    refine wt 1 12 ?_ (fun V hV => ?_) ?_
    rotate_left 1
    · (clear hV; go_simp; (try with_reducible rfl))
    try simp only [pa, List.set]
    refine wt 2 13 ?_ (fun V hV => ?_) ?_
    rotate_left 1
    · (clear hV; go_simp; (try with_reducible rfl))
    try simp only [pa, List.set]
    refine wt 3 14 ?_ (fun V hV => ?_) ?_
    rotate_left 1
    · (have q1 := SP.out V (H1.out.trans (HL0.out.trans hV)); clear hV; go_simp; (try with_reducible rfl))
    try simp only [pa, List.set]
    refine wt 4 15 ?_ (fun V hV => ?_) ?_
    rotate_left 1
    · (clear hV; go_simp; (try with_reducible rfl))
    try simp only [pa, List.set]
    refine wt 5 16 ?_ (fun V hV => ?_) ?_
    rotate_left 1
    · (clear hV; go_simp; (try with_reducible rfl))
    try simp only [pa, List.set]
    refine wt 6 17 ?_ (fun V hV => ?_) ?_
    rotate_left 1
    · (clear hV; go_simp; (try with_reducible rfl))
    try simp only [pa, List.set]
    refine ws 7 18 ?_
    try simp only [pa, List.set]
    refine ws 8 19 ?_
    try simp only [pa, List.set]
    refine ws 9 20 ?_
    try simp only [pa, List.set]
    refine ws 10 21 ?_
    try simp only [pa, List.set]
    refine ws 11 22 ?_
    try simp only [pa, List.set]
    refine ws 12 23 ?_
    try simp only [pa, List.set]
    refine ws 13 24 ?_
    try simp only [pa, List.set]
    refine wt 14 25 ?_ (fun V hV => ?_) ?_
    rotate_left 1
    · (clear hV; go_simp; (try with_reducible rfl))
    try simp only [pa, List.set]
    refine wt 15 4 ?_ (fun V hV => ?_) ?_
    rotate_left 1
    · (clear hV; go_simp; (try with_reducible rfl))
    try simp only [pa, List.set]
    refine wt 16 5 ?_ (fun V hV => ?_) ?_
    rotate_left 1
    · (clear hV; go_simp; (try with_reducible rfl))
    try simp only [pa, List.set]
    refine walk_exit (fun V hV => wpAnyJ_done (by kernel_rfl) ?_ _)
    have hV0 := HL0.out.trans hV
    have HZ := Lib.hid ((HB0.out.trans ((show Below _ _ _ from H1.out.trans hV0).mono HB0.out.size)))
    clear hV hV0
    have ht := HTT.out
    go_wp2_with fail
    refine bodyPost_ret (v := .tuple #[.int .i64 (f : Int), .bool false]) (by simp [results, Try.results38, go_sem, hle]) rfl ⟨by rw [ht], HZ.out⟩
set_option maxRecDepth 100000 in
set_option maxHeartbeats 8000000 in
theorem kid_a (key : ByteArray) (h : PgA w A1 c1 A2 c2 A3 c3 p) (hf : p.keys.length ≤ 1000) (hr : Rise p.keys) : Calls Try.prog 60 #[.agg (pgc A1 c1 A2 c2 A3 c3 p), .string key] w fun e w' => e = .returned (.int .i64 (kidN p key : Nat)) ∧ Below w.heap.size w w' := by
  obtain ⟨lf, ks, vs, ns⟩ := p
  obtain ⟨W0, hW0⟩ : ∃ W0, W0 = w.alloc (.cells #[.bool lf, .slice A1 ks.length c1, .slice A2 vs.length c2, .slice A3 ns.length c3] 54) := ⟨_, rfl⟩
  have hb0 : Below w.heap.size w W0 := by rw [hW0]; exact (Below.refl _ _).alloc (Nat.le_refl _) _
  have hk0 : Blk W0 w.heap.size 54 #[.bool lf, .slice A1 ks.length c1, .slice A2 vs.length c2, .slice A3 ns.length c3] := by rw [hW0]; exact Blk.new _ _ _
  have CF := find_a key (h.sm (Sm.below hb0)) hf hr
  have hkf : ks.length ≤ 1000 := hf
  have hle := findN_le ks key
  have hkd : kidN ⟨lf, ks, vs, ns⟩ key = if lf then 0 else if thereB ks key then findN ks key + 1 else findN ks key := rfl
  rw [hkd]
  unfold pgc at *
  dsimp only at *
  generalize findN ks key = f at *
  generalize thereB ks key = th at *
  obtain ⟨q0, q1, q2, q3⟩ := cells4 hk0
  have HB0 := Lib.hid hb0
  have HW0 := Lib.hid hW0
  have CF := Lib.hid CF
  clear h hf hr hW0 hb0 hk0 hkd
  cases lf with
  | true =>
    go_enter Try.func60, Try.ntmps60
    go_wp2_with fail
    rw [← HW0.out]
    go_ret
    exact ⟨rfl, HB0.out⟩
  | false =>
    go_enter Try.func60, Try.ntmps60
    go_wp2_with fail
    rw [← HW0.out]
    refine CF.out.mono ?_
    rintro e w1 ⟨rfl, hb1⟩
    have HZ := Lib.hid (HB0.out.trans (hb1.mono HB0.out.size))
    clear hb1 CF
    cases th with
    | true =>
      go_wp2_with fail
      go_ret
      exact ⟨by go_num, HZ.out⟩
    | false =>
      go_wp2_with fail
      go_ret
      exact ⟨rfl, HZ.out⟩
end
theorem find_v {w : World} {cs : Array Value} {p : Pg} (key : ByteArray) (h : PgV w cs p) (ho : Ok p) : Calls Try.prog 38 #[.agg cs, .string key] w fun e w' => e = .returned (.tuple #[.int .i64 (findN p.keys key : Nat), .bool (thereB p.keys key)]) ∧ Below w.heap.size w w' := by
  obtain ⟨A1, c1, A2, c2, A3, c3, rfl, h⟩ := h
  exact find_a key h ho.few (good_rise ho.good)
end Go.Proofs.Ytafeddjcomeniaa
end

/- A key put into a good tree: it is good, its items are as they must. Plain Lean. No program here. Conditions: none. -/
section
namespace Go.Proofs.Ytafeddjcomeniaa
open Go

/-- The keys of a number's page, a leaf's as if they were twenty. -/
def rk (S : List Pg) (n : Int) : Nat := match pgAt S n with | none => 0 | some p => if p.leaf then 20 else p.keys.length
theorem ok_le {Q : Pg → Prop} {S : List Pg} {d : Nat} {n : Int} {lo hi : Option ByteArray} (h : OkN Q S d n lo hi) : 1 ≤ n ∧ n ≤ S.length := by
  cases d with
  | zero => exact h.elim
  | succ d =>
    obtain ⟨p, h1, _⟩ := h
    exact pgAt_le h1
theorem kids_le {Q : Pg → Prop} {S : List Pg} {d : Nat} {p : Pg} {lo hi : Option ByteArray} (h : OkPg (OkN Q S d) p lo hi) : ∀ n ∈ p.kids, n ≤ S.length := fun n hn => by
  cases hl : p.leaf with
  | true => rw [(h.leaflen hl).2] at hn; cases hn
  | false =>
    obtain ⟨i, hi'⟩ := kids_mem hn
    exact (ok_le (h.kids hl i n hi')).2
/-- The kid where a key belongs: it is there, good; what is beside it lies below or above. -/
theorem kid_there {Q : Pg → Prop} {S : List Pg} {d : Nat} {p : Pg} {lo hi : Option ByteArray} {key : ByteArray} (h : OkPg (OkN Q S d) p lo hi) (hl : p.leaf = false) (hb : inB lo hi key) : p.kids[kidN p key]? = some (p.kids.getD (kidN p key) 0) ∧ kidN p key ≤ p.keys.length ∧ OkN Q S d (p.kids.getD (kidN p key) 0) (loI p.keys (kidN p key) lo) (hiI p.keys (kidN p key) hi) ∧ inB (loI p.keys (kidN p key) lo) (hiI p.keys (kidN p key) hi) key ∧ (∀ x ∈ (p.kids.take (kidN p key)).flatMap (itemsN S d), lessB x.1 key = true) ∧ (∀ x ∈ (p.kids.drop (kidN p key + 1)).flatMap (itemsN S d), lessB key x.1 = true) := by
  have hr := good_rise h.good
  obtain ⟨hv, hk⟩ := h.kidlen hl
  obtain ⟨h0, h1, h2⟩ := kidN_get hr hl key
  have hlt : kidN p key < p.kids.length := by omega
  have e : p.kids[kidN p key]? = some (p.kids.getD (kidN p key) 0) := by rw [List.getD_eq_getElem?_getD, List.getElem?_eq_getElem hlt]; rfl
  have hbk := inB_of_kid (p := p) hr hl hb
  refine ⟨e, h0, h.kids hl _ _ e, hbk, fun x hx => ?_, fun x hx => ?_⟩
  · obtain ⟨n, hn, hx⟩ := List.mem_flatMap.mp hx
    obtain ⟨j, hj, rfl⟩ := List.getElem_of_mem hn
    rw [List.length_take] at hj
    have ej : p.kids[j]? = some (p.kids.take (kidN p key))[j] := by rw [List.getElem_take]; exact List.getElem?_eq_getElem (by omega)
    exact kids_apart hr (show j < kidN p key by omega) h0 (items_bnd (h.kids hl j _ ej) x hx) hbk
  · obtain ⟨n, hn, hx⟩ := List.mem_flatMap.mp hx
    obtain ⟨j, hj, rfl⟩ := List.getElem_of_mem hn
    rw [List.length_drop] at hj
    have ej : p.kids[kidN p key + 1 + j]? = some (p.kids.drop (kidN p key + 1))[j] := by rw [List.getElem_drop]; exact List.getElem?_eq_getElem (by omega)
    exact kids_apart hr (show kidN p key < kidN p key + 1 + j by omega) (by omega) hbk (items_bnd (h.kids hl _ _ ej) x hx)

structure PutOk (Q : Pg → Prop) (ill : Int) (key val : ByteArray) (d : Nat) (n : Int) (lo hi : Option ByteArray) (s s' : Sh) (X : List Pg) (a : Added) : Prop where
  grew : Grew ill s s' X true
  cost : s'.n ≤ s.n + 2 * d
  ok : OkA (OkN Q s'.S d) a lo hi
  items : itemsA (itemsN s'.S d) a = putL (itemsN s.S d n) key val
  flat : a.sp = none → rk s'.S a.n ≤ rk s.S n + 1
  tall : ∀ q, a.sp = some q → 20 ≤ rk s.S n

end Go.Proofs.Ytafeddjcomeniaa
end

/- A key dropped from a good tree. Plain Lean. No program here. Conditions: none. -/
section
namespace Go.Proofs.Ytafeddjcomeniaa
open Go

/-- A branch without its kid i. -/
def lessP (p : Pg) (i : Nat) : Pg := ⟨false, p.keys.take (i - 1) ++ p.keys.drop (i - 1 + 1), [], p.kids.take i ++ p.kids.drop (i + 1)⟩
def turnW (ill : Int) (s : Sh) (p : Pg) (i : Nat) (n : Int) : Sh × Option Int :=
  if n = 0 then
    if (lessP p i).kids.length = 1 then (s, some ((lessP p i).kids.getD 0 0)) else addS ill s (lessP p i)
  else addS ill s ⟨false, p.keys, [], p.kids.set i n⟩
def dropW (ill : Int) (key : ByteArray) : List (Pg × Nat) → Sh → Sh × Option Int
  | [], s => (s, none)
  | (p, i) :: rest, s =>
    match rest with
    | [] => if 1 < p.keys.length then addS ill s (dropP p key) else (s, some 0)
    | _ :: _ =>
      match dropW ill key rest s with
      | (s1, none) => (s1, none)
      | (s1, some n) => turnW ill s1 p i n

def LoLe (lo' lo : Option ByteArray) : Prop := ∀ l', lo' = some l' → ∃ l, lo = some l ∧ lessB l l' = false
def HiLe (hi hi' : Option ByteArray) : Prop := ∀ h', hi' = some h' → ∃ h, hi = some h ∧ lessB h' h = false
theorem LoLe.refl (l : Option ByteArray) : LoLe l l := fun x h => ⟨x, h, lessB_irrefl x⟩
theorem HiLe.refl (l : Option ByteArray) : HiLe l l := fun x h => ⟨x, h, lessB_irrefl x⟩
theorem inB.widen {lo hi lo' hi' : Option ByteArray} {k : ByteArray} (h : inB lo hi k) (h1 : LoLe lo' lo) (h2 : HiLe hi hi') : inB lo' hi' k := by
  refine ⟨fun l' hl => ?_, fun u' hu => ?_⟩
  · obtain ⟨l, e, hle⟩ := h1 l' hl
    exact le_le hle (h.1 l e)
  · obtain ⟨u, e, hle⟩ := h2 u' hu
    exact lt_le (h.2 u e) hle
theorem OkN.widen {Q : Pg → Prop} {S : List Pg} : ∀ {d : Nat} {n : Int} {lo hi lo' hi' : Option ByteArray}, OkN Q S d n lo hi → LoLe lo' lo → HiLe hi hi' → OkN Q S d n lo' hi'
  | 0, _, _, _, _, _, h, _, _ => h.elim
  | _ + 1, _, lo, hi, lo', hi', ⟨p, h1, h2, h3⟩, hl, hh => ⟨p, h1, h2, h3.good, h3.ne, fun k hk => (h3.bnd k hk).widen hl hh, fun hlf i n hn => by
    refine OkN.widen (h3.kids hlf i n hn) ?_ ?_
    · cases i with
      | zero => exact hl
      | succ i => exact LoLe.refl _
    · unfold hiI
      cases p.keys[i]? with
      | some k => exact HiLe.refl _
      | none => exact hh⟩
theorem erase_get {α : Type} (l : List α) {i : Nat} (hi : i ≤ l.length) (j : Nat) : (l.take i ++ l.drop (i + 1))[j]? = if j < i then l[j]? else l[j + 1]? := by
  rw [List.getElem?_append]
  have e : (l.take i).length = i := by rw [List.length_take]; omega
  rw [e]
  split
  case isTrue h => rw [List.getElem?_take, if_pos h]
  case isFalse h =>
    rw [List.getElem?_drop]
    congr 1
    omega
theorem mem_erase {α : Type} {l : List α} {i : Nat} {x : α} (h : x ∈ l.take i ++ l.drop (i + 1)) : x ∈ l := by
  rcases List.mem_append.1 h with h | h
  · exact List.mem_of_mem_take h
  · exact List.mem_of_mem_drop h

/-- A kid less: the others are as good, within wider bounds. -/
theorem less_kids {Q : Pg → Prop} {S : List Pg} {d : Nat} {p : Pg} {lo hi : Option ByteArray} {i : Nat} (h : OkPg (OkN Q S d) p lo hi) (hl : p.leaf = false) (hi' : i ≤ p.keys.length) : ∀ (j : Nat) (n : Int), (lessP p i).kids[j]? = some n → OkN Q S d n (loI (lessP p i).keys j lo) (hiI (lessP p i).keys j hi) := by
  intro j n hj
  have hr := good_rise h.good
  have hkl := (h.kidlen hl).2
  have hne := h.ne
  have hj : (p.kids.take i ++ p.kids.drop (i + 1))[j]? = some n := hj
  rw [erase_get _ (by omega)] at hj
  have gk : ∀ m, (lessP p i).keys[m]? = if m < i - 1 then p.keys[m]? else p.keys[m + 1]? := fun m => erase_get _ (by omega) m
  cases i with
  | zero =>
    rw [if_neg (show ¬ j < 0 by omega)] at hj
    have gk' : ∀ m, (lessP p 0).keys[m]? = p.keys[m + 1]? := fun m => by rw [gk m, if_neg (show ¬ m < 0 - 1 by omega)]
    refine (h.kids hl (j + 1) n hj).widen ?_ ?_
    · cases j with
      | zero =>
        intro l' e
        have hlt : 0 < p.keys.length := by omega
        exact ⟨p.keys[0], List.getElem?_eq_getElem hlt, (h.bnd _ (List.getElem_mem hlt)).1 l' e⟩
      | succ j =>
        have : loI (lessP p 0).keys (j + 1) lo = loI p.keys (j + 1 + 1) lo := gk' j
        rw [this]; exact LoLe.refl _
    · have : hiI (lessP p 0).keys j hi = hiI p.keys (j + 1) hi := by unfold hiI; rw [gk' j]
      rw [this]; exact HiLe.refl _
  | succ m =>
    have gk' : ∀ t, (lessP p (m + 1)).keys[t]? = if t < m then p.keys[t]? else p.keys[t + 1]? := gk
    have hm : m < p.keys.length := by omega
    by_cases c : j < m + 1
    · rw [if_pos c] at hj
      refine (h.kids hl j n hj).widen ?_ ?_
      · cases j with
        | zero => exact LoLe.refl _
        | succ t =>
          have : loI (lessP p (m + 1)).keys (t + 1) lo = loI p.keys (t + 1) lo := (gk' t).trans (if_pos (show t < m by omega))
          rw [this]; exact LoLe.refl _
      · by_cases c2 : j < m
        · have : hiI (lessP p (m + 1)).keys j hi = hiI p.keys j hi := by unfold hiI; rw [gk' j, if_pos c2]
          rw [this]; exact HiLe.refl _
        · obtain rfl : j = m := by omega
          rw [hiI_lt hm]
          intro u hu
          refine ⟨p.keys[j], rfl, ?_⟩
          have e : hiI (lessP p (j + 1)).keys j hi = hiI p.keys (j + 1) hi := by unfold hiI; rw [gk' j, if_neg (Nat.lt_irrefl j)]
          rw [e] at hu
          unfold hiI at hu
          cases e2 : p.keys[j + 1]? with
          | none =>
            rw [e2] at hu
            exact lt_ge ((h.bnd _ (List.getElem_mem hm)).2 u hu)
          | some k =>
            rw [e2] at hu
            cases hu
            exact lt_ge (rise_get hr (Nat.lt_succ_self j) (List.getElem?_eq_getElem hm) e2)
    · rw [if_neg c] at hj
      obtain ⟨t, rfl⟩ : ∃ t, j = t + 1 := ⟨j - 1, by omega⟩
      have e1 : loI (lessP p (m + 1)).keys (t + 1) lo = loI p.keys (t + 1 + 1) lo := (gk' t).trans (if_neg (show ¬ t < m by omega))
      have e2 : hiI (lessP p (m + 1)).keys (t + 1) hi = hiI p.keys (t + 1 + 1) hi := by unfold hiI; rw [gk' (t + 1), if_neg (show ¬ t + 1 < m by omega)]
      rw [e1, e2]
      exact h.kids hl _ n hj
theorem less_len {p : Pg} {i : Nat} (hk : p.kids.length = p.keys.length + 1) (hne : 1 ≤ p.keys.length) (hi' : i ≤ p.keys.length) : (lessP p i).keys.length = p.keys.length - 1 ∧ (lessP p i).kids.length = p.keys.length := by
  refine ⟨?_, ?_⟩
  · show (p.keys.take (i - 1) ++ p.keys.drop (i - 1 + 1)).length = _
    rw [List.length_append, List.length_take, List.length_drop]; omega
  · show (p.kids.take i ++ p.kids.drop (i + 1)).length = _
    rw [List.length_append, List.length_take, List.length_drop]; omega
theorem less_ok {Q : Pg → Prop} {S : List Pg} {d : Nat} {p : Pg} {lo hi : Option ByteArray} {i : Nat} (h : OkPg (OkN Q S d) p lo hi) (hl : p.leaf = false) (hi' : i ≤ p.keys.length) (h2 : 2 ≤ p.keys.length) : OkPg (OkN Q S d) (lessP p i) lo hi := by
  obtain ⟨hv, hk⟩ := h.kidlen hl
  obtain ⟨l1, l2⟩ := less_len hk h.ne hi'
  have hks := good_key_size h.good
  have hkn := good_kid h.good
  refine ⟨good_of (fun s hs => hks s (mem_erase hs)) ?_ (fun s hs => by cases hs) (fun n hn => hkn n (mem_erase hn)) (.inr ⟨rfl, rfl, by rw [l1, l2]; omega⟩), by rw [l1]; omega, fun k hk => h.bnd k (mem_erase hk), fun _ => less_kids h hl hi'⟩
  have hr := good_rise h.good
  unfold Rise at hr ⊢
  have : p.keys = p.keys.take (i - 1) ++ p.keys.drop (i - 1) := (List.take_append_drop _ _).symm
  rw [this] at hr
  refine hr.sublist ?_
  refine List.Sublist.append (List.Sublist.refl _) ?_
  rw [show p.keys.drop (i - 1 + 1) = (p.keys.drop (i - 1)).drop 1 by rw [List.drop_drop]]
  exact List.drop_sublist _ _
theorem less_items {f : Int → List KV} (p : Pg) (i : Nat) : itemsP f (lessP p i) = (p.kids.take i).flatMap f ++ (p.kids.drop (i + 1)).flatMap f := by
  show (p.kids.take i ++ p.kids.drop (i + 1)).flatMap f = _
  rw [List.flatMap_append]
end Go.Proofs.Ytafeddjcomeniaa
end

/- A key dropped along its way. Plain Lean. No program here. Conditions: none. -/
section
namespace Go.Proofs.Ytafeddjcomeniaa
open Go

structure DropOk (Q : Pg → Prop) (ill : Int) (key : ByteArray) (d : Nat) (n : Int) (lo hi : Option ByteArray) (s s' : Sh) (X : List Pg) (r : Int) : Prop where
  grew : Grew ill s s' X true
  cost : s'.n ≤ s.n + d
  none_ : r = 0 → delL (itemsN s.S d n) key = []
  ok : r ≠ 0 → OkN Q s'.S d r lo hi ∧ itemsN s'.S d r = delL (itemsN s.S d n) key
  flat : r ≠ 0 → rk s'.S r ≤ rk s.S n ∨ ∃ d', d = d' + 1 ∧ OkN Q s'.S d' r lo hi

theorem Grew.id (ill : Int) (s : Sh) : Grew ill s s [] true := ⟨by simp, Int.le_refl _, by simp, fun e => (by cases e), fun _ => by omega⟩
theorem Grew.add {ill : Int} {s s1 s2 : Sh} {X : List Pg} {b : Bool} (h1 : Grew ill s s1 X true) (h2 : Grew ill s1 s2 [] b) : Grew ill s s2 X b := by
  have := h1.trans h2
  rwa [List.append_nil] at this

theorem dropP_ok {R : Int → Option ByteArray → Option ByteArray → Prop} {p : Pg} {lo hi : Option ByteArray} {key : ByteArray} (h : OkPg R p lo hi) (hl : p.leaf = true) (hT : thereB p.keys key = true) (f : Int → List KV) : itemsP f (dropP p key) = delL (itemsP f p) key ∧ (dropP p key).leaf = true ∧ (dropP p key).keys.length = p.keys.length - 1 ∧ (1 < p.keys.length → OkPg R (dropP p key) lo hi) := by
  obtain ⟨lf, ks, vs, ns⟩ := p
  obtain rfl : lf = true := hl
  obtain ⟨hvl, hns⟩ := h.leaflen rfl
  have hr : Rise ks := good_rise h.good
  have hks : ∀ s ∈ ks, 1 ≤ s.size ∧ s.size ≤ 40 := good_key_size h.good
  have hvs : ∀ s ∈ vs, s.size ≤ 400 := good_val_size h.good
  have hvl : vs.length = ks.length := hvl
  obtain rfl : ns = [] := hns
  have hT : thereB ks key = true := hT
  have hz := drop_zip key [] ks vs hr hvl
  obtain ⟨hlt, _⟩ := there_get hT
  have e : dropP ⟨true, ks, vs, []⟩ key = ⟨true, ks.take (findN ks key) ++ ks.drop (findN ks key + 1), vs.take (findN ks key) ++ vs.drop (findN ks key + 1), []⟩ := by
    unfold dropP
    simp only [Bool.true_and]
    rw [if_pos hT]
  have hlen : (dropP ⟨true, ks, vs, []⟩ key).keys.length = ks.length - 1 := by
    rw [e]
    show (ks.take (findN ks key) ++ ks.drop (findN ks key + 1)).length = _
    rw [List.length_append, List.length_take, List.length_drop]; omega
  have hlen' : (dropP ⟨true, ks, vs, []⟩ key).vals.length = ks.length - 1 := by
    rw [e]
    show (vs.take (findN ks key) ++ vs.drop (findN ks key + 1)).length = _
    rw [List.length_append, List.length_take, List.length_drop]; omega
  have hkk : (dropP ⟨true, ks, vs, []⟩ key).keys = delK ks key := by rw [e]; unfold delK; rw [if_pos hT]
  have hlf : (dropP ⟨true, ks, vs, []⟩ key).leaf = true := by rw [e]
  have hm : ∀ s ∈ (dropP ⟨true, ks, vs, []⟩ key).keys, s ∈ ks := fun s hs => by rw [e] at hs; exact mem_erase hs
  refine ⟨?_, hlf, hlen, fun h1 => ?_⟩
  · unfold itemsP
    rw [hlf]
    simp only [if_true]
    exact hz
  · refine ⟨good_of (fun s hs => hks s (hm s hs)) (by rw [hkk]; exact del_rise hr key) (fun s hs => ?_) (fun n hn => by rw [e] at hn; cases hn) (.inl ⟨hlf, by rw [hlen, hlen'], by rw [e]⟩), by rw [hlen]; have h1 : 1 < ks.length := h1; omega, fun k hk => h.bnd k (hm k hk), fun hc => by rw [hlf] at hc; cases hc⟩
    rw [e] at hs
    exact hvs s (mem_erase hs)

theorem dropW_ok {Q : Pg → Prop} (ill : Int) {key : ByteArray} (hQ : ∀ p, Q p) :
    ∀ (d : Nat) (n : Int) (lo hi : Option ByteArray) (s : Sh), OkN Q s.S d n lo hi → inB lo hi key → getL (itemsN s.S d n) key ≠ none →
      (∃ x xs, wayN s.S d n key = x :: xs ∧ xs.length + 1 ≤ d) ∧ ((∃ s' X, dropW ill key (wayN s.S d n key) s = (s', none) ∧ Grew ill s s' X false ∧ s'.n ≤ s.n + d) ∨ (∃ s' X r, dropW ill key (wayN s.S d n key) s = (s', some r) ∧ DropOk Q ill key d n lo hi s s' X r)) := by
  intro d
  induction d with
  | zero => intro n lo hi s h; exact h.elim
  | succ d ih =>
    intro n lo hi s h hb hgt
    obtain ⟨p, hp, hq, hpg⟩ := h
    have eway : wayN s.S (d + 1) n key = (p, kidN p key) :: if p.leaf then [] else wayN s.S d (p.kids.getD (kidN p key) 0) key := by rw [wayN]; simp only [hp]
    have eit : itemsN s.S (d + 1) n = itemsP (itemsN s.S d) p := by rw [itemsN]; simp only [hp]
    rw [eway]
    rw [eit] at hgt
    have hr := good_rise hpg.good
    cases hl : p.leaf with
    | true =>
      simp only [if_true]
      refine ⟨⟨_, _, rfl, by simp⟩, ?_⟩
      have hT : thereB p.keys key = true := by
        unfold itemsP at hgt
        rw [hl] at hgt
        simp only [if_true] at hgt
        rw [find_zip key _ _ hr (hpg.leaflen hl).1] at hgt
        cases h : thereB p.keys key with
        | true => rfl
        | false => rw [h] at hgt; exact absurd rfl hgt
      obtain ⟨hi', hlf, hlen, hok⟩ := dropP_ok hpg hl hT (itemsN s.S d)
      have erk : rk s.S n = 20 := by unfold rk; rw [hp]; simp only [hl, if_true]
      have eW : dropW ill key [(p, kidN p key)] s = if 1 < p.keys.length then addS ill s (dropP p key) else (s, some 0) := rfl
      rw [eW]
      by_cases h1 : 1 < p.keys.length
      · rw [if_pos h1]
        have ho := hok h1
        rcases addS_ok ill s (dropP p key) with ⟨s1, e, g, hn⟩ | ⟨s1, e, g, hn⟩
        · exact .inl ⟨s1, _, e, g, by omega⟩
        · refine .inr ⟨s1, _, _, e, g, by omega, fun h0 => by omega, fun _ => ⟨by rw [g.S]; exact OkN.new ho (hQ _), by rw [g.S, items_new ho, hi', eit]⟩, fun _ => .inl ?_⟩
          have : rk s1.S ((s.S.length + 1 : Nat) : Int) = 20 := by unfold rk; rw [g.S, pgAt_new]; simp only [hlf, if_true]
          omega
      · rw [if_neg h1]
        refine .inr ⟨s, _, _, rfl, Grew.id ill s, by omega, fun _ => ?_, fun h0 => absurd rfl h0, fun h0 => absurd rfl h0⟩
        rw [eit, ← hi']
        have : (dropP p key).keys = [] := List.length_eq_zero_iff.1 (by rw [hlen]; omega)
        unfold itemsP
        rw [hlf, this]
        rfl
    | false =>
      simp only [Bool.false_eq_true, if_false]
      obtain ⟨e0, h0, hok, hbk, hA, hC⟩ := kid_there hpg hl hb
      obtain ⟨hv, hkl⟩ := hpg.kidlen hl
      have hki : kidN p key < p.kids.length := by omega
      have eitems := kid_items (f := itemsN s.S d) hl e0
      have hgk : getL (itemsN s.S d (p.kids.getD (kidN p key) 0)) key ≠ none := by
        rw [eitems, getL_ahead hC, getL_behind _ hA] at hgt
        exact hgt
      have edel : delL (itemsP (itemsN s.S d) p) key = (p.kids.take (kidN p key)).flatMap (itemsN s.S d) ++ delL (itemsN s.S d (p.kids.getD (kidN p key) 0)) key ++ (p.kids.drop (kidN p key + 1)).flatMap (itemsN s.S d) := by
        rw [eitems, delL_ahead hC, delL_behind _ hA]
      obtain ⟨⟨x, xs, hx, hxl⟩, hR⟩ := ih _ _ _ s hok hbk hgk
      refine ⟨⟨_, _, rfl, by rw [hx, List.length_cons]; omega⟩, ?_⟩
      have eW : dropW ill key ((p, kidN p key) :: wayN s.S d (p.kids.getD (kidN p key) 0) key) s = match dropW ill key (wayN s.S d (p.kids.getD (kidN p key) 0) key) s with
          | (s1, none) => (s1, none)
          | (s1, some a) => turnW ill s1 p (kidN p key) a := by rw [hx]; rfl
      rw [eW]
      have erk : rk s.S n = p.keys.length := by unfold rk; rw [hp]; simp only [hl, Bool.false_eq_true, if_false]
      rcases hR with ⟨s1, X, e, g, hc⟩ | ⟨s1, X, r, e, H⟩
      · rw [e]
        exact .inl ⟨s1, X, rfl, g, by omega⟩
      · rw [e]
        dsimp only
        have hpg1 : OkPg (OkN Q s1.S d) p lo hi := by rw [H.grew.S]; exact hpg.grow _
        have t1 : (p.kids.take (kidN p key)).flatMap (itemsN s1.S d) = (p.kids.take (kidN p key)).flatMap (itemsN s.S d) :=
          congrArg List.flatten (List.map_congr_left fun m hm => by
            obtain ⟨j, hj⟩ := kids_mem (List.mem_of_mem_take hm)
            rw [H.grew.S]; exact items_grow _ (hpg.kids hl j m hj))
        have t2 : (p.kids.drop (kidN p key + 1)).flatMap (itemsN s1.S d) = (p.kids.drop (kidN p key + 1)).flatMap (itemsN s.S d) :=
          congrArg List.flatten (List.map_congr_left fun m hm => by
            obtain ⟨j, hj⟩ := kids_mem (List.mem_of_mem_drop hm)
            rw [H.grew.S]; exact items_grow _ (hpg.kids hl j m hj))
        unfold turnW
        by_cases hr0 : r = 0
        · rw [if_pos hr0]
          have hd0 := H.none_ hr0
          have eli : itemsP (itemsN s1.S d) (lessP p (kidN p key)) = delL (itemsP (itemsN s.S d) p) key := by
            rw [less_items, t1, t2, edel, hd0, List.append_nil]
          obtain ⟨l1, l2⟩ := less_len hkl hpg.ne h0
          by_cases h1 : (lessP p (kidN p key)).kids.length = 1
          · rw [if_pos h1]
            obtain ⟨m, hm⟩ : ∃ m, (lessP p (kidN p key)).kids = [m] := List.length_eq_one_iff.1 h1
            have hmo := less_kids hpg1 hl h0 0 m (by rw [hm]; rfl)
            have hk0 : (lessP p (kidN p key)).keys = [] := List.length_eq_zero_iff.1 (by rw [l1]; omega)
            rw [hk0] at hmo
            have hmo : OkN Q s1.S d m lo hi := hmo
            have em : (lessP p (kidN p key)).kids.getD 0 0 = m := by rw [hm]; rfl
            rw [em]
            have emi : itemsN s1.S d m = delL (itemsP (itemsN s.S d) p) key := by
              rw [← eli]
              show _ = (lessP p (kidN p key)).kids.flatMap (itemsN s1.S d)
              rw [hm]; simp
            exact .inr ⟨s1, X, m, rfl, H.grew, by have := H.cost; omega, fun h => absurd h (ok_ne hmo), fun _ => ⟨hmo.deep, by rw [items_deep hmo, emi, eit]⟩, fun _ => .inr ⟨d, rfl, hmo⟩⟩
          · rw [if_neg h1]
            have ho := less_ok hpg1 hl h0 (by have := hpg.ne; omega)
            rcases addS_ok ill s1 (lessP p (kidN p key)) with ⟨s2, e, g, hn⟩ | ⟨s2, e, g, hn⟩
            · exact .inl ⟨s2, _, e, H.grew.trans g, by have := H.cost; omega⟩
            · refine .inr ⟨s2, _, _, e, H.grew.trans g, by have := H.cost; omega, fun h => by omega, fun _ => ⟨by rw [g.S]; exact OkN.new ho (hQ _), by rw [g.S, items_new ho, eli, eit]⟩, fun _ => .inl ?_⟩
              have : rk s2.S ((s1.S.length + 1 : Nat) : Int) = (lessP p (kidN p key)).keys.length := by
                unfold rk
                rw [g.S, pgAt_new]
                rfl
              omega
        · rw [if_neg hr0]
          obtain ⟨hok1, hit1⟩ := H.ok hr0
          have hoA : OkA (OkN Q s1.S d) ⟨r, none⟩ (loI p.keys (kidN p key) lo) (hiI p.keys (kidN p key) hi) := hok1
          have ho := updP_ok hpg1 hl h0 hoA
          have ei : itemsP (itemsN s1.S d) (updP p (kidN p key) ⟨r, none⟩) = delL (itemsP (itemsN s.S d) p) key := by
            rw [updP_items hki, t1, t2, edel]
            show _ ++ itemsN s1.S d r ++ _ = _
            rw [hit1]
          have eu : updP p (kidN p key) ⟨r, none⟩ = ⟨false, p.keys, [], p.kids.set (kidN p key) r⟩ := rfl
          rw [← eu]
          rcases addS_ok ill s1 (updP p (kidN p key) ⟨r, none⟩) with ⟨s2, e, g, hn⟩ | ⟨s2, e, g, hn⟩
          · exact .inl ⟨s2, _, e, H.grew.trans g, by have := H.cost; omega⟩
          · refine .inr ⟨s2, _, _, e, H.grew.trans g, by have := H.cost; omega, fun h => by omega, fun _ => ⟨by rw [g.S]; exact OkN.new ho (hQ _), by rw [g.S, items_new ho, ei, eit]⟩, fun _ => .inl ?_⟩
            have : rk s2.S ((s1.S.length + 1 : Nat) : Int) = p.keys.length := by
              unfold rk
              rw [g.S, pgAt_new]
              rfl
            omega
end Go.Proofs.Ytafeddjcomeniaa
end

/- A range of items, collected kid by kid, key by key. Plain Lean. No program here. Conditions: none. -/
section
namespace Go.Proofs.Ytafeddjcomeniaa
open Go

def inR (a b k : ByteArray) : Bool := !lessB k a && (decide (b.size = 0) || lessB k b)
def filt (a b : ByteArray) (l : List KV) : List KV := l.filter fun x => inR a b x.1
/-- What is collected, with what a part adds. -/
def more (a b : ByteArray) (most : Nat) (l A : List KV) : List KV := l ++ (filt a b A).take (most - l.length)
theorem more_app (a b : ByteArray) (most : Nat) (l A B : List KV) : more a b most l (A ++ B) = more a b most (more a b most l A) B := by
  unfold more filt
  rw [List.filter_append, List.take_append, List.append_assoc, List.length_append, List.length_take]
  congr 3
  omega
theorem more_skip {a b : ByteArray} {most : Nat} {l A : List KV} (h : ∀ x ∈ A, inR a b x.1 = false) : more a b most l A = l := by
  unfold more filt
  rw [List.filter_eq_nil_iff.2 (fun x hx => by simp [h x hx])]
  simp
theorem more_done {a b : ByteArray} {most : Nat} {l A : List KV} (h : most ≤ l.length) : more a b most l A = l := by
  unfold more
  rw [show most - l.length = 0 by omega]
  simp
theorem more_one {a b : ByteArray} {most : Nat} {l : List KV} {x : KV} (h : l.length < most) (hx : inR a b x.1 = true) : more a b most l [x] = l ++ [x] := by
  unfold more filt
  rw [List.filter_cons_of_pos (by exact hx), List.filter_nil, List.take_of_length_le (by rw [List.length_singleton]; omega)]
theorem inR_low {a b k : ByteArray} (h : lessB k a = true) : inR a b k = false := by unfold inR; rw [h]; rfl
theorem inR_high {a b k : ByteArray} (h : b.size ≠ 0) (hk : lessB k b = false) : inR a b k = false := by
  unfold inR
  rw [hk, decide_eq_false h]
  simp
theorem inR_in {a b k : ByteArray} (h : lessB k a = false) (hk : b.size = 0 ∨ lessB k b = true) : inR a b k = true := by
  unfold inR
  rw [h]
  rcases hk with hk | hk
  · rw [decide_eq_true hk]; rfl
  · rw [hk]; simp

/-! A leaf. -/
theorem zip_get {ks vs : List ByteArray} (h : vs.length = ks.length) {j : Nat} (hj : j < ks.length) : (ks.zip vs).drop j = (ks[j], vs[j]) :: (ks.zip vs).drop (j + 1) := by
  have : j < (ks.zip vs).length := by rw [List.length_zip]; omega
  rw [List.drop_eq_getElem_cons this, List.getElem_zip]
theorem mem_zip_drop {ks vs : List ByteArray} {j : Nat} {x : KV} (h : x ∈ (ks.zip vs).drop j) : ∃ i, j ≤ i ∧ ks[i]? = some x.1 := by
  obtain ⟨i, hi, rfl⟩ := List.getElem_of_mem h
  rw [List.length_drop, List.length_zip] at hi
  refine ⟨j + i, by omega, ?_⟩
  rw [List.getElem_drop, List.getElem_zip]
  exact List.getElem?_eq_getElem (by omega)
theorem mem_zip_take {ks vs : List ByteArray} {j : Nat} {x : KV} (h : x ∈ (ks.zip vs).take j) : ∃ i, i < j ∧ ks[i]? = some x.1 := by
  obtain ⟨i, hi, rfl⟩ := List.getElem_of_mem h
  rw [List.length_take, List.length_zip] at hi
  refine ⟨i, by omega, ?_⟩
  rw [List.getElem_take, List.getElem_zip]
  exact List.getElem?_eq_getElem (by omega)
theorem leaf_start {ks vs : List ByteArray} (a b : ByteArray) (most : Nat) (l : List KV) : more a b most l (ks.zip vs) = more a b most l ((ks.zip vs).drop (findN ks a)) := by
  conv => lhs; rw [← List.take_append_drop (findN ks a) (ks.zip vs), more_app]
  congr 1
  refine more_skip fun x hx => inR_low ?_
  obtain ⟨i, hi, e⟩ := mem_zip_take hx
  have := findN_before a ks i hi
  rw [List.getD_eq_getElem?_getD, e] at this
  exact this
theorem leaf_step {ks vs : List ByteArray} (hr : Rise ks) (hv : vs.length = ks.length) {a b : ByteArray} {most : Nat} {l : List KV} {j : Nat} (h1 : findN ks a ≤ j) (h2 : j < ks.length) (h3 : l.length < most) (h4 : b.size = 0 ∨ lessB ks[j] b = true) : more a b most l ((ks.zip vs).drop j) = more a b most (l ++ [(ks[j], vs[j])]) ((ks.zip vs).drop (j + 1)) := by
  rw [zip_get hv h2, ← List.singleton_append, more_app, more_one h3]
  refine inR_in ?_ h4
  have := findN_behind hr a h1 h2
  rw [List.getD_eq_getElem?_getD, List.getElem?_eq_getElem h2] at this
  exact this
theorem leaf_stop {ks vs : List ByteArray} (hr : Rise ks) {a b : ByteArray} {most : Nat} {l : List KV} {j : Nat} (h2 : j < ks.length) (h3 : b.size ≠ 0) (h4 : lessB ks[j] b = false) : more a b most l ((ks.zip vs).drop j) = l := by
  refine more_skip fun x hx => inR_high h3 ?_
  obtain ⟨i, hi, e⟩ := mem_zip_drop hx
  rcases Nat.eq_or_lt_of_le hi with rfl | hlt
  · rw [List.getElem?_eq_getElem h2] at e
    rw [← Option.some.inj e]
    exact h4
  · have := rise_get hr hlt (List.getElem?_eq_getElem h2) e
    exact le_le h4 (lt_ge this)
theorem leaf_end {ks vs : List ByteArray} {a b : ByteArray} {most : Nat} {l : List KV} {j : Nat} (h2 : ks.length ≤ j) : more a b most l ((ks.zip vs).drop j) = l := by
  rw [List.drop_eq_nil_of_le (by rw [List.length_zip]; omega)]
  exact more_skip fun x hx => by cases hx

/-! A branch. -/
theorem kids_start {Q : Pg → Prop} {S : List Pg} {d : Nat} {p : Pg} {lo hi : Option ByteArray} (h : OkPg (OkN Q S d) p lo hi) (hl : p.leaf = false) (a b : ByteArray) (most : Nat) (l : List KV) : more a b most l (p.kids.flatMap (itemsN S d)) = more a b most l ((p.kids.drop (kidN p a)).flatMap (itemsN S d)) := by
  have hr := good_rise h.good
  have e : p.kids.flatMap (itemsN S d) = (p.kids.take (kidN p a)).flatMap (itemsN S d) ++ (p.kids.drop (kidN p a)).flatMap (itemsN S d) := by rw [← List.flatMap_append, List.take_append_drop]
  rw [e, more_app]
  congr 1
  refine more_skip fun x hx => inR_low ?_
  obtain ⟨n, hn, hx⟩ := List.mem_flatMap.mp hx
  obtain ⟨j, hj, rfl⟩ := List.getElem_of_mem hn
  rw [List.length_take] at hj
  have ej : p.kids[j]? = some (p.kids.take (kidN p a))[j] := by rw [List.getElem_take]; exact List.getElem?_eq_getElem (by omega)
  obtain ⟨h0, h1, h2⟩ := kidN_get hr hl a
  have hjk : j < p.keys.length := by omega
  have hx' := (items_bnd (h.kids hl j _ ej) x hx).2 _ (hiI_lt hjk)
  exact lt_le hx' (h1 j _ (by omega) (List.getElem?_eq_getElem hjk))
theorem kids_step {f : Int → List KV} {ns : List Int} {a b : ByteArray} {most : Nat} {l : List KV} {j : Nat} (hj : j < ns.length) : more a b most l ((ns.drop j).flatMap f) = more a b most (more a b most l (f ns[j])) ((ns.drop (j + 1)).flatMap f) := by
  rw [List.drop_eq_getElem_cons hj, List.flatMap_cons, more_app]
theorem kids_stop {Q : Pg → Prop} {S : List Pg} {d : Nat} {p : Pg} {lo hi : Option ByteArray} (h : OkPg (OkN Q S d) p lo hi) (hl : p.leaf = false) {a b : ByteArray} {most : Nat} {l : List KV} {j : Nat} (h1 : 0 < j) {q : ByteArray} (hq : p.keys[j - 1]? = some q) (h3 : b.size ≠ 0) (h4 : lessB q b = false) : more a b most l ((p.kids.drop j).flatMap (itemsN S d)) = l := by
  have hr := good_rise h.good
  have hk := (h.kidlen hl).2
  refine more_skip fun x hx => inR_high h3 ?_
  obtain ⟨n, hn, hx⟩ := List.mem_flatMap.mp hx
  obtain ⟨i, hi', rfl⟩ := List.getElem_of_mem hn
  rw [List.length_drop] at hi'
  have ej : p.kids[j + i]? = some (p.kids.drop j)[i] := by rw [List.getElem_drop]; exact List.getElem?_eq_getElem (by omega)
  have hb := (items_bnd (h.kids hl (j + i) _ ej) x hx).1
  obtain ⟨m, hm⟩ : ∃ m, j + i = m + 1 := ⟨j + i - 1, by omega⟩
  have hml : m < p.keys.length := by omega
  have e : loI p.keys (j + i) lo = some p.keys[m] := by rw [hm]; exact List.getElem?_eq_getElem hml
  have hx1 := hb _ e
  have hqm : lessB p.keys[m] q = false := by
    rcases Nat.lt_or_ge (j - 1) m with c | c
    · exact lt_ge (rise_get hr c hq (List.getElem?_eq_getElem hml))
    · obtain rfl : m = j - 1 := by omega
      rw [List.getElem?_eq_getElem hml] at hq
      cases hq
      exact lessB_irrefl _
  exact le_le h4 (le_le hqm hx1)
end Go.Proofs.Ytafeddjcomeniaa
end

/- A tree as a map: put, drop, find; how deep, how many pages. Plain Lean. No program here. Conditions: none. -/
section
namespace Go.Proofs.Ytafeddjcomeniaa
open Go

/-! How many pages. -/
def nodesN (S : List Pg) : Nat → Int → Nat
  | 0, _ => 0
  | d + 1, n => match pgAt S n with
    | none => 0
    | some p => 1 + (p.kids.map (nodesN S d)).sum
theorem sum_nodes {f : Int → Nat} {g : Int → List KV} : ∀ l : List Int, (∀ n ∈ l, f n + 1 ≤ 2 * (g n).length) → (l.map f).sum + l.length ≤ 2 * (l.flatMap g).length
  | [], _ => by simp
  | n :: l, h => by
    have ih := sum_nodes l fun m hm => h m (List.mem_cons_of_mem _ hm)
    have := h n List.mem_cons_self
    simp only [List.map_cons, List.sum_cons, List.length_cons, List.flatMap_cons, List.length_append]
    omega
theorem nodes_le {Q : Pg → Prop} {S : List Pg} : ∀ {d : Nat} {n : Int} {lo hi : Option ByteArray}, OkN Q S d n lo hi → nodesN S d n + 1 ≤ 2 * (itemsN S d n).length
  | 0, _, _, _, h => h.elim
  | d + 1, n, lo, hi, ⟨p, h1, h2, h3⟩ => by
    rw [nodesN, itemsN]
    simp only [h1]
    unfold itemsP
    cases hl : p.leaf with
    | true =>
      simp only [if_true]
      obtain ⟨hv, hk⟩ := h3.leaflen hl
      rw [hk, List.length_zip, hv]
      have := h3.ne
      simp only [List.map_nil, List.sum_nil]
      omega
    | false =>
      simp only [Bool.false_eq_true, if_false]
      have hk := (h3.kidlen hl).2
      have := sum_nodes (f := nodesN S d) (g := itemsN S d) p.kids fun m hm => by
        obtain ⟨i, hi'⟩ := kids_mem hm
        exact nodes_le (h3.kids hl i m hi')
      have := h3.ne
      omega

/-! A whole tree: no bounds; root 0 is none. -/
def everyP : Pg → Prop := fun _ => True
/-- A map after k changes. -/
structure Tree (Q : Pg → Prop) (S : List Pg) (k : Nat) (r : Int) (l : List KV) : Prop where
  few : l.length ≤ k
  none_ : r = 0 → l = []
  some_ : r ≠ 0 → ∃ d, OkN Q S d r none none ∧ itemsN S d r = l ∧ 20 * d + min (rk S r) 20 ≤ 40 + k
theorem inB_all (k : ByteArray) : inB none none k := ⟨fun _ h => by (cases h), fun _ h => by (cases h)⟩
theorem rk_grow {Q : Pg → Prop} {S : List Pg} {d : Nat} {n : Int} {lo hi : Option ByteArray} (h : OkN Q S d n lo hi) (X : List Pg) : rk (S ++ X) n = rk S n := by
  cases d with
  | zero => exact h.elim
  | succ d =>
    obtain ⟨p, h1, _⟩ := h
    unfold rk
    rw [pgAt_app h1 X, h1]
theorem Tree.grow {Q : Pg → Prop} {S : List Pg} {k : Nat} {r : Int} {l : List KV} (h : Tree Q S k r l) (X : List Pg) : Tree Q (S ++ X) k r l :=
  ⟨h.few, h.none_, fun h0 => by
    obtain ⟨d, h1, h2, h3⟩ := h.some_ h0
    exact ⟨d, h1.grow X, by rw [items_grow X h1, h2], by rw [rk_grow h1 X]; exact h3⟩⟩
theorem Tree.more {Q : Pg → Prop} {S : List Pg} {k k' : Nat} {r : Int} {l : List KV} (h : Tree Q S k r l) (hk : k ≤ k') : Tree Q S k' r l :=
  ⟨by have := h.few; omega, h.none_, fun h0 => by
    obtain ⟨d, h1, h2, h3⟩ := h.some_ h0
    exact ⟨d, h1, h2, by omega⟩⟩
theorem Tree.sort {Q : Pg → Prop} {S : List Pg} {k : Nat} {r : Int} {l : List KV} (h : Tree Q S k r l) : SortK l := by
  by_cases h0 : r = 0
  · rw [h.none_ h0]; exact List.Pairwise.nil
  · obtain ⟨d, h1, h2, _⟩ := h.some_ h0
    rw [← h2]; exact items_sort h1
/-- A leaf is one deep. -/
theorem ok_one {Q : Pg → Prop} {S : List Pg} {d : Nat} {n : Int} {lo hi : Option ByteArray} {p : Pg} (h : OkN Q S d n lo hi) (hp : pgAt S n = some p) (hl : p.leaf = true) : OkN Q S 1 n lo hi ∧ itemsN S 1 n = itemsN S d n := by
  cases d with
  | zero => exact h.elim
  | succ d =>
    obtain ⟨q, h1, h2, h3⟩ := h
    rw [hp] at h1
    cases h1
    refine ⟨⟨p, hp, h2, h3.good, h3.ne, h3.bnd, fun e => by rw [hl] at e; cases e⟩, ?_⟩
    rw [itemsN, itemsN]
    simp only [hp]
    unfold itemsP
    rw [hl]
    rfl
/-- The depth to be taken: a leaf's is 1. -/
theorem Tree.deep {Q : Pg → Prop} {S : List Pg} {k : Nat} {r : Int} {l : List KV} (h : Tree Q S k r l) (h0 : r ≠ 0) : ∃ d, OkN Q S d r none none ∧ itemsN S d r = l ∧ 20 * d + min (rk S r) 20 ≤ 40 + k ∧ (∀ p, pgAt S r = some p → p.leaf = true → d = 1) := by
  obtain ⟨d, h1, h2, h3⟩ := h.some_ h0
  cases d with
  | zero => exact h1.elim
  | succ d =>
    have h1' := h1
    obtain ⟨p, hp, _⟩ := h1'
    cases hl : p.leaf with
    | true =>
      obtain ⟨a, b⟩ := ok_one h1 hp hl
      have e : rk S r = 20 := by unfold rk; rw [hp]; simp only [hl, if_true]
      exact ⟨1, a, by rw [b, h2], by omega, fun _ _ _ => rfl⟩
    | false =>
      refine ⟨d + 1, h1, h2, h3, fun q hq hl' => ?_⟩
      rw [hp] at hq
      cases hq
      rw [hl] at hl'
      cases hl'
end Go.Proofs.Ytafeddjcomeniaa
end

/- tree.way: the pages from a root to a leaf. Conditions: the shelf lies in memory; the tree is good. -/
section
namespace Go.Proofs.Ytafeddjcomeniaa
open Go.RowKit
set_option linter.unusedVariables false
set_option linter.unusedSimpArgs false

theorem flatz_get {z : Nat} : ∀ (L : List (Array Value)) (h : ∀ cs ∈ L, cs.size = z) (i : Nat) (cs : Array Value), L[i]? = some cs → ∀ j, j < z → (L.flatMap Array.toList)[i * z + j]? = cs[j]?
  | [], _, i, cs, hi, _, _ => by simp at hi
  | a :: L, h, 0, cs, hi, j, hj => by
    cases hi
    have h1 := h a List.mem_cons_self
    rw [List.flatMap_cons, Nat.zero_mul, Nat.zero_add, List.getElem?_append_left (by rw [Array.length_toList]; omega), Array.getElem?_toList]
  | a :: L, h, i + 1, cs, hi, j, hj => by
    have h1 := h a List.mem_cons_self
    rw [List.flatMap_cons, Nat.succ_mul, List.getElem?_append_right (by rw [Array.length_toList]; omega), Array.length_toList, h1, show i * z + z + j - z = i * z + j by omega]
    exact flatz_get L (fun cs hc => h cs (List.mem_cons_of_mem _ hc)) i cs (by simpa using hi) j hj
/-- A step's cells. -/
def StepC (w : World) (x : Pg × Nat) (c : Array Value) : Prop := ∃ A1 c1 A2 c2 A3 c3, c = #[.bool x.1.leaf, .slice A1 x.1.keys.length c1, .slice A2 x.1.vals.length c2, .slice A3 x.1.kids.length c3, .int .i64 (x.2 : Nat)] ∧ PgA w A1 c1 A2 c2 A3 c3 x.1
theorem StepC.sm {w w' : World} {x : Pg × Nat} {c : Array Value} (h : StepC w x c) (k : Sm w w') : StepC w' x c := by
  obtain ⟨A1, c1, A2, c2, A3, c3, e, h⟩ := h
  exact ⟨A1, c1, A2, c2, A3, c3, e, h.sm k⟩
theorem StepC.size {w : World} {x : Pg × Nat} {c : Array Value} (h : StepC w x c) : c.size = 5 := by
  obtain ⟨A1, c1, A2, c2, A3, c3, rfl, _⟩ := h; rfl
/-- Steps in a row of one's own. -/
def StepsAt (B : Nat) (w : World) (v : Value) (l : List (Pg × Nat)) : Prop :=
  ∃ L : List (Array Value), w.ownsRow B 89 5 v l.length (L.flatMap Array.toList) ∧ L.length = l.length ∧ ∀ (i : Nat) c x, L[i]? = some c → l[i]? = some x → StepC w x c
theorem cinfo_step : (Try.prog.info? 89).map (fun i => (i.zero, i.size, i.bytes)) = some (some (.agg #[.bool false, .slice none 0 0, .slice none 0 0, .slice none 0 0, .int .i64 0]), 5, 88) := by kernel_rfl
section
variable {B : Nat} {w w' : World} {v : Value} {l : List (Pg × Nat)}
theorem StepsAt.keep (h : StepsAt B w v l) (hk : ∀ g cs, Blk w g 89 cs → Blk w' g 89 cs) (hm : Sm w w') : StepsAt B w' v l := by
  obtain ⟨L, h1, h2, h3⟩ := h
  refine ⟨L, ⟨h1.1, ?_⟩, h2, fun i c x hc hx => (h3 i c x hc hx).sm hm⟩
  rcases h1.2 with e | ⟨g, cap, cur, e, hg, hb, r⟩
  · exact .inl e
  · exact .inr ⟨g, cap, cur, e, hg, hk g cur hb, r⟩
theorem StepsAt.later (h : StepsAt B w v l) (hl : Later w w') : StepsAt B w' v l := h.keep (fun g cs x => x.below hl x.lt) (Sm.later hl)
theorem StepsAt.kept {S : Nat → Prop} (h : StepsAt B w v l) (hk : DKept S w w') (hm : Sm w w') (hS : ∀ g, S g → ∀ cs, ¬ Blk w g 89 cs) : StepsAt B w' v l := h.keep (fun g cs x => hk.blk x fun hs => hS g hs cs x) hm
/-- A step that is there. -/
theorem StepsAt.get (h : StepsAt B w v l) {i : Nat} {x : Pg × Nat} (hi : l[i]? = some x) : ∃ g cap c, v = .slice (some ⟨g, 0, none⟩) l.length cap ∧ B ≤ g ∧ l.length ≤ cap ∧ (∃ cur, Blk w g 89 cur) ∧ StepC w x c ∧ ∀ j, j < 5 → w.cell? ⟨g, i * 5 + j, none⟩ = c[j]? := by
  obtain ⟨L, h1, h2, h3⟩ := h
  have hil := (List.getElem?_eq_some_iff.1 hi).1
  have hiL : i < L.length := by omega
  have h5 : ∀ c ∈ L, c.size = 5 := fun c hc => by
    obtain ⟨k, hk, rfl⟩ := List.getElem_of_mem hc
    exact (h3 k _ _ (List.getElem?_eq_getElem hk) (List.getElem?_eq_getElem (h2 ▸ hk))).size
  rcases h1.2 with ⟨_, e⟩ | ⟨g, cap, cur, e, hg, hb, hc, hm, hs, ht⟩
  · omega
  · refine ⟨g, cap, L[i], e, hg, hc, ⟨cur, hb⟩, h3 i _ _ (List.getElem?_eq_getElem hiL) hi, fun j hj => ?_⟩
    have hb : Blk w g 89 cur := hb
    rw [hb.cell, ← Array.getElem?_toList, ← flatz_get L h5 i _ (List.getElem?_eq_getElem hiL) j hj, ← ht, List.getElem?_take, if_pos (by omega)]
theorem StepsAt.app {w1 : World} {v' : Value} {x : Pg × Nat} {c : Array Value} {L : List (Array Value)} (hL : L.length = l.length) (hr : ∀ (i : Nat) c x, L[i]? = some c → l[i]? = some x → StepC w x c) (hm : Sm w w1) (hx : StepC w1 x c) (ho : w1.ownsRow B 89 5 v' (l.length + 1) (L.flatMap Array.toList ++ c.toList)) : StepsAt B w1 v' (l ++ [x]) := by
  refine ⟨L ++ [c], by rw [List.length_append, List.length_singleton, List.flatMap_append]; simpa using ho, by rw [List.length_append, List.length_append, hL]; rfl, fun i c' y hi hy => ?_⟩
  rcases Nat.lt_or_ge i L.length with h | h
  · rw [List.getElem?_append_left h] at hi
    rw [List.getElem?_append_left (by omega)] at hy
    exact (hr i c' y hi hy).sm hm
  · have e : i = L.length := by
      have := (List.getElem?_eq_some_iff.1 hi).1
      simp at this
      omega
    subst e
    rw [List.getElem?_append_right (Nat.le_refl _), Nat.sub_self] at hi
    rw [List.getElem?_append_right (by omega), hL, Nat.sub_self] at hy
    cases hi; cases hy
    exact hx
end
theorem far_reader : Far 104 := ⟨by decide, by decide, by decide, by decide⟩
theorem far_step : Far 89 := ⟨by decide, by decide, by decide, by decide⟩

/-- What a good page of the tree is to the functions of page. -/
structure QOk (Q : Pg → Prop) : Prop where
  ok : ∀ p, Q p → goodB p = true → p.keys.length ≤ 1000
theorem ok_pg {R : Int → Option ByteArray → Option ByteArray → Prop} {p : Pg} {lo hi : Option ByteArray} (h : OkPg R p lo hi) (hf : p.keys.length ≤ 1000) (hn : ∀ n ∈ p.kids, n ≤ 100000) (hpos : ∀ n ∈ p.kids, 1 ≤ n) : Ok p :=
  ⟨h.good, hf, fun n hm => by have := hn n hm; have := hpos n hm; omega⟩
/-- What way answers. -/
def WayPost (B b : Nat) (ill : Int) (s : Sh) (v : Value) (l : List (Pg × Nat)) (w : World) (e : Ending) (w' : World) : Prop :=
  ((s.n < ill ∧ ill ≤ s.n + l.length ∧ e = .returned (.tuple #[.slice none 0 0, .int .i64 4]) ∧ ShAt B w' b ill ⟨s.S, ill⟩ v) ∨
   ((ill ≤ s.n ∨ s.n + l.length < ill) ∧ ∃ lv, e = .returned (.tuple #[lv, .int .i64 0]) ∧ StepsAt w.heap.size w' lv l ∧ ShAt B w' b ill ⟨s.S, s.n + l.length⟩ v)) ∧ DKept (fun k => k = b) w w' ∧ Sm w w'
end Go.Proofs.Ytafeddjcomeniaa
end

/- tree.way, walked. Conditions: the shelf lies in memory; the tree is good, at most 20 deep, with few items. -/
section
namespace Go.Proofs.Ytafeddjcomeniaa
open Go.RowKit
set_option linter.unusedVariables false
set_option linter.unusedSimpArgs false

theorem own_two {w : World} {B B' n n' z z' : Nat} {T T' : TypeId} {v v' : Value} {xs xs' : List Value} (h : w.ownsRow B T z v n xs) (h' : w.ownsRow B' T' z' v' n' xs') (hT : T ≠ T') {k : Nat} (hk : v.ownBlock = some k) : v'.ownBlock ≠ some k := fun hk' => by
  rcases h.2 with ⟨rfl, _⟩ | ⟨g, cap, cur, rfl, _, hh, _⟩
  · simp [Value.ownBlock] at hk
  · have e1 : g = k := by simpa [Value.ownBlock] using hk
    subst e1
    exact own_blk' h' (show Blk w g T cur from hh) hT.symm hk'
theorem items_pos {Q : Pg → Prop} {S : List Pg} {d : Nat} {n : Int} {lo hi : Option ByteArray} (h : OkN Q S d n lo hi) : 1 ≤ (itemsN S d n).length := by
  have := nodes_le h; omega
theorem flat_ge {f : Int → List KV} : ∀ l : List Int, (∀ n ∈ l, 1 ≤ (f n).length) → l.length ≤ (l.flatMap f).length
  | [], _ => by simp
  | n :: l, h => by
    have := flat_ge l fun m hm => h m (List.mem_cons_of_mem _ hm)
    have := h n List.mem_cons_self
    rw [List.flatMap_cons, List.length_append, List.length_cons]; omega
theorem ok_keys {Q : Pg → Prop} {S : List Pg} {d : Nat} {p : Pg} {lo hi : Option ByteArray} (h : OkPg (OkN Q S d) p lo hi) : p.keys.length ≤ (itemsP (itemsN S d) p).length := by
  unfold itemsP
  cases hl : p.leaf with
  | true =>
    have := (h.leaflen hl).1
    simp only [if_true, List.length_zip]; omega
  | false =>
    have hk := (h.kidlen hl).2
    have := flat_ge (f := itemsN S d) p.kids fun m hm => by
      obtain ⟨i, hi'⟩ := kids_mem hm
      exact items_pos (h.kids hl i m hi')
    simp only [Bool.false_eq_true, if_false]; omega
theorem kid_few {f : Int → List KV} {p : Pg} (hl : p.leaf = false) {i : Nat} {n : Int} (hn : p.kids[i]? = some n) : (f n).length ≤ (itemsP f p).length := by
  rw [kid_items (f := f) hl hn, List.length_append, List.length_append]; omega
theorem pg_ok {Q : Pg → Prop} {S : List Pg} {d : Nat} {p : Pg} {lo hi : Option ByteArray} (h : OkPg (OkN Q S d) p lo hi) (hi' : (itemsP (itemsN S d) p).length ≤ 1000) (hS : S.length ≤ 100000) : Ok p :=
  ok_pg h (by have := ok_keys h; omega) (fun n hn => by have := kids_le h n hn; omega) (fun n hn => by
    cases hl : p.leaf with
    | true => rw [(h.leaflen hl).2] at hn; cases hn
    | false =>
      obtain ⟨i, hi2⟩ := kids_mem hn
      exact (ok_le (h.kids hl i n hi2)).1)
theorem way_len {S : List Pg} {key : ByteArray} : ∀ (d : Nat) (n : Int), (wayN S d n key).length ≤ d
  | 0, _ => Nat.le_refl _
  | d + 1, n => by
    rw [wayN]
    cases pgAt S n with
    | none => simp
    | some p =>
      have h := way_len (S := S) (key := key) d (p.kids.getD (kidN p key) 0)
      show (((p, kidN p key) :: if p.leaf then [] else wayN S d (p.kids.getD (kidN p key) 0) key) : List (Pg × Nat)).length ≤ d + 1
      generalize wayN S d (p.kids.getD (kidN p key) 0) key = X at *
      cases p.leaf with
      | true => simp
      | false => simpa using h
theorem way_ok {Q : Pg → Prop} {S : List Pg} {key : ByteArray} (hS : S.length ≤ 100000) : ∀ {d : Nat} {n : Int} {lo hi : Option ByteArray}, OkN Q S d n lo hi → inB lo hi key → (itemsN S d n).length ≤ 1000 → ∀ x ∈ wayN S d n key, Ok x.1
  | 0, _, _, _, h, _, _ => h.elim
  | d + 1, n, lo, hi, ⟨p, h1, h2, h3⟩, hb, hi' => by
    rw [itemsN] at hi'
    simp only [h1] at hi'
    have hp := pg_ok h3 hi' hS
    intro x hx
    rw [wayN] at hx
    simp only [h1] at hx
    rcases List.mem_cons.1 hx with rfl | hx
    · exact hp
    · cases hl : p.leaf with
      | true => rw [hl] at hx; cases hx
      | false =>
        rw [hl] at hx
        simp only [Bool.false_eq_true, if_false] at hx
        obtain ⟨e0, _, hok, hbk, _, _⟩ := kid_there h3 hl hb
        have := kid_few (f := itemsN S d) hl e0
        exact way_ok hS hok hbk (by omega) x hx
set_option maxRecDepth 100000 in
set_option maxHeartbeats 16000000 in
theorem way_any {Q : Pg → Prop} {B b : Nat} {w : World} {ill : Int} {s : Sh} {v : Value} {root : Int} {d : Nat} {lo hi : Option ByteArray} {key : ByteArray} (h : ShAt B w b ill s v) (hn : 0 ≤ s.n) (hn2 : s.n < 1000000000) (hl : s.S.length ≤ 100000)
    (ht : OkN Q s.S d root lo hi) (hk : inB lo hi key) (hi' : (itemsN s.S d root).length ≤ 1000) (hd : d ≤ 20) :
    Calls Try.prog 30 #[shV b, .int .u64 root, .string key] w (WayPost B b ill s v (wayN s.S d root key) w) := by
  obtain ⟨FULL, hF⟩ : ∃ F, F = wayN s.S d root key := ⟨_, rfl⟩
  rw [← hF]
  obtain ⟨W0, hW0⟩ : ∃ W0, W0 = w.alloc (.cells #[shV b, .int .i64 0] 104) := ⟨_, rfl⟩
  have hb0 : Below w.heap.size w W0 := by rw [hW0]; exact below_new _ _
  have kr : Blk W0 w.heap.size 104 #[shV b, .int .i64 0] := by rw [hW0]; exact Blk.new _ _ _
  have h0 := h.later (show Later w W0 from hb0)
  obtain ⟨g, hg⟩ : ∃ g, g = w.heap.size := ⟨_, rfl⟩
  rw [← hg] at kr
  have HKR := Lib.hid kr
  have HG := Lib.hid hg
  have H0 := Lib.hid h0
  have HK0 : Hid (DKept (fun k => k = b) w W0) := Lib.hid (DKept.of_below hb0)
  have HM0 := Lib.hid (Sm.below hb0)
  have HW0 := Lib.hid hW0
  have HF := Lib.hid hF
  have HT : Hid (OkN Q s.S d root lo hi ∧ inB lo hi key ∧ (itemsN s.S d root).length ≤ 1000 ∧ d + ([] : List (Pg × Nat)).length ≤ 20) := Lib.hid ⟨ht, hk, hi', by simpa using hd⟩
  have HLB : Hid (b < w.heap.size) := Lib.hid h.blk.lt
  clear h hW0 hb0 kr h0 hg ht hk hi' hF hd
  unfold shV at *
  go_enter Try.func30, Try.ntmps30
  go_wp2_with fail
  rw [← HW0.out, ← HG.out]
  go_loopg [9, 10] d (fun m lv nv wr => ∃ (acc : List (Pg × Nat)) (n : Int) (lo hi : Option ByteArray) (A : Option Addr) (c : Nat), nv = .int .u64 n ∧ lv = .slice A acc.length c ∧ Hid (OkN Q s.S m n lo hi ∧ inB lo hi key ∧ (itemsN s.S m n).length ≤ 1000 ∧ m + acc.length ≤ 20) ∧ Hid (acc ++ wayN s.S m n key = FULL) ∧ Hid (StepsAt w.heap.size wr (.slice A acc.length c) acc) ∧ Hid (ShAt B wr b ill ⟨s.S, s.n + acc.length⟩ v) ∧ Hid (Blk wr g 104 #[.iface 23 (.pointer (some ⟨b, 0, none⟩)), .int .i64 acc.length]) ∧ Hid (DKept (fun k => k = b) w wr) ∧ Hid (Sm w wr) ∧ Hid (ill ≤ s.n ∨ s.n + acc.length < ill))
  case atStart => exact ⟨[], root, lo, hi, none, 0, rfl, rfl, HT, Lib.hid (by rw [HF.out]; rfl), Lib.hid ⟨[], World.ownsRow_nil _ _ _ _, rfl, fun i c x hc => by simp at hc⟩, Lib.hid (by simpa using H0.out), HKR, HK0, HM0, Lib.hid (by simp; omega)⟩
  case round =>
    obtain ⟨acc, n, lo, hi, A, c, rfl, rfl, HT, HFU, HST, HSH, HRD, HK, HM, HN⟩ := hrel
    obtain ⟨m, rfl⟩ : ∃ m, gk = m + 1 := by
      cases gk with
      | zero => exact HT.out.1.elim
      | succ m => exact ⟨m, rfl⟩
    obtain ⟨⟨p, hp, hq, hok⟩, hkb, hit, hdep⟩ := HT.out
    rw [itemsN] at hit
    simp only [hp] at hit
    have hpo := pg_ok hok hit hl
    have hway : wayN s.S (m + 1) n key = (p, kidN p key) :: if p.leaf then [] else wayN s.S m (p.kids.getD (kidN p key) 0) key := by
      rw [wayN]; simp only [hp]
    have hful := HFU.out
    rw [hway] at hful
    have CR := Lib.hid (rdPage_any (d := (acc.length : Int) + 1) HSH.out (by show 0 ≤ s.n + (acc.length : Int); omega) (by show s.n + (acc.length : Int) < _; omega) hp hl hpo HRD.out far_reader rfl rfl (by omega) (by omega) (by omega))
    have hal : acc.length ≤ 19 := by omega
    have HFU2 := Lib.hid hful
    have HOK := Lib.hid hok
    have HKB := Lib.hid hkb
    have HIT := Lib.hid hit
    have HPO := Lib.hid hpo
    clear hp hq hok hkb hit hpo hway hful HFU
    go_wp2_with fail
    refine CR.out.mono ?_
    rintro e w2 ⟨hd2, h2, hg2, hk2, hm2, _⟩
    have hk : DKept (fun k => k = b) w w2 := HK.out.trans hk2 (fun i hi e => by
      rcases e with e | e
      · exact e
      · have := HG.out; omega)
    have hm := HM.out.trans hm2
    have hst := HST.out.kept hk2 hm2 (fun i e cs hc => by
      rcases e with rfl | rfl
      · exact hc.ne_ HSH.out.blk (by decide) rfl
      · exact hc.ne_ HRD.out (by decide) rfl)
    obtain ⟨q, hqq⟩ : ∃ q, q = w2.heap.size := ⟨_, rfl⟩
    have HQ := Lib.hid hqq
    have HK2 := Lib.hid hk
    have HM2 := Lib.hid hm
    have HS2 := Lib.hid h2
    have HG2 := Lib.hid hg2
    have HST2 := Lib.hid hst
    clear CR h2 hg2 hk2 hm2 hk hm hst hqq HST HSH HRD HK HM
    rcases hd2 with ⟨hil, rfl⟩ | ⟨hil, cc, rfl, A1, c1, A2, c2, A3, c3, rfl, hpa⟩
    · have FIN : Hid (∀ V, Later w2 V → WayPost B b ill s v FULL w (.returned (.tuple #[.slice none 0 0, .int .i64 4])) V) := Lib.hid fun V hV => by
        have e1 := HFU2.out
        have hil : s.n + (acc.length : Int) + 1 = ill := hil
        have hs := HS2.out.later hV
        have e2 : FULL.length = acc.length + ((if p.leaf then [] else wayN s.S m (p.kids.getD (kidN p key) 0) key).length + 1) := by rw [← e1, List.length_append, List.length_cons]
        refine ⟨.inl ⟨by have := HN.out; omega, by omega, rfl, ?_⟩, HK2.out.later hV, HM2.out.trans (Sm.later hV)⟩
        rw [show ill = s.n + (acc.length : Int) + 1 from hil.symm] at hs ⊢
        exact hs
      clear hil HS2 HG2 HST2
      go_wp2_with fail
      go_ret2
      exact FIN.out _ (below_new _ _)
    · have hil : s.n + (acc.length : Int) + 1 ≠ ill := hil
      unfold pgc
      obtain ⟨W3, hW3⟩ : ∃ W3, W3 = w2.alloc (.cells #[.bool p.leaf, .slice A1 p.keys.length c1, .slice A2 p.vals.length c2, .slice A3 p.kids.length c3] 54) := ⟨_, rfl⟩
      have hl3 : Later w2 W3 := by rw [hW3]; exact below_new _ _
      have kp3 : Blk W3 q 54 #[.bool p.leaf, .slice A1 p.keys.length c1, .slice A2 p.vals.length c2, .slice A3 p.kids.length c3] := by rw [hW3, HQ.out]; exact Blk.new _ _ _
      have hpa3 := hpa.sm (Sm.later hl3)
      have HST3 := Lib.hid (HST2.out.later hl3)
      have HS3 := Lib.hid (HS2.out.later hl3)
      have HG3 := Lib.hid (HG2.out.below hl3 HG2.out.lt)
      have HK3 := Lib.hid (HK2.out.later hl3)
      have HM3 := Lib.hid (HM2.out.trans (Sm.later hl3))
      have HQ3 : Hid (w.heap.size ≤ q ∧ g < q) := Lib.hid (by have := HG2.out.lt; have := HK2.out.size; have := HQ.out; omega)
      have HP3 := Lib.hid hpa3
      have HKP := Lib.hid kp3
      have HI := Lib.hid hil
      have HW3 := Lib.hid hW3
      have hkd : ∀ V, Sm W3 V → Calls Try.prog 60 #[.agg #[.bool p.leaf, .slice A1 p.keys.length c1, .slice A2 p.vals.length c2, .slice A3 p.kids.length c3], .string key] V fun e w' => e = .returned (.int .i64 (kidN p key : Nat)) ∧ Below V.heap.size V w' := fun V hV => kid_a key (hpa3.sm hV) HPO.out.few (good_rise HPO.out.good)
      have HKD := Lib.hid hkd
      obtain ⟨i0, hi0, hz0, hz1, hz2⟩ := info_parts cinfo_step
      clear hl3 kp3 hpa3 hpa HST2 HS2 HG2 HK2 HM2 hil hW3 hkd
      go_upto_region 5 with fail
      rw [← HW3.out, ← HQ.out]
      generalize hk1 : p.keys.length = k1 at *
      generalize hk2 : p.vals.length = k2 at *
      generalize hk3 : p.kids.length = k3 at *
      generalize hlf : p.leaf = lf at *
      have HE := Lib.hid (And.intro hk1 (And.intro hk2 (And.intro hk3 hlf)))
      obtain ⟨kn, hkn⟩ : ∃ kn, kn = kidN p key := ⟨_, rfl⟩
      have HKN := Lib.hid hkn
      rw [← hkn] at HKD HFU2
      clear hk1 hk2 hk3 hlf hkn
      go_upto_region 7 with fail
      have HL0 := Lib.hid (Later.refl W3)
      have ZF0 : Hid (∀ s, W3.heap.size ≤ s → W3.heap.size ≤ s) := Lib.hid (fun _ h => h)
      have ZS0 : Hid (∀ V, Later W3 V → ((fun V => V.cell? ⟨q, 0, none⟩ = some (.bool lf) ∧ V.cell? ⟨q, 1, none⟩ = some (.slice A1 k1 c1) ∧ V.cell? ⟨q, 2, none⟩ = some (.slice A2 k2 c2) ∧ V.cell? ⟨q, 3, none⟩ = some (.slice A3 k3 c3))) V) := Lib.hid fun V h => cells4 (HKP.out.below h HKP.out.lt)
      refine walk_start 9 (S := (fun V => V.cell? ⟨q, 0, none⟩ = some (.bool lf) ∧ V.cell? ⟨q, 1, none⟩ = some (.slice A1 k1 c1) ∧ V.cell? ⟨q, 2, none⟩ = some (.slice A2 k2 c2) ∧ V.cell? ⟨q, 3, none⟩ = some (.slice A3 k3 c3))) (T := Later W3) (by kernel_rfl) (fun r => W3.heap.size ≤ r) (fun _ h => h.size) ZS0.out (closed_later _) (Later.refl _).drew ?_
      refine wt 0 29 ?_ (fun V hV => ?_) ?_
      rotate_left 1
      · (clear hV; go_simp; (try with_reducible rfl))
      try simp only [pa, List.set]
      refine wt 1 30 ?_ (fun V hV => ?_) ?_
      rotate_left 1
      · (obtain ⟨q0, q1, q2, q3⟩ := id hV; clear hV; go_simp; (try with_reducible rfl))
      try simp only [pa, List.set]
      refine wt 2 31 ?_ (fun V hV => ?_) ?_
      rotate_left 1
      · (obtain ⟨q0, q1, q2, q3⟩ := id hV; clear hV; go_simp; (try with_reducible rfl))
      try simp only [pa, List.set]
      refine wt 3 32 ?_ (fun V hV => ?_) ?_
      rotate_left 1
      · (clear hV; go_simp; (try with_reducible rfl))
      try simp only [pa, List.set]
      refine walk_core 4 rfl (by kernel_rfl) (fun _ _ _ _ _ h => h) (fun V hV K hK => ?_)
      have hV0 := HL0.out.trans hV
      have hSV := ZS0.out V hV
      go_simp
      go_at_call 60
      refine (HKD.out V (Sm.later hV0)).mono ?_
      rintro e x4 ⟨rfl, hb⟩
      have HT4 := Lib.hid (hV.of hb)
      have HL1 := Lib.hid (hV0.of hb)
      have hsize := hb.size
      have hkeep := fun (r : Nat) (_ : True) (h : r < V.heap.size) => hb.block r h
      have ZF1 : Hid (∀ s, x4.heap.size ≤ s → _) := Lib.hid (fun s h => ZF0.out s (Nat.le_trans hV.size (Nat.le_trans hsize h)))
      have ZS1 : Hid (∀ V, Later x4 V → ((fun V => V.cell? ⟨q, 0, none⟩ = some (.bool lf) ∧ V.cell? ⟨q, 1, none⟩ = some (.slice A1 k1 c1) ∧ V.cell? ⟨q, 2, none⟩ = some (.slice A2 k2 c2) ∧ V.cell? ⟨q, 3, none⟩ = some (.slice A3 k3 c3))) V) := Lib.hid (fun V' h => ZS0.out V' ((hV.of hb).trans h))
      refine hK.out _ _ ((fun V => V.cell? ⟨q, 0, none⟩ = some (.bool lf) ∧ V.cell? ⟨q, 1, none⟩ = some (.slice A1 k1 c1) ∧ V.cell? ⟨q, 2, none⟩ = some (.slice A2 k2 c2) ∧ V.cell? ⟨q, 3, none⟩ = some (.slice A3 k3 c3))) (Later x4) _ (fun r _ h => hkeep r trivial h) (fun _ h _ => h) (fun _ h => h) ZS1.out (fun V' h => ZF1.out _ h.size) (Later.refl _) (closed_later _) ?_
      clear hK K hV hsize hkeep hV0 hSV hb
      try simp only [pa, List.set]
      refine wt 5 34 ?_ (fun V hV => ?_) ?_
      rotate_left 1
      · (clear hV; go_simp; (try with_reducible rfl))
      try simp only [pa, List.set]
      refine walk_pend ⟨6, 35, (.cells #[.bool lf, .slice A1 k1 c1, .slice A2 k2 c2, .slice A3 k3 c3, .int .i64 (kn : Nat)] 89), fun r => .slice (some ⟨r, 0, none⟩) 1 1⟩ ⟨_, rfl, rfl, rfl, fun W => ?_⟩ ?_
      · (go_simp; (try with_reducible rfl))
      refine walk_force (by kernel_rfl) (by kernel_rfl) (by kernel_rfl) (by kernel_rfl) (fun r6 x6 hV hr6 hB6 => ?_)
      have lt6 : r6 < x6.heap.size := (Array.getElem?_eq_some_iff.1 hr6).1
      have HL2 := Lib.hid (HL1.out.trans hV)
      have ZF2 : Hid (∀ s, x6.heap.size ≤ s → _ ∧ s ≠ r6) := Lib.hid (fun s h => ⟨ZF1.out s (Nat.le_trans hV.size h), Nat.ne_of_gt (Nat.lt_of_lt_of_le lt6 h)⟩)
      have ZS2 : Hid (∀ V, Later x6 V → ((fun V => V.cell? ⟨q, 0, none⟩ = some (.bool lf) ∧ V.cell? ⟨q, 1, none⟩ = some (.slice A1 k1 c1) ∧ V.cell? ⟨q, 2, none⟩ = some (.slice A2 k2 c2) ∧ V.cell? ⟨q, 3, none⟩ = some (.slice A3 k3 c3))) V) := Lib.hid (fun V' h => ZS1.out V' (hV.trans h))
      refine ⟨(fun V => V.cell? ⟨q, 0, none⟩ = some (.bool lf) ∧ V.cell? ⟨q, 1, none⟩ = some (.slice A1 k1 c1) ∧ V.cell? ⟨q, 2, none⟩ = some (.slice A2 k2 c2) ∧ V.cell? ⟨q, 3, none⟩ = some (.slice A3 k3 c3)), Later x6, Later.refl _, fun _ h => h, ZS2.out, fun V' h => ZF1.out _ (Nat.le_trans hV.size h.size), fun V' h => Nat.lt_of_lt_of_le lt6 h.size, closed_later _, ?_⟩
      try simp only [pa, List.set]
      have HT6 := Lib.hid hV
      clear hV
      refine walk_core 7 rfl (by kernel_rfl) (fun _ _ _ _ _ h => h) (fun V hV K hK => ?_)
      have hV0 := HL2.out.trans hV
      have hSV := ZS2.out V hV
      try simp only [List.getElem_toArray, List.getElem_cons_succ, List.getElem_cons_zero]
      obtain ⟨L, hown, hL, hrdL⟩ := HST3.out
      have hlt7 := hown.lt
      have ho7 := own_heap' hown fun r hr => (show Below _ _ _ from hV0).block r (hlt7 r hr).2
      have k6 : Blk V r6 89 #[.bool lf, .slice A1 k1 c1, .slice A2 k2 c2, .slice A3 k3 c3, .int .i64 (kn : Nat)] := Blk.below (show Blk x6 r6 _ _ from hr6) hV lt6
      have hsv : W3.heap.size ≤ V.heap.size := (show Below _ _ _ from hV0).size
      have hwv : w.heap.size ≤ V.heap.size := by have := HK3.out.size; omega
      have hrd6 : Reads V V.heap.size 5 (some ⟨r6, 0, none⟩) 1 [.bool lf, .slice A1 k1 c1, .slice A2 k2 c2, .slice A3 k3 c3, .int .i64 (kn : Nat)] := ⟨rfl, fun _ => ⟨_, rfl, k6.lt, fun j u hu => by
        rw [show (⟨r6, 0, none⟩ : Addr).add j = ⟨r6, j, none⟩ by unfold Addr.add; by_cases e : j = 0 <;> simp [e], k6.cell, ← Array.getElem?_toList]
        exact hu⟩⟩
      have hone6 : ∀ u ∈ [Value.bool lf, .slice A1 k1 c1, .slice A2 k2 c2, .slice A3 k3 c3, .int .i64 (kn : Nat)], u.oneCell' = true := by
        intro u hu
        simp only [List.mem_cons, List.not_mem_nil, or_false] at hu
        rcases hu with rfl | rfl | rfl | rfl | rfl <;> rfl
      refine wp_append_any V (.tmp 29) (.tmp 35) _ rfl w.heap.size 89 i0 _ 5 88 Try.underlying81 hi0 hz0 hz1 hz2 rfl (by omega) (.slice A acc.length c) acc.length (L.flatMap Array.toList) rfl ho7 V.heap.size _ 1 1 _ rfl hrd6 hone6 (by unfold maxLen; omega) (by omega) hwv ?_
      intro v7 x7 hown7 hg7 hat7
      obtain ⟨A7, c7, rfl⟩ := own_shape hown7
      have hsize := hg7.size
      have hkeep := fun (r : Nat) (hF : W3.heap.size ≤ r ∧ r ≠ r6) (hl : r < V.heap.size) => hg7.block r hl (fun e => by have := (hlt7 r e.symm).2; omega)
      have hnq : some q ≠ (Value.slice A acc.length c).ownBlock := fun e => own_blk' hown HKP.out (by decide) e.symm
      have hng : some g ≠ (Value.slice A acc.length c).ownBlock := fun e => own_blk' hown HG3.out (by decide) e.symm
      have kp7 := (HKP.out.below hV0 HKP.out.lt).grown hg7 hnq
      have kg7 := (HG3.out.below hV0 HG3.out.lt).grown hg7 hng
      have hS := fun V' (h : Later x7 V') => (show (fun V => V.cell? ⟨q, 0, none⟩ = some (.bool lf) ∧ V.cell? ⟨q, 1, none⟩ = some (.slice A1 k1 c1) ∧ V.cell? ⟨q, 2, none⟩ = some (.slice A2 k2 c2) ∧ V.cell? ⟨q, 3, none⟩ = some (.slice A3 k3 c3)) V' from cells4 (kp7.below h kp7.lt))
      have hdk : DKept (fun k => (Value.slice A acc.length c).ownBlock = some k) W3 x7 := (DKept.of_below (show Below _ _ _ from hV0)).grown hg7 (fun k e => .inl e)
      have hsm7 : Sm W3 x7 := Sm.kept hdk fun r hr => ⟨fun cs hb => own_blk' hown hb (by decide) hr, fun cs hb => own_blk' hown hb (by decide) hr⟩
      have hsh7 := HS3.out.kept hdk hsm7 (fun e => own_blk' hown HS3.out.blk (by decide) e) (fun r hr e => by
        obtain ⟨Ls, hs, _⟩ := HS3.out.row
        exact own_two hs hown (by decide) hr e)
      have HDK : Hid (DKept (fun k => k = b) w x7) := Lib.hid (HK3.out.trans hdk (fun i hi e => by have := (hlt7 i e).1; omega))
      have HSM7 := Lib.hid (HM3.out.trans hsm7)
      have HSMW := Lib.hid hsm7
      have HSH7 := Lib.hid hsh7
      have HKP7 := Lib.hid kp7
      have HKG7 := Lib.hid kg7
      have HST7 : Hid (StepsAt w.heap.size x7 (.slice A7 (acc.length + 1) c7) (acc ++ [(p, kn)])) := Lib.hid (by
        obtain ⟨e1, e2, e3, e4⟩ := HE.out
        exact StepsAt.app hL hrdL hsm7 ⟨A1, c1, A2, c2, A3, c3, by rw [e1, e2, e3, e4], HP3.out.sm hsm7⟩ hown7)
      clear hown hL hrdL hlt7 ho7 k6 hsv hwv hrd6 hone6 hown7 hg7 hat7 hnq hng kp7 kg7 hdk hsm7 hsh7
      have ZF3 : Hid (∀ s, x7.heap.size ≤ s → _) := Lib.hid (fun s h => ZF2.out s (Nat.le_trans hV.size (Nat.le_trans hsize h)))
      have ZS3 : Hid (∀ V, Later x7 V → ((fun V => V.cell? ⟨q, 0, none⟩ = some (.bool lf) ∧ V.cell? ⟨q, 1, none⟩ = some (.slice A1 k1 c1) ∧ V.cell? ⟨q, 2, none⟩ = some (.slice A2 k2 c2) ∧ V.cell? ⟨q, 3, none⟩ = some (.slice A3 k3 c3))) V) := Lib.hid hS
      refine hK.out _ _ ((fun V => V.cell? ⟨q, 0, none⟩ = some (.bool lf) ∧ V.cell? ⟨q, 1, none⟩ = some (.slice A1 k1 c1) ∧ V.cell? ⟨q, 2, none⟩ = some (.slice A2 k2 c2) ∧ V.cell? ⟨q, 3, none⟩ = some (.slice A3 k3 c3))) (Later x7) _ hkeep (fun _ h _ => h) (fun _ h => h) ZS3.out (fun V' h => ZF3.out _ h.size) (Later.refl _) (closed_later _) ?_
      clear hK K hV hsize hkeep hV0 hSV hS
      try simp only [Act.put]
      try simp only [pa, List.set]
      refine wt 8 9 ?_ (fun V hV => ?_) ?_
      rotate_left 1
      · (clear hV; go_simp; (try with_reducible rfl))
      try simp only [pa, List.set]
      refine walk_exit (fun V hV => wpAnyJ_done (by kernel_rfl) ?_ _)
      obtain ⟨w5, rfl⟩ : ∃ w5 : World, w5 = V := ⟨_, rfl⟩
      have kp5 := HKP7.out.below hV HKP7.out.lt
      have HKG5 := Lib.hid (HKG7.out.below hV HKG7.out.lt)
      have HST5 := Lib.hid (HST7.out.later hV)
      have HSH5 := Lib.hid (HSH7.out.later hV)
      have HDK5 := Lib.hid (HDK.out.later hV)
      have HSM5 := Lib.hid (HSM7.out.trans (Sm.later hV))
      have HSW5 := Lib.hid (HSMW.out.trans (Sm.later hV))
      have HKP5 := Lib.hid kp5
      have hlen1 : (acc ++ [(p, kn)]).length = acc.length + 1 := by rw [List.length_append]; rfl
      have HLEN := Lib.hid hlen1
      obtain ⟨q0, q1, q2, q3⟩ := cells4 kp5
      clear hV kp5 hlen1 HKG7 HST7 HSH7 HDK HSM7 HSMW HKP7
      cases lf with
      | true =>
        have FIN : Hid (WayPost B b ill s v FULL w (.returned (.tuple #[.slice A7 (acc.length + 1) c7, .int .i64 0])) w5) := Lib.hid (by
          have e1 := HFU2.out
          simp only [if_true] at e1
          have hl := HLEN.out
          have e2 : FULL.length = acc.length + 1 := by rw [← e1]; exact hl
          refine ⟨.inr ⟨by have := HI.out; have := HN.out; omega, _, rfl, by rw [← e1]; exact HST5.out, ?_⟩, HDK5.out, HSM5.out⟩
          have := HSH5.out
          rw [e2]
          rw [show s.n + ((acc.length + 1 : Nat) : Int) = s.n + (acc.length : Int) + 1 by omega]
          exact this)
        go_wp2_with fail
        go_ret2
        exact FIN.out
      | false =>
        have hkt := kid_there HOK.out HE.out.2.2.2 HKB.out
        obtain ⟨e0, hkl, hokk, hbk, _, _⟩ := hkt
        have hfew := kid_few (f := itemsN s.S m) HE.out.2.2.2 e0
        have hit := HIT.out
        rw [← HKN.out] at e0 hkl hokk hbk hfew
        obtain ⟨ad, rfl, _, _, hcell⟩ := HP3.out.n.get e0
        have HCELL := Lib.hid hcell
        have hkn3 : kn < k3 := by
          have := (List.getElem?_eq_some_iff.1 e0).1
          have := HE.out.2.2.1
          omega
        have i1 : (0 : Int) ≤ (kn : Int) := by omega
        have i2 : (kn : Int) < (k3 : Int) := by omega
        have HNEXT : Hid (OkN Q s.S m (p.kids.getD kn 0) (loI p.keys kn lo) (hiI p.keys kn hi) ∧ inB (loI p.keys kn lo) (hiI p.keys kn hi) key ∧ (itemsN s.S m (p.kids.getD kn 0)).length ≤ 1000 ∧ m + (acc ++ [(p, kn)]).length ≤ 20) := Lib.hid ⟨hokk, hbk, by omega, by have := HLEN.out; omega⟩
        have HFU3 : Hid (acc ++ [(p, kn)] ++ wayN s.S m (p.kids.getD kn 0) key = FULL) := Lib.hid (by
          have e1 := HFU2.out
          simp only [Bool.false_eq_true, if_false] at e1
          rw [← e1]; simp)
        generalize p.kids.getD kn 0 = n2 at *
        clear hcell e0 hkl hokk hbk hfew hit
        go_upto_region 10 with fail
        have HL0 := Lib.hid (Later.refl w5)
        have ZF0 : Hid (∀ s, w5.heap.size ≤ s → w5.heap.size ≤ s) := Lib.hid (fun _ h => h)
        have ZS0 : Hid (∀ V, Later w5 V → (Later w5) V) := Lib.hid (fun _ h => h)
        refine walk_start 8 (S := Later w5) (T := Later w5) (by kernel_rfl) (fun r => w5.heap.size ≤ r) (fun _ h => h.size) ZS0.out (closed_later _) (Later.refl _).drew ?_
        refine wt 0 40 ?_ (fun V hV => ?_) ?_
        rotate_left 1
        · (clear hV; go_simp; (try with_reducible rfl))
        try simp only [pa, List.set]
        refine wt 1 41 ?_ (fun V hV => ?_) ?_
        rotate_left 1
        · (obtain ⟨q0, q1, q2, q3⟩ := cells4 (HKP5.out.below (HL0.out.trans hV) HKP5.out.lt); have hcl := HCELL.out V (fun g cs => ((HSW5.out.trans (Sm.later (HL0.out.trans hV))) g cs).2); clear hV; go_simp; (try with_reducible rfl))
        try simp only [pa, List.set]
        refine wt 2 42 ?_ (fun V hV => ?_) ?_
        rotate_left 1
        · (obtain ⟨q0, q1, q2, q3⟩ := cells4 (HKP5.out.below (HL0.out.trans hV) HKP5.out.lt); have hcl := HCELL.out V (fun g cs => ((HSW5.out.trans (Sm.later (HL0.out.trans hV))) g cs).2); clear hV; go_simp; (try with_reducible rfl))
        try simp only [pa, List.set]
        refine wt 3 43 ?_ (fun V hV => ?_) ?_
        rotate_left 1
        · (clear hV; go_simp; (try with_reducible rfl))
        try simp only [pa, List.set]
        refine walk_core 4 rfl (by kernel_rfl) (fun _ _ _ _ _ h => h) (fun V hV K hK => ?_)
        have hV0 := HL0.out.trans hV
        go_simp
        go_at_call 60
        refine (HKD.out V (HSW5.out.trans (Sm.later hV0))).mono ?_
        rintro e x4 ⟨rfl, hb⟩
        have HT4 := Lib.hid (hV.of hb)
        have HL1 := Lib.hid (hV0.of hb)
        have hsize := hb.size
        have hkeep := fun (r : Nat) (_ : True) (h : r < V.heap.size) => hb.block r h
        have ZF1 : Hid (∀ s, x4.heap.size ≤ s → _) := Lib.hid (fun s h => ZF0.out s (Nat.le_trans hV.size (Nat.le_trans hsize h)))
        refine hK.out _ _ (Later x4) (Later x4) _ (fun r _ h => hkeep r trivial h) (fun _ h _ => h) (fun V' h => (hV.of hb).trans h) (fun _ h => h) (fun V' h => ZF1.out _ h.size) (Later.refl _) (closed_later _) ?_
        clear hK K hV hsize hkeep hV0 hb
        try simp only [pa, List.set]
        refine wt 5 45 ?_ (fun V hV => ?_) ?_
        rotate_left 1
        · (clear hV; go_simp; (try with_reducible rfl))
        try simp only [pa, List.set]
        refine wt 6 46 ?_ (fun V hV => ?_) ?_
        rotate_left 1
        · (obtain ⟨q0, q1, q2, q3⟩ := cells4 (HKP5.out.below (HL1.out.trans hV) HKP5.out.lt); have hcl := HCELL.out V (fun g cs => ((HSW5.out.trans (Sm.later (HL1.out.trans hV))) g cs).2); clear hV; go_simp; (try with_reducible rfl))
        try simp only [pa, List.set]
        refine wt 7 10 ?_ (fun V hV => ?_) ?_
        rotate_left 1
        · (clear hV; go_simp; (try with_reducible rfl))
        try simp only [pa, List.set]
        refine walk_exit (fun V hV => wpAnyJ_done (by kernel_rfl) ?_ _)
        have hV0 := HL1.out.trans hV
        go_wp2_with fail
        go_roundg m
        case measure => omega
        case rel =>
          have hg5 := HKG5.out.below hV0 HKG5.out.lt
          refine ⟨acc ++ [(p, kn)], n2, _, _, A7, c7, rfl, by rw [HLEN.out], HNEXT, HFU3, Lib.hid (by rw [HLEN.out]; exact HST5.out.later hV0), Lib.hid ?_, Lib.hid ?_, Lib.hid (HDK5.out.later hV0), Lib.hid (HSM5.out.trans (Sm.later hV0)), Lib.hid ?_⟩
          · rw [HLEN.out, show s.n + ((acc.length + 1 : Nat) : Int) = s.n + (acc.length : Int) + 1 by omega]
            exact HSH5.out.later hV0
          · rw [HLEN.out, show ((acc.length + 1 : Nat) : Int) = (acc.length : Int) + 1 by omega]
            exact hg5
          · rw [HLEN.out]; have := HI.out; have := HN.out; omega
end Go.Proofs.Ytafeddjcomeniaa
end

/- A change of a whole tree. Plain Lean. No program here. Conditions: none. -/
section
namespace Go.Proofs.Ytafeddjcomeniaa
open Go

def rootP (k : ByteArray) (a o : Int) : Pg := ⟨false, [k], [], [a, o]⟩
theorem join_ok {Q : Pg → Prop} {S : List Pg} {d : Nat} {k : ByteArray} {a o : Int} (h1 : OkN Q S d a none (some k)) (h2 : OkN Q S d o (some k) none) (hk : keyFit k) : OkPg (OkN Q S d) (rootP k a o) none none := by
  refine ⟨good_of (fun s hs => by rw [List.mem_singleton.1 hs]; exact hk) (List.pairwise_singleton _ _) (fun s hs => by cases hs) (fun n hn => ?_) (.inr ⟨rfl, rfl, rfl⟩), Nat.le_refl _, fun x _ => inB_all x, fun _ i n hn => ?_⟩
  · rcases List.mem_cons.1 hn with rfl | hn
    · exact ok_ne h1
    · rw [List.mem_singleton.1 hn]; exact ok_ne h2
  · match i, hn with
    | 0, hn => cases hn; exact h1
    | 1, hn => cases hn; exact h2
    | i + 2, hn => cases hn
/-- Put into a tree that is: the two ends. -/
theorem Tree.put {Q : Pg → Prop} {ill : Int} {key val : ByteArray} {d : Nat} {r : Int} {s s' : Sh} {X : List Pg} {a : Added} {k : Nat} {l : List KV} (ht : Tree Q s.S k r l) (hl : itemsN s.S d r = l) (hp : 20 * d + min (rk s.S r) 20 ≤ 40 + k) (h : PutOk Q ill key val d r none none s s' X a) :
    (a.sp = none → Tree Q s'.S (k + 1) a.n (putL l key val)) ∧ (∀ q o, a.sp = some (q, o) → Q (rootP q a.n o) → Tree Q (s'.S ++ [rootP q a.n o]) (k + 1) ((s'.S.length + 1 : Nat) : Int) (putL l key val)) := by
  have hlen := putL_len key val l
  have hf := ht.few
  have hok := h.ok
  have hit := h.items
  rw [hl] at hit
  obtain ⟨n, sp⟩ := a
  refine ⟨fun hs => ?_, fun q o hs hq => ?_⟩
  · obtain rfl : sp = none := hs
    have hok : OkN Q s'.S d n none none := hok
    have hfl := h.flat rfl
    have hfl : rk s'.S n ≤ rk s.S r + 1 := hfl
    exact ⟨by omega, fun h0 => absurd h0 (ok_ne hok), fun _ => ⟨d, hok, hit, by show 20 * d + min (rk s'.S n) 20 ≤ _; omega⟩⟩
  · obtain rfl : sp = some (q, o) := hs
    obtain ⟨h1, h2, h3⟩ : OkN Q s'.S d n none (some q) ∧ OkN Q s'.S d o (some q) none ∧ keyFit q := hok
    have htl := h.tall _ rfl
    have hj := join_ok h1 h2 h3
    have hj : OkPg (OkN Q s'.S d) (rootP q n o) none none := hj
    refine ⟨by omega, fun h0 => by omega, fun _ => ⟨d + 1, OkN.new hj hq, ?_, ?_⟩⟩
    · have e := items_new hj
      show itemsN (s'.S ++ [rootP q n o]) (d + 1) _ = _
      rw [e]
      have : itemsP (itemsN s'.S d) (rootP q n o) = itemsN s'.S d n ++ itemsN s'.S d o := by
        show List.flatMap (itemsN s'.S d) [n, o] = _
        simp
      rw [this]
      exact hit
    · have : rk (s'.S ++ [rootP q n o]) ((s'.S.length + 1 : Nat) : Int) = 1 := by unfold rk; rw [pgAt_new]; rfl
      show 20 * (d + 1) + min (rk (s'.S ++ [rootP q n o]) _) 20 ≤ _
      rw [this]
      omega
theorem Tree.drop {Q : Pg → Prop} {ill : Int} {key : ByteArray} {d : Nat} {r r' : Int} {s s' : Sh} {X : List Pg} {k : Nat} {l : List KV} (ht : Tree Q s.S k r l) (hl : itemsN s.S d r = l) (hp : 20 * d + min (rk s.S r) 20 ≤ 40 + k) (h : DropOk Q ill key d r none none s s' X r') : Tree Q s'.S k r' (delL l key) := by
  have hlen := delL_len key l
  have hf := ht.few
  have hn := h.none_
  have ho := h.ok
  rw [hl] at hn ho
  refine ⟨by omega, hn, fun h0 => ?_⟩
  obtain ⟨h1, h2⟩ := ho h0
  rcases h.flat h0 with hk | ⟨d', rfl, h3⟩
  · exact ⟨d, h1, h2, by omega⟩
  · refine ⟨d', h3, by rw [← h2, items_deep h3], by omega⟩
/-- A tree of one item. -/
theorem Tree.first {Q : Pg → Prop} {S : List Pg} {key val : ByteArray} {k : Nat} (hk : keyFit key) (hv : val.size ≤ 400) (hQ : Q ⟨true, [key], [val], []⟩) : Tree Q (S ++ [⟨true, [key], [val], []⟩]) (k + 1) ((S.length + 1 : Nat) : Int) (putL [] key val) := by
  have hp : OkPg (OkN Q S 0) ⟨true, [key], [val], []⟩ none none := ⟨good_of (fun s hs => by rw [List.mem_singleton.1 hs]; exact hk) (List.pairwise_singleton _ _) (fun s hs => by rw [List.mem_singleton.1 hs]; exact hv) (fun n hn => by cases hn) (.inl ⟨rfl, rfl, rfl⟩), Nat.le_refl _, fun x _ => inB_all x, fun e => by cases e⟩
  refine ⟨by show 1 ≤ k + 1; omega, fun h0 => by omega, fun _ => ⟨1, OkN.new hp hQ, items_new hp, ?_⟩⟩
  have : rk (S ++ [⟨true, [key], [val], []⟩]) ((S.length + 1 : Nat) : Int) = 20 := by unfold rk; rw [pgAt_new]; rfl
  rw [this]; omega
theorem Tree.none0 {Q : Pg → Prop} (S : List Pg) : Tree Q S 0 0 [] := ⟨Nat.le_refl _, fun _ => rfl, fun h => absurd rfl h⟩
end Go.Proofs.Ytafeddjcomeniaa
end

/- The leaf at the end of a way has what the tree has. Plain Lean. No program here. Conditions: none. -/
section
namespace Go.Proofs.Ytafeddjcomeniaa
open Go

theorem find_way {Q : Pg → Prop} {S : List Pg} {key : ByteArray} : ∀ {d : Nat} {n : Int} {lo hi : Option ByteArray}, OkN Q S d n lo hi → inB lo hi key → ∃ p i, (wayN S d n key).getLast? = some (p, i) ∧ p.leaf = true ∧ goodB p = true ∧ getL (itemsN S d n) key = if thereB p.keys key then some (p.vals.getD (findN p.keys key) ByteArray.empty) else none
  | 0, _, _, _, h, _ => h.elim
  | d + 1, n, lo, hi, ⟨p, h1, _, h3⟩, hb => by
    rw [wayN, itemsN]
    simp only [h1]
    cases hl : p.leaf with
    | true =>
      refine ⟨p, kidN p key, by simp, hl, h3.good, ?_⟩
      unfold itemsP
      rw [hl]
      simp only [if_true]
      exact find_zip key _ _ (good_rise h3.good) (h3.leaflen hl).1
    | false =>
      obtain ⟨e0, _, hok, hbk, hA, hC⟩ := kid_there h3 hl hb
      obtain ⟨q, i, hq, hql, hqg, hqf⟩ := find_way hok hbk
      refine ⟨q, i, ?_, hql, hqg, ?_⟩
      · simp only [Bool.false_eq_true, if_false]
        rw [List.getLast?_cons, hq]; rfl
      · rw [kid_items (f := itemsN S d) hl e0, getL_ahead hC, getL_behind _ hA]
        exact hqf
end Go.Proofs.Ytafeddjcomeniaa
end

/- tree.Find. Conditions: the shelf lies in memory and is well; the tree is good, at most 20 deep, with few items. -/
section
namespace Go.Proofs.Ytafeddjcomeniaa
open Go.RowKit
set_option linter.unusedVariables false
set_option linter.unusedSimpArgs false

/-- The shelf was read, at most K times. -/
def Seen (B b : Nat) (ill : Int) (s : Sh) (v : Value) (K : Nat) (w w' : World) : Prop :=
  ∃ n', s.n ≤ n' ∧ n' ≤ s.n + K ∧ ShAt B w' b ill ⟨s.S, n'⟩ v ∧ DKept (fun k => k = b) w w' ∧ Sm w w'
theorem Seen.later {B b : Nat} {ill : Int} {s : Sh} {v : Value} {K : Nat} {w w1 w2 : World} (h : Seen B b ill s v K w w1) (k : Later w1 w2) : Seen B b ill s v K w w2 := by
  obtain ⟨n', h1, h2, h3, h4, h5⟩ := h
  exact ⟨n', h1, h2, h3.later k, h4.later k, h5.trans (Sm.later k)⟩
def FindPost (B b : Nat) (ill : Int) (s : Sh) (v : Value) (o : Option ByteArray) (w : World) (e : Ending) (w' : World) : Prop :=
  e = .returned (.tuple #[.string (o.getD ⟨#[]⟩), .int .i64 (if o.isSome then 0 else 5)]) ∧ Seen B b ill s v 20 w w'
set_option maxRecDepth 100000 in
set_option maxHeartbeats 8000000 in
theorem findT_some {Q : Pg → Prop} {B b : Nat} {w : World} {ill : Int} {s : Sh} {v : Value} {root : Int} {d : Nat} {key : ByteArray} (h : ShAt B w b ill s v) (hn : 0 ≤ s.n) (hn2 : s.n < 1000000000) (hl : s.S.length ≤ 100000) (hw : ill ≤ s.n)
    (ht : OkN Q s.S d root none none) (hi' : (itemsN s.S d root).length ≤ 1000) (hd : d ≤ 20) :
    Calls Try.prog 14 #[shV b, .int .u64 root, .string key] w (FindPost B b ill s v (getL (itemsN s.S d root) key) w) := by
  have CW := Lib.hid (way_any h hn hn2 hl ht (inB_all key) hi' hd)
  have hwl := way_len (S := s.S) (key := key) d root
  obtain ⟨p, i, hlast, hlf, hgood, hget⟩ := find_way ht (inB_all key)
  have hoks := way_ok hl ht (inB_all key) hi'
  have hroot : ((root : Int) == 0) = false := beq_eq_false_iff_ne.2 (by have := (ok_le ht).1; omega)
  obtain ⟨FULL, hF⟩ : ∃ F, F = wayN s.S d root key := ⟨_, rfl⟩
  obtain ⟨O, hO⟩ : ∃ O, O = getL (itemsN s.S d root) key := ⟨_, rfl⟩
  rw [← hF] at CW hlast hwl hoks
  rw [← hO] at hget ⊢
  have hne : 1 ≤ FULL.length := by
    cases FULL with
    | nil => simp at hlast
    | cons => simp
  have hx : FULL[FULL.length - 1]? = some (p, i) := by rw [List.getLast?_eq_getElem?] at hlast; exact hlast
  have HX := Lib.hid hx
  have HPO : Hid (Ok p) := Lib.hid (hoks _ (List.mem_of_getElem? hx))
  have HGET := Lib.hid hget
  have HGOOD := Lib.hid hgood
  have HWL : Hid (FULL.length ≤ 20) := Lib.hid (by omega)
  have HNE := Lib.hid hne
  have HW := Lib.hid hw
  clear h hn hn2 hl hw ht hi' hd hwl hlast hget hF hO hx hgood hne hoks
  go_enter Try.func14, Try.ntmps14
  go_wp2_with fail
  refine CW.out.mono ?_
  rintro e w1 ⟨hd1, hk1, hm1⟩
  rcases hd1 with ⟨a1, a2, _, _⟩ | ⟨_, lv, rfl, hst, hs1⟩
  · exact absurd a1 (by have := HW.out; omega)
  · obtain ⟨g, cap, c, rfl, hg, hcap, ⟨cur, hcur⟩, ⟨A1, c1, A2, c2, A3, c3, rfl, hpa⟩, hcell⟩ := hst.get HX.out
    have hlen := HNE.out
    have hl20 := HWL.out
    obtain ⟨N, hN⟩ : ∃ N, N = FULL.length - 1 := ⟨_, rfl⟩
    have hNl : FULL.length = N + 1 := by omega
    rw [← hN] at hcell
    rw [hNl] at hst hcap ⊢
    dsimp only at hcell hpa
    have y0 : w1.cell? ⟨g, N * 5, none⟩ = some (.bool p.leaf) := hcell 0 (by omega)
    have y1 : w1.cell? ⟨g, N * 5 + 1, none⟩ = some (.slice A1 p.keys.length c1) := hcell 1 (by omega)
    have y2 : w1.cell? ⟨g, N * 5 + 2, none⟩ = some (.slice A2 p.vals.length c2) := hcell 2 (by omega)
    have y3 : w1.cell? ⟨g, N * 5 + 3, none⟩ = some (.slice A3 p.kids.length c3) := hcell 3 (by omega)
    have hN20 : N ≤ 19 := by omega
    have HPA := Lib.hid hpa
    have HSEEN : Hid (Seen B b ill s v 20 w w1) := Lib.hid ⟨s.n + (FULL.length : Int), by omega, by omega, hs1, hk1, hm1⟩
    obtain ⟨W2, hW2⟩ : ∃ W2, W2 = w1.alloc (.cells #[.bool p.leaf, .slice A1 p.keys.length c1, .slice A2 p.vals.length c2, .slice A3 p.kids.length c3] 54) := ⟨_, rfl⟩
    have hl2 : Later w1 W2 := by rw [hW2]; exact below_new _ _
    have kp2 : Blk W2 w1.heap.size 54 #[.bool p.leaf, .slice A1 p.keys.length c1, .slice A2 p.vals.length c2, .slice A3 p.kids.length c3] := by rw [hW2]; exact Blk.new _ _ _
    have hpa2 := hpa.sm (Sm.later hl2)
    have CF := find_a key hpa2 HPO.out.few (good_rise HPO.out.good)
    unfold pgc at CF
    have CF := Lib.hid CF
    obtain ⟨q0, q1, q2, q3⟩ := cells4 kp2
    have HKP := Lib.hid kp2
    have HW2 := Lib.hid hW2
    have HL2 : Hid (Later w1 W2) := Lib.hid hl2
    have HVL : Hid (p.vals.length = p.keys.length) := Lib.hid (leaf_shape HPO.out.good hlf).1
    have hth : thereB p.keys key = true → findN p.keys key < p.keys.length := fun h => by
      unfold thereB at h
      simp only [Bool.and_eq_true, decide_eq_true_eq] at h
      exact h.1
    have HTH := Lib.hid hth
    have HV := Lib.hid hpa2.v
    obtain ⟨f, hf⟩ : ∃ f, f = findN p.keys key := ⟨_, rfl⟩
    rw [← hf] at HTH CF HGET
    obtain ⟨q, hq⟩ : ∃ q, q = w1.heap.size := ⟨_, rfl⟩
    rw [← hq] at q0 q1 q2 q3 HKP
    have HQ := Lib.hid hq
    clear hst hs1 hk1 hm1 hcur hpa hcell hl2 kp2 hpa2 hW2 hth hf hlf hq CW hcap hg hNl hN hlen hl20
    go_upto_region 7 with fail
    rw [← HW2.out, ← HQ.out]
    clear y0 y1 y2 y3
    go_wp2_with fail
    refine CF.out.mono ?_
    rintro e w3 ⟨rfl, hb3⟩
    have HS3 : Hid (Seen B b ill s v 20 w w3) := Lib.hid (HSEEN.out.later (HL2.out.trans hb3))
    obtain ⟨q0, q1, q2, q3⟩ := cells4 (HKP.out.below hb3 HKP.out.lt)
    have HL3 : Hid (Later W2 w3) := Lib.hid hb3
    clear hb3 CF
    cases hT : thereB p.keys key with
    | true =>
      have hlt := HTH.out hT
      have hvl := HVL.out
      obtain ⟨ad, e1, _, _, hc⟩ := HV.out.get (getD_some ByteArray.empty (show f < p.vals.length by omega))
      subst e1
      have hc3 := hc w3 (fun g cs => ((Sm.later HL3.out) g cs).1)
      have i1 : (0 : Int) ≤ (f : Int) := by omega
      have i2 : (f : Int) < (p.vals.length : Int) := by omega
      have i3 : f < p.vals.length := by omega
      have FIN : Hid (FindPost B b ill s v O w (.returned (.tuple #[.string (p.vals.getD f ByteArray.empty), .int .i64 0])) w3) := Lib.hid (by
        rw [HGET.out, hT, if_pos rfl]
        exact ⟨rfl, HS3.out⟩)
      generalize p.vals.getD f ByteArray.empty = x at *
      clear hc hT hlt hvl
      go_wp2_with fail
      go_ret2
      exact FIN.out
    | false =>
      have FIN : Hid (FindPost B b ill s v O w (.returned (.tuple #[.string ⟨#[]⟩, .int .i64 5])) w3) := Lib.hid (by
        rw [HGET.out, hT, if_neg (by simp)]
        exact ⟨rfl, HS3.out⟩)
      clear hT
      go_wp2_with fail
      go_ret2
      exact FIN.out
theorem findT_none {B b : Nat} {w : World} {ill : Int} {s : Sh} {v : Value} {key : ByteArray} (h : ShAt B w b ill s v) :
    Calls Try.prog 14 #[shV b, .int .u64 0, .string key] w (FindPost B b ill s v none w) := by
  have FIN : Hid (FindPost B b ill s v none w (.returned (.tuple #[.string ⟨#[]⟩, .int .i64 5])) w) := Lib.hid ⟨rfl, s.n, Int.le_refl _, by omega, h, DKept.refl, Sm.refl _⟩
  clear h
  go_enter Try.func14, Try.ntmps14
  go_wp2_with fail
  go_ret2
  exact FIN.out
/-- A map's key is found. -/
theorem findT_any {Q : Pg → Prop} {B b : Nat} {w : World} {ill : Int} {s : Sh} {v : Value} {root : Int} {k : Nat} {l : List KV} (key : ByteArray) (h : ShAt B w b ill s v) (hn : 0 ≤ s.n) (hn2 : s.n < 1000000000) (hl : s.S.length ≤ 100000) (hw : ill ≤ s.n)
    (ht : Tree Q s.S k root l) (hk : k ≤ 200) : Calls Try.prog 14 #[shV b, .int .u64 root, .string key] w (FindPost B b ill s v (getL l key) w) := by
  by_cases h0 : root = 0
  · subst h0
    rw [ht.none_ rfl]
    exact findT_none h
  · obtain ⟨d, h1, h2, h3⟩ := ht.some_ h0
    have := ht.few
    have := findT_some (key := key) h hn hn2 hl hw h1 (by rw [h2]; omega) (by omega)
    rwa [h2] at this
end Go.Proofs.Ytafeddjcomeniaa
end

/- Cuts of slices; page.part. Conditions: the bounds lie in the rows. -/
section
namespace Go.Proofs.Ytafeddjcomeniaa
open Go.RowKit
set_option linter.unusedVariables false
set_option linter.unusedSimpArgs false

section
variable {P : Program} {t e : TypeId}
end
end Go.Proofs.Ytafeddjcomeniaa
end

/- slices.Clone at []byte: what it hands back holds the bytes of what came in, in new memory; nothing else turns. Conditions: the slice can be read, and fits the reach. -/
section
namespace Go.Proofs.Ytafeddjcomeniaa
open Go.RowKit

theorem info_u8 : (Try.prog.info? 5).map (fun i => (i.zero, i.size, i.bytes)) = some (some (.int .u8 0), 1, 1) := by kernel_rfl

end Go.Proofs.Ytafeddjcomeniaa
end

/- pack's writers: what each hands back. Conditions: the slice can be read. -/
section
namespace Go.Proofs.Ytafeddjcomeniaa
open Go.RowKit

/-- What a writer hands back: the bytes r, in new memory. -/
def Put (w : World) (r : List UInt8) (e : Ending) (w' : World) : Prop :=
  ∃ g c, e = .returned (.slice (some ⟨g, 0, none⟩) r.length c) ∧ w'.ownsRow w.heap.size 5 1 (.slice (some ⟨g, 0, none⟩) r.length c) r.length (r.map byt) ∧ Below w.heap.size w w'

end Go.Proofs.Ytafeddjcomeniaa
end

/- pack.I, pack.S, and the reference's writers: what each hands back. Conditions: the slice can be read. -/
section
namespace Go.Proofs.Ytafeddjcomeniaa
open Go.RowKit

end Go.Proofs.Ytafeddjcomeniaa
end

/- Laws of slices of bytes that every later text wants: as a string, as a block, nil, below. Conditions: none. -/
section
namespace Go.Proofs.Ytafeddjcomeniaa
open Go.RowKit

/-- A slice of bytes that can be read, as a string. -/
theorem run_string_of {P : Program} (w : World) (src dst e : TypeId) (hs : P.underlying src = some (.slice e)) (he : P.underlying e = some (.int .u8)) (hd : P.underlying dst = some .string)
    {B n c : Nat} {A : Option Addr} {l : List UInt8} (hr : Reads w B 1 A n (l.map byt)) : (convert src dst (.slice A n c)).run P w = .ok (.string ⟨l.toArray⟩) w := by
  have hln : l.length = n := by have := hr.1; simpa using this
  rcases Nat.eq_zero_or_pos n with h0 | h0
  · subst h0
    obtain rfl : l = [] := List.eq_nil_of_length_eq_zero hln
    rw [run_convert_bytes_string w src dst e A 0 c hs he hd]
    cases A with
    | none => simp [Conv.bytesToString, ByteArray.empty, ByteArray.emptyWithCapacity]; rfl
    | some ad => simp [Conv.bytesToString, ByteArray.empty, ByteArray.emptyWithCapacity, loadCells, loadCellsFrom]; rfl
  · obtain ⟨ad, rfl, _, hx⟩ := hr.2 h0
    have hl : (loadCells ad n).run P w = .ok ((l.map fun b => (b.toNat : Int)).map (Value.int .u8)).toArray w := by
      have := run_loadCells_list (P := P) w ad ((l.map fun b => (b.toNat : Int)).map (Value.int .u8)) (fun j v hj => hx j v (by simpa [byt, Function.comp_def] using hj))
      simpa [hln] using this
    rw [run_convert_bytes_string w src dst e _ n c hs he hd, run_bytesToString w ad n c _ hl, foldl_push_bytes]
    simp [ByteArray.empty, ByteArray.emptyWithCapacity, Function.comp_def]
    rfl

theorem bts_nil (w : World) : Bts w none 0 0 [] := ⟨fun _ => ⟨rfl, rfl⟩, Reads.none_, Nat.le_refl _, Nat.zero_le _, rfl⟩

theorem Bts.below {w w' : World} {A : Option Addr} {n c : Nat} {l : List UInt8} (h : Bts w A n c l) (hb : Below w.heap.size w w') : Bts w' A n c l :=
  (BtsB.below (show BtsB w w.heap.size A n c l from h) hb).bts hb.size
/-- What a law's row tells of an argument of bytes: it is nil, or it leads to a row of cells. -/
def IsRow (k : IntKind) (w : World) (a : Option Addr) (len cap : Nat) (zs : List Int) : Prop :=
  (a = none ∧ len = 0 ∧ cap = 0 ∧ zs = []) ∨
  ∃ x, a = some x ∧ len ≤ cap ∧ cap ≤ maxLen ∧ zs.length = cap ∧ (∀ i, i < zs.length → w.cell? (x.add i) = some (.int k (zs.getD i 0))) ∧ ∀ n ∈ zs, (Lit.int k n).wf = true

theorem IsRow.bts {w : World} {A : Option Addr} {n c : Nat} {zs : List Int} (h : IsRow .u8 w A n c zs) : ∃ l, Bts w A n c l := by
  rcases h with ⟨rfl, rfl, rfl, rfl⟩ | ⟨x, rfl, h1, h2, h3, h4, h5⟩
  · exact ⟨[], bts_nil w⟩
  · have hb : ∀ z ∈ zs, 0 ≤ z ∧ z < 256 := by
      intro z hz
      have := h5 z hz
      simp only [Lit.wf, Bool.and_eq_true, decide_eq_true_eq] at this
      have e1 : IntKind.u8.min = 0 := by decide
      have e2 : IntKind.u8.max = 255 := by decide
      omega
    have e : ((zs.take n).map fun z => UInt8.ofNat z.toNat).map byt = (zs.take n).map (Value.int .u8) := by
      rw [List.map_map]
      refine List.map_congr_left fun z hz => ?_
      have := hb z (List.mem_of_mem_take hz)
      simp only [Function.comp, byt, UInt8.toNat_ofNat']
      congr 1
      omega
    refine ⟨(zs.take n).map fun z => UInt8.ofNat z.toNat, by simp, ⟨by simp; omega, fun hn => ⟨x, rfl, ?_, fun j u hu => ?_⟩⟩, h1, h2, by simp; omega⟩
    · have := h4 0 (by omega)
      have := World.block_lt_of_cell? _ _ this
      rwa [block_of_add] at this
    · rw [e] at hu
      have hj : j < n := by
        have := (List.getElem?_eq_some_iff.1 hu).1
        simp at this
        omega
      rw [h4 j (by omega)]
      simp only [List.getElem?_map, List.getElem?_take, if_pos hj] at hu
      have hjz : j < zs.length := by omega
      rw [List.getElem?_eq_getElem hjz] at hu
      rw [List.getD, List.getElem?_eq_getElem hjz]
      simpa using hu
end Go.Proofs.Ytafeddjcomeniaa
end

/- page.Encode and page.Bytes: the bytes of a page. Conditions: the page reads in memory; its bytes are few. -/
section
namespace Go.Proofs.Ytafeddjcomeniaa
open Go.RowKit
set_option linter.unusedVariables false

section
variable {w : World} {A1 A2 A3 : Option Addr} {c1 c2 c3 : Nat} {ks vs : List ByteArray} {ns : List Int}
end
end Go.Proofs.Ytafeddjcomeniaa
end

/- page.Encode of a branch, and page.Bytes. Conditions: the page reads in memory; it may be, and has few keys. -/
section
namespace Go.Proofs.Ytafeddjcomeniaa
open Go.RowKit
set_option linter.unusedVariables false
section
variable {w : World} {A1 A2 A3 : Option Addr} {c1 c2 c3 : Nat} {ks vs : List ByteArray} {ns : List Int}
end
theorem Ok.enc {p : Pg} (h : Ok p) : (encP p).length ≤ 1000000 := by
  have h1 := sizes_bound 40 p.keys (fun s hs => (good_key_size h.good s hs).2)
  have h2 := sizes_bound 400 p.vals (good_val_size h.good)
  have hf := h.few
  have k1 : ∀ s ∈ p.keys, s.size < 18446744073709551616 := fun s hm => by have := (good_key_size h.good s hm).2; omega
  have k2 : ∀ s ∈ p.vals, s.size < 18446744073709551616 := fun s hm => by have := good_val_size h.good s hm; omega
  have a1 := encKV_le p.keys p.vals k1 k2
  have a2 := encK_le p.keys k1
  have a3 := encN_le p.kids h.nums
  have a4 := putU_le (u := p.keys.length) (by omega)
  have hs := good_shape h.good
  have hv : p.vals.length ≤ 1000 := by
    rcases hs with ⟨_, a, _⟩ | ⟨_, a, _⟩
    · omega
    · rw [a]; simp
  have hk : p.kids.length ≤ 1001 := by
    rcases hs with ⟨_, _, a⟩ | ⟨_, _, a⟩
    · rw [a]; simp
    · omega
  unfold encP encB
  cases p.leaf <;> simp only [List.length_cons, List.length_append, Bool.false_eq_true, if_false, if_true] <;> omega
end Go.Proofs.Ytafeddjcomeniaa
end

/- page.Split of a leaf. Conditions: the page reads in memory; it may be, and has few keys, two at least. -/
section
namespace Go.Proofs.Ytafeddjcomeniaa
open Go.RowKit
set_option linter.unusedVariables false
set_option linter.unusedSimpArgs false

theorem Ok.part {p : Pg} (h : Ok p) (hl : p.leaf = true) (i j : Nat) : Ok (partP p i j) :=
  ⟨good_part h.good hl i j, by show ((p.keys.take j).drop i).length ≤ 1000; rw [List.length_drop, List.length_take]; have := h.few; omega, nums_nil⟩

section
variable {w : World} {A1 A2 A3 : Option Addr} {c1 c2 c3 : Nat} {ks vs : List ByteArray} {ns : List Int}
end
end Go.Proofs.Ytafeddjcomeniaa
end

/- page.Split of a branch, and of any page that is great. Conditions: the page reads in memory; it may be, and has few keys. -/
section
namespace Go.Proofs.Ytafeddjcomeniaa
open Go.RowKit
set_option linter.unusedVariables false
set_option linter.unusedSimpArgs false

section
variable {w : World} {A1 A2 A3 : Option Addr} {c1 c2 c3 : Nat} {ks vs : List ByteArray} {ns : List Int}
end
end Go.Proofs.Ytafeddjcomeniaa
end

/- tree.add: a page onto the shelf, in two if it is great. Conditions: the shelf and the page lie in memory; the page may be, and has few keys. -/
section
namespace Go.Proofs.Ytafeddjcomeniaa
open Go.RowKit
set_option linter.unusedVariables false
set_option linter.unusedSimpArgs false

theorem DKept.others {S : Nat → Prop} {w w' : World} (h : DKept S w w') (hS : ∀ k, S k → ∃ t cs, Blk w k t cs) : KeepsOthers w w' :=
  ⟨h.size, fun k o hk hc => (h.block k (Array.getElem?_eq_some_iff.1 hk).1 fun hs => by
    obtain ⟨t, cs, hb⟩ := hS k hs
    have hb' : w.heap[k]? = some _ := hb
    rw [hb'] at hk
    cases hk; cases hc).trans hk⟩
theorem later_others {w w' : World} (h : Later w w') : KeepsOthers w w' :=
  ⟨(show Below _ _ _ from h).size, fun k o hk _ => ((show Below _ _ _ from h).block k (Array.getElem?_eq_some_iff.1 hk).1).trans hk⟩
/-- The shelf was written: what else is as it was. -/
structure Wr (B b : Nat) (ill : Int) (s' : Sh) (w w' : World) : Prop where
  sh : ∃ v', ShAt B w' b ill s' v'
  below : Below B w w'
  far : ∀ g t cs, Far t → Blk w g t cs → Blk w' g t cs
  sm : Sm w w'
  oth : KeepsOthers w w'
theorem Wr.size {B b : Nat} {ill : Int} {s1 : Sh} {w w1 : World} (h : Wr B b ill s1 w w1) : w.heap.size ≤ w1.heap.size := h.oth.size
theorem Wr.trans {B b : Nat} {ill : Int} {s1 s2 : Sh} {w w1 w2 : World} (h : Wr B b ill s1 w w1) (k : Wr B b ill s2 w1 w2) : Wr B b ill s2 w w2 :=
  ⟨k.sh, h.below.trans k.below, fun g t cs ht x => k.far g t cs ht (h.far g t cs ht x), h.sm.trans k.sm, h.oth.trans k.oth⟩
theorem Wr.later {B b : Nat} {ill : Int} {s1 : Sh} {w w1 w2 : World} (h : Wr B b ill s1 w w1) (hB : B ≤ w.heap.size) (k : Later w1 w2) : Wr B b ill s1 w w2 := by
  obtain ⟨v', hs⟩ := h.sh
  exact ⟨⟨v', hs.later k⟩, h.below.trans ((show Below _ _ _ from k).mono (Nat.le_trans hB h.size)), fun g t cs ht x => (h.far g t cs ht x).below k (h.far g t cs ht x).lt, h.sm.trans (Sm.later k), h.oth.trans (later_others k)⟩
theorem Wr.from_ {B b : Nat} {ill : Int} {s1 : Sh} {w w1 w2 : World} (hB : B ≤ w.heap.size) (k : Later w w1) (h : Wr B b ill s1 w1 w2) : Wr B b ill s1 w w2 :=
  ⟨h.sh, ((show Below _ _ _ from k).mono hB).trans h.below, fun g t cs ht x => h.far g t cs ht (x.below k x.lt), (Sm.later k).trans h.sm, (later_others k).trans h.oth⟩
theorem Wr.upd {B b g : Nat} {ill : Int} {s1 : Sh} {w w1 w2 : World} {t : TypeId} {cs cs0 : Array Value} (h : Wr B b ill s1 w w1) (u : Upd w1 w2 g t cs) (hb : Blk w1 g t cs0) (ht : Far t) (hg : w.heap.size ≤ g) (hB : B ≤ w.heap.size) : Wr B b ill s1 w w2 := by
  obtain ⟨v', hs⟩ := h.sh
  exact ⟨⟨v', hs.updFar u hb ht⟩, u.below h.below (by omega) hB, fun g' t' cs' ht' x => u.far (h.far g' t' cs' ht' x) (by have := x.lt; omega), h.sm.trans (u.sm hb ht.s ht.n), h.oth.trans (u.kept.others fun k e => by subst e; exact ⟨_, _, hb⟩)⟩
theorem ShAdd.wr {B b : Nat} {ill : Int} {s : Sh} {v : Value} {p : Pg} {w w' : World} {e : Ending} (h : ShAdd B b ill s v p w e w') (hs : ShAt B w b ill s v) (hB : B ≤ w.heap.size) : Wr B b ill (addS ill s p).1 w w' := by
  obtain ⟨v', _, h1, h2, h3, _⟩ := h
  refine ⟨⟨v', h1⟩, h2.below hB fun i hi => ?_, fun g t cs ht x => h2.blk x fun hi => ?_, h3, h2.others fun k hi => ?_⟩
  · rcases hi with rfl | hi
    · exact hs.hb
    · exact (hs.rowlt i hi).1
  · rcases hi with rfl | hi
    · exact x.ne_ hs.blk ht.h rfl
    · obtain ⟨L, h4, _⟩ := hs.row
      exact own_blk' h4 x ht.p.symm hi
  · rcases hi with rfl | hi
    · exact ⟨_, _, hs.blk⟩
    · obtain ⟨L, h4, _⟩ := hs.row
      rcases h4.2 with ⟨e, _⟩ | ⟨g, cap, cur, e, _, hb, _⟩
      · rw [e] at hi; cases hi
      · rw [e] at hi
        cases hi
        exact ⟨_, _, hb⟩
end Go.Proofs.Ytafeddjcomeniaa
end

/- slices.Backward at []tree.step: what its iterator does for every loop body that keeps the slice's own memory. Conditions: a row of 4096 elements at most. -/
section
namespace Go.Proofs.Ytafeddjcomeniaa
open Go.RowKit
set_option linter.unusedVariables false
attribute [local go_sem] Oper.semAt_some

/-- A round keeps the slice's own box and its row. -/
def KpB (Bs g : Nat) (W W' : World) : Prop := W'.heap[Bs]? = W.heap[Bs]? ∧ W'.heap[g]? = W.heap[g]?
/-- The cells of a row of steps. -/
def RowC (w : World) (g len : Nat) (L : List (Array Value)) : Prop := L.length = len ∧ ∀ (i : Nat) c, L[i]? = some c → c.size = 5 ∧ ∀ j, j < 5 → w.cell? ⟨g, i * 5 + j, none⟩ = c[j]?
theorem RowC.keep {w W : World} {g len : Nat} {L : List (Array Value)} (h : RowC w g len L) (e : W.heap[g]? = w.heap[g]?) : RowC W g len L := ⟨h.1, fun i c hc => ⟨(h.2 i c hc).1, fun j hj => by
  have := (h.2 i c hc).2 j hj
  unfold World.cell? at this ⊢
  rw [e]; exact this⟩⟩

set_option maxRecDepth 100000 in
set_option maxHeartbeats 2000000 in
theorem back1_in (F : Fence) (n : Nat) (h97 : F.fn 63) (hro : F.round = none) (hn : 1 ≤ n) (l Bs g len cap : Nat) (L : List (Array Value)) (hlen : len ≤ 4096) (J Jx : Nat → World → Prop)
    (hY : ∀ k W, J k W → k < len → YieldAt F (n - 1) Try.prog l #[.int .i64 ((len - 1 - k : Nat) : Int), .agg (L[len - 1 - k]?.getD #[])] W fun e W' =>
      (e = .returned (.bool true) ∧ J (k + 1) W' ∧ KpB Bs g W W') ∨ (e = .returned (.bool false) ∧ Jx k W'))
    (W : World) (hBs : Blk W Bs 81 #[.slice (some ⟨g, 0, none⟩) len cap]) (ho : RowC W g len L) (h0 : J 0 W) :
    CallsIn F n Try.prog 63 #[.func (.yield l) #[] #[], .pointer (some ⟨Bs, 0, none⟩)] W fun e W' => (∃ v, e = .returned v) ∧
      (J len W' ∨ ∃ k, k < len ∧ Jx k W') := by
  have hbc : W.cell? ⟨Bs, 0, none⟩ = some (.slice (some ⟨g, 0, none⟩) len cap) := (hBs.cell 0).trans rfl
  have HL := Lib.hid hlen
  have e1 : IntKind.i64.wrap ((len : Int) - 1) = (len : Int) - 1 := IntWalk.i64_in _ (by omega)
  refine callsIn_of_wp Try.func63 rfl h97 ?_ hro
  simp only [Try.ntmps63, List.size_toArray, List.length_cons, List.length_nil, Nat.reduceAdd, Nat.reduceSub, Array.replicate_succ, Array.replicate_zero, List.push_toArray, List.append_toArray, List.nil_append, List.cons_append]
  gi_wp2
  gi_loopw [3] (fun i wr => ∃ k : Nat, k ≤ len ∧ i = .int .i64 ((len : Int) - 1 - (k : Int)) ∧ J k wr ∧ KpB Bs g W wr)
    (fun i _ => (intOf i + 1).toNat)
  case atStart => exact ⟨0, Nat.zero_le _, by congr 1; omega, h0, rfl, rfl⟩
  case round =>
    obtain ⟨k, hk, rfl, hJs, hkp⟩ := hrel
    by_cases hlt : k < len
    · obtain ⟨i, hi⟩ : ∃ i, i = len - 1 - k := ⟨_, rfl⟩
      have hil : i < len := by omega
      have ei : (len : Int) - 1 - (k : Int) = (i : Int) := by omega
      have HI := Lib.hid hi
      rw [ei]
      have hbc' : wr.cell? ⟨Bs, 0, none⟩ = some (.slice (some ⟨g, 0, none⟩) len cap) := ((show Blk wr Bs _ _ from hkp.1.trans hBs).cell 0).trans rfl
      have ho' := ho.keep hkp.2
      obtain ⟨c, hvi⟩ : ∃ c, L[i]? = some c := ⟨_, List.getElem?_eq_getElem (by rw [ho.1]; omega)⟩
      obtain ⟨hc5, hcc⟩ := ho'.2 i c hvi
      obtain ⟨c0, c1, c2, c3, c4, rfl⟩ : ∃ c0 c1 c2 c3 c4, c = #[c0, c1, c2, c3, c4] := ⟨c[0], c[1], c[2], c[3], c[4], by
        apply Array.ext
        · simpa using hc5
        · intro j h1 h2
          have h2 : j < 5 := h2
          match j, h2 with
          | 0, _ => rfl
          | 1, _ => rfl
          | 2, _ => rfl
          | 3, _ => rfl
          | 4, _ => rfl⟩
      have d0 : wr.cell? ⟨g, i * 5, none⟩ = some c0 := hcc 0 (by decide)
      have d1 : wr.cell? ⟨g, i * 5 + 1, none⟩ = some c1 := hcc 1 (by decide)
      have d2 : wr.cell? ⟨g, i * 5 + 2, none⟩ = some c2 := hcc 2 (by decide)
      have d3 : wr.cell? ⟨g, i * 5 + 3, none⟩ = some c3 := hcc 3 (by decide)
      have d4 : wr.cell? ⟨g, i * 5 + 4, none⟩ = some c4 := hcc 4 (by decide)
      obtain ⟨fn, tmps, assign, body, hy, hR⟩ := hY k wr hJs hlt
      rw [← hi, hvi, Option.getD_some] at hy
      have hi0 : (0 : Int) ≤ (i : Int) := by omega
      have hilt : (i : Int) < (len : Int) := by omega
      have ew : IntKind.i64.wrap ((i : Int) - 1) = (i : Int) - 1 := IntWalk.i64_in _ (by omega)
      have HKP := Lib.hid hkp
      have HKL := Lib.hid hk
      clear hi hkp hk ho' hvi hcc hc5
      gi_wp2
      refine hR.mono ?_
      rintro e W3 (⟨rfl, hJ3, hk3⟩ | ⟨rfl, hJx3⟩)
      · gi_wp2
        go_roundw
        case rel => exact ⟨k + 1, by omega, by congr 1; have := HI.out; omega, hJ3, hk3.1.trans HKP.out.1, hk3.2.trans HKP.out.2⟩
        case measure => simp [intOf]
      · gi_wp2
        refine bodyPost_ret (results_none rfl _ _ _) rfl ?_
        exact ⟨⟨_, rfl⟩, .inr ⟨k, hlt, hJx3⟩⟩
    · obtain rfl : k = len := by omega
      have hneg : ¬ (0 : Int) ≤ (k : Int) - 1 - (k : Int) := by omega
      gi_wp2
      go_end0
      exact ⟨⟨_, rfl⟩, .inl hJs⟩

theorem back_in (w : World) (A : Option Addr) (n c : Nat) :
    Calls Try.prog 33 #[.slice A n c] w fun e w' => e = .returned (.func (.func 63) #[] #[.pointer (some ⟨w.heap.size, 0, none⟩)]) ∧ w' = w.alloc (.cells #[.slice A n c] 81) := by
  go_enter Try.func33, Try.ntmps33
  go_wp2
  go_ret
  exact ⟨rfl, rfl⟩

/-- The loop's own two blocks: its record, and the calls put off. -/
def Bk (D : Nat) (r : Loop) (W : World) : Prop := W.heap[D + 1]? = some (.loop r) ∧ W.heap[D]? = some (.deferred (some []))
theorem Bk.keep {D : Nat} {r : Loop} {W W' : World} (h : Bk D r W) (k : KeepsFrom D W W') : Bk D r W' := ⟨k.same _ _ (Nat.le_succ _) h.1 rfl, k.same _ _ (Nat.le_refl _) h.2 rfl⟩
theorem Bk.put {D : Nat} {r : Loop} {W : World} (h : Bk D r W) (r' : Loop) : Bk D r' (W.putObj (D + 1) (.loop r')) := ⟨World.putObj_heap_same (Array.getElem?_eq_some_iff.1 h.1).1, (World.putObj_heap_other (by omega)).trans h.2⟩
/-- What speaks of cells, and of what lay ahead, abides the turn of the loop's record. -/
def Abid (D : Nat) (I : World → Prop) : Prop := ∀ W W' row, I W → W.grownBy W' row → (∀ r, row = some r → D ≤ r ∧ ∃ o : Obj, W.heap[r]? = some o ∧ o.isCells = false) → I W'
theorem Abid.put {D : Nat} {I : World → Prop} (h : Abid D I) {r : Loop} {W : World} (hb : Bk D r W) (r' : Loop) (hi : I W) : I (W.putObj (D + 1) (.loop r')) :=
  h W _ _ hi (grownBy_putObj' W (D + 1) _) fun q e => by cases e; exact ⟨Nat.le_succ _, _, hb.1, rfl⟩
theorem Abid.alloc {D : Nat} {I : World → Prop} (h : Abid D I) {W : World} (o : Obj) (hi : I W) : I (W.alloc o) := h W _ none hi (World.grownBy_alloc W o none) fun r e => by cases e
/-- A loop over a function that hands out its elements in a known order: encs k in round k. The variable may have a cell of its own. -/
theorem rangeFunc_down {F : Fence} {n : Nat} {P : Program} {g : Operand} {ps : Array Tmp} {assign body : Code} {Q : Exit → Act → World → Prop} {a : Act} {w : World} (mk : Act → Nat → Nat → Act) (R : Nat → Nat → World → Prop)
    (hro : F.round = none) (h1 : 1 ≤ n) {gf : Nat} {lb : Array Value} (hg : a.eval g = .func (.func gf) #[] lb) (hFg : F.fn gf) (eg : ∀ args w, (callFunc gf args).run P w = .ok (.enter gf args) w)
    {encs : Nat → Array Value} {Kp : World → World → Prop} {N : Nat}
    (hseq : ∀ (l : Nat) (J Jx : Nat → World → Prop) (W : World), Later w W → (∀ k W1, J k W1 → k < N → YieldAt F (n - 1 - 1) P l (encs k) W1 fun e W' => (e = .returned (.bool true) ∧ J (k + 1) W' ∧ Kp W1 W') ∨ (e = .returned (.bool false) ∧ Jx k W')) → J 0 W →
      CallsIn F (n - 1) P gf (#[.func (.yield l) #[] #[]] ++ lb) W fun e W' => (∃ v, e = .returned v) ∧ (J N W' ∨ ∃ k, k < N ∧ Jx k W'))
    (hKt : ∀ {A B C : World}, Kp A B → Kp B C → Kp A C) (hKb : ∀ (W : World) (l : Nat) (o' : Obj), w.heap.size ≤ l → Kp W (W.putObj l o')) (hps : ∀ k, (encs k).size = ps.size)
    (I : Nat → World → Prop) (Ix : World → Prop) (hI : ∀ k, Abid w.heap.size (I k)) (hIx : Abid w.heap.size Ix) (h0 : I 0 w) (hR : ∀ k h, Abid w.heap.size (R k h))
    (hassign : ∀ (l k : Nat) (W : World) (K : Act → World → Prop), I k W → k < N → (∀ h W', KeepsFrom w.heap.size W W' → Kp W W' → I k W' → R k h W' → K (mk a k h) W') →
      assign.wpIn (F.inRound l) (n - 1 - 1) P (Exit.then K (fun _ _ _ => False)) { tmps := (ps.zip (encs k)).foldl (fun t (p, v) => t.setIfInBounds p v) a.tmps, defers := [] } W)
    (hbody : ∀ (l k h : Nat) (W : World), I k W → R k h W → k < N → body.wpIn (F.inRound l) (n - 1 - 1) P (ownPostG w.heap.size Kp (fun (_ : List Unit) W' => I (k + 1) W') (fun c _ W' => c = .ret ∧ Ix W') [] W) (mk a k h) W)
    (hdone : ∀ (D : Nat) (W : World), w.heap.size ≤ D → I N W → W.heap[D]? = some (.deferred (some [])) → Q .normal { a with defers := { target := .collected D, args := #[] } :: a.defers } W)
    (hstop : ∀ (D : Nat) (W : World), w.heap.size ≤ D → Ix W → W.heap[D]? = some (.deferred (some [])) → Code.ret.wpIn F n P Q { a with defers := { target := .collected D, args := #[] } :: a.defers } W) :
    (Code.rangeFunc g ps assign body).wpIn F n P Q a w := by
  refine wpIn_rangeFunc fun fn hfn => ?_
  rw [hro]
  obtain ⟨D, hD⟩ : ∃ D, D = w.heap.size := ⟨_, rfl⟩
  obtain ⟨rc, hrc⟩ : ∃ rc : LoopState → Option Code → Loop, ∀ st pe, rc st pe = { state := st, pending := pe, fn := fn, tmps := a.tmps, params := ps, assign := assign, body := body, defers := w.heap.size } := ⟨_, fun _ _ => rfl⟩
  obtain ⟨W1, hW1⟩ : ∃ W1, W1 = (w.alloc (.deferred (some []))).alloc (.loop (rc .ready none)) := ⟨_, rfl⟩
  have hl1 : Later w W1 := by rw [hW1]; exact (below_new _ _).alloc (by simp) _
  have hb1 : Bk D (rc .ready none) W1 := by
    rw [hW1, hD]
    refine ⟨?_, (Below.heap_alloc _ _ _ (by simp)).trans (World.alloc_heap_new w _)⟩
    have := World.alloc_heap_new (w.alloc (.deferred (some []))) (.loop (rc .ready none))
    rwa [World.size_alloc] at this
  have hi1 : I 0 W1 := by rw [hW1]; exact (hI 0).alloc _ ((hI 0).alloc _ h0)
  refine ⟨D + 1, [{ target := .collected D, args := #[] }], W1, { target := .fn (.func gf) lb, args := #[.func (.yield (D + 1)) #[] #[]] }, W1, gf, #[.func (.yield (D + 1)) #[] #[]] ++ lb, W1, ?_, ?_, ?_, ?_, fun _ => h1, ?_⟩
  · rw [hW1, hrc, hD]; exact run_enterLoop_outer _ _ _ _ _
  · simp only [resolve, hg]
    simp [go_sem]
  · intro f' hf'; simp [Target.leads] at hf'; subst hf'; exact hFg
  · simp [invoke, go_sem, eg]
  rw [← hD] at hI hIx hR hassign hbody hdone hstop hKb
  refine (hseq (D + 1) (fun k W => I k W ∧ Bk D (rc .ready none) W) (fun _ W => Ix W ∧ Bk D (rc .done (some .ret)) W) W1 hl1 ?_ ⟨hi1, hb1⟩).mono ?_
  · rintro k W ⟨hi, hb⟩ hk
    have hy := run_yield (P := P) (args := encs k) hb.1 (by rw [hrc]; exact hps k)
    rw [hrc] at hy
    refine ⟨fn, _, assign, body, hy, roundIn_of_wpIn hfn (hassign (D + 1) k W _ hi hk fun h W2 hk2 hkp2 hi2 hr2 => ?_)⟩
    have hb2 := hb.keep hk2
    refine ⟨_, run_beginRound hb2.1 (by rw [hrc]), ?_⟩
    obtain ⟨rb, hrb⟩ : ∃ rb : Loop, rb = { rc .ready none with state := .busy } := ⟨_, rfl⟩
    rw [← hrb]
    have hb3 := hb2.put rb
    refine wpIn_mono (hbody (D + 1) k h _ ((hI k).put hb2 rb hi2) ((hR k h).put hb2 rb hr2) hk) ?_
    have hkp3 : Kp W (W2.putObj (D + 1) (.loop rb)) := hKt hkp2 (hKb _ _ _ (Nat.le_succ _))
    have fin : ∀ (j : Option Code) (W4 : World), KeepsFrom D (W2.putObj (D + 1) (.loop rb)) W4 → (Instr.endRound (D + 1) j).run P W4 = .ok (.bool j.isNone) (W4.putObj (D + 1) (.loop (rc (if j.isNone then .ready else .done) j))) ∧ Bk D rb W4 := fun j W4 hk4 => by
      have hb4 := hb3.keep hk4
      have := run_endRound (P := P) j hb4.1
      rw [hrb, hrc] at this
      refine ⟨?_, hb4⟩
      rw [hrc]
      exact this
    rintro e a4 W4 hp
    cases e with
    | normal =>
      obtain ⟨hk4, hkp4, hi4⟩ := hp
      obtain ⟨hr, hb4⟩ := fin none W4 hk4
      exact ⟨_, _, hr, .inl ⟨rfl, ⟨(hI (k + 1)).put hb4 _ hi4, hb4.put _⟩, hKt (hKt hkp3 hkp4) (hKb _ _ _ (Nat.le_succ _))⟩⟩
    | ret =>
      obtain ⟨hk4, _, hi4⟩ := hp
      obtain ⟨hr, hb4⟩ := fin (some .ret) W4 hk4
      exact ⟨_, _, hr, .inr ⟨rfl, hIx.put hb4 _ hi4, hb4.put _⟩⟩
    | exit id => obtain ⟨_, h, _⟩ := hp; cases h
    | goto t => obtain ⟨_, h, _⟩ := hp; cases h
    | panic ch => exact hp.elim
    | outgrown => exact hp.elim
  · rintro e W2 ⟨⟨v, rfl⟩, ⟨hi, hb⟩ | ⟨k, _, hi, hb⟩⟩
    · refine ⟨none, W2.putObj (D + 1) (.loop { rc .ready none with state := .exhausted }), ?_, hdone D _ (Nat.le_refl _) ((hI N).put hb _ hi) (hb.put _).2⟩
      have := run_endLoop (P := P) hb.1 (by rw [hrc]; simp)
      rw [hrc] at this ⊢; exact this
    · refine ⟨some .ret, W2.putObj (D + 1) (.loop { rc .done (some .ret) with state := .exhausted }), ?_, hstop D _ (Nat.le_refl _) (hIx.put hb _ hi) (hb.put _).2⟩
      have := run_endLoop (P := P) hb.1 (by rw [hrc]; simp)
      rw [hrc] at this ⊢; exact this
end Go.Proofs.Ytafeddjcomeniaa
end

/- The way back up of tree.Put: what each step wants; pages' kids are never just one. Plain Lean, and what a written box leaves. No program here. Conditions: none. -/
section
namespace Go.Proofs.Ytafeddjcomeniaa
open Go Go.RowKit
set_option linter.unusedVariables false

/-- No page has just one kid. -/
def Two (S : List Pg) : Prop := ∀ p ∈ S, p.kids.length ≠ 1
theorem Two.app {S : List Pg} {p : Pg} (h : Two S) (hp : p.kids.length ≠ 1) : Two (S ++ [p]) := fun q hq => by
  rcases List.mem_append.mp hq with hq | hq
  · exact h q hq
  · rw [List.mem_singleton] at hq; subst hq; exact hp
theorem two_good {p : Pg} (hg : goodB p = true) (hn : 1 ≤ p.keys.length) : p.kids.length ≠ 1 := by
  rcases good_shape hg with ⟨_, _, h⟩ | ⟨_, _, h⟩
  · rw [h]; simp
  · omega
theorem two_addS {ill : Int} {s : Sh} {p : Pg} (h : Two s.S) (hp : p.kids.length ≠ 1) : Two (addS ill s p).1.S := by
  unfold addS
  split
  · exact h
  · exact h.app hp
theorem two_split {p a b : Pg} {k : ByteArray} (hg : goodB p = true) (h : splitP p = some (a, k, b)) : a.kids.length ≠ 1 ∧ b.kids.length ≠ 1 := by
  unfold splitP at h
  split at h
  · split at h
    · cases h
      exact ⟨by simp [partP], by simp [partP]⟩
    · cases h
  · rename_i hl
    split at h
    · rename_i h3
      cases h
      rcases good_shape hg with ⟨e, _⟩ | ⟨_, _, hk⟩
      · exact absurd e hl
      · constructor
        · show (p.kids.take (p.keys.length / 2 + 1)).length ≠ 1
          rw [List.length_take]; omega
        · show (p.kids.drop (p.keys.length / 2 + 1)).length ≠ 1
          rw [List.length_drop]; omega
    · cases h
theorem two_halves {ill : Int} {s : Sh} {p : Pg} (h : Two s.S) (hg : goodB p = true) (hn : 1 ≤ p.keys.length) : Two (halves ill s p).1.S := by
  unfold halves
  split
  · rename_i a k b hs
    have hs : splitP p = some (a, k, b) := by
      split at hs
      · exact hs
      · cases hs
    obtain ⟨ha, hb⟩ := two_split hg hs
    have h1 := two_addS (ill := ill) h ha
    generalize addS ill s a = o at *
    obtain ⟨s1, o⟩ := o
    cases o with
    | none => exact h1
    | some x =>
      dsimp only
      have h2 := two_addS (ill := ill) h1 hb
      dsimp only at h2
      generalize addS ill s1 b = o at *
      obtain ⟨s2, o⟩ := o
      cases o with
      | none => exact h2
      | some x => exact h2
  · have h1 := two_addS (ill := ill) h (two_good hg hn)
    generalize addS ill s p = o at *
    obtain ⟨s1, o⟩ := o
    cases o with
    | none => exact h1
    | some x => exact h1

/-- What a page that is put wants. -/
structure Puts (p : Pg) (s : Sh) : Prop where
  ok : Ok p
  ne : 1 ≤ p.keys.length
  n0 : 0 ≤ s.n
  n1 : s.n < 1000000000
  len : s.S.length ≤ 99990
/-- What each step on the way up wants, ahead of its add. -/
def Runs (ill : Int) (key val : ByteArray) : List (Pg × Nat) → Sh → Prop
  | [], _ => True
  | (p, i) :: rest, s =>
    match rest with
    | [] => p.leaf = true ∧ Ok p ∧ Puts (putP p key val) s
    | _ :: _ => Runs ill key val rest s ∧ p.leaf = false ∧ Ok p ∧ i ≤ p.keys.length ∧ ∀ s1 a, putW ill key val rest s = (s1, some a) → Puts (updP p i a) s1
theorem Runs.drop {ill : Int} {key val : ByteArray} {s : Sh} : ∀ {l : List (Pg × Nat)} (j : Nat), Runs ill key val l s → Runs ill key val (l.drop j) s
  | _, 0, h => h
  | [], _ + 1, h => h
  | [_], _ + 1, h => by simp [Runs]
  | _ :: y :: l, j + 1, h => by
    rw [List.drop_succ_cons]
    exact Runs.drop j h.1
theorem Runs.two {ill : Int} {key val : ByteArray} {s : Sh} (h2 : Two s.S) : ∀ {l : List (Pg × Nat)}, Runs ill key val l s → Two (putW ill key val l s).1.S
  | [], h => h2
  | [(p, i)], h => two_halves h2 h.2.2.ok.good h.2.2.ne
  | (p, i) :: y :: l, h => by
    have h1 := Runs.two h2 h.1
    have h5 := h.2.2.2.2
    unfold putW
    generalize putW ill key val (y :: l) s = o at *
    obtain ⟨s1, o⟩ := o
    cases o with
    | none => exact h1
    | some a =>
      have := h5 s1 a rfl
      exact two_halves h1 this.ok.good this.ne
theorem drop_get {α : Type} {l : List α} {j : Nat} {x : α} (h : l[j]? = some x) : l.drop j = x :: l.drop (j + 1) := by
  obtain ⟨hj, e⟩ := List.getElem?_eq_some_iff.1 h
  rw [List.drop_eq_getElem_cons hj, e]
section
variable {B b g : Nat} {w w' : World} {ill : Int} {s : Sh} {v : Value}
/-- A number's own cell is written: no page of the shelf has its kids there. -/
theorem PgV.box {cs : Array Value} {p : Pg} {x : Value} (h : PgV w cs p) (h1 : p.kids.length ≠ 1) (hb : Blk w g 27 #[x]) (hk : DKept (fun k => k = g) w w') : PgV w' cs p := by
  obtain ⟨A1, c1, A2, c2, A3, c3, e, hp⟩ := h
  refine ⟨A1, c1, A2, c2, A3, c3, e, hp.k.keep fun g' cs' hb' => hk.blk hb' fun e => hb'.ne_ hb (by decide) e, hp.v.keep fun g' cs' hb' => hk.blk hb' fun e => hb'.ne_ hb (by decide) e, hp.n.le, hp.n.cap, fun h0 => ?_⟩
  obtain ⟨g', o, cs', e', hb', hc⟩ := hp.n.at_ h0
  refine ⟨g', o, cs', e', hk.blk hb' fun e => ?_, hc⟩
  subst e
  have e2 : cs' = #[x] := by
    have hx : w.heap[g']? = some _ := hb
    have hy : w.heap[g']? = some _ := hb'
    rw [hx] at hy; cases hy; rfl
  subst e2
  have a0 := hc 0 _ (List.getElem?_eq_getElem h0)
  have a1 := hc 1 _ (List.getElem?_eq_getElem (by omega))
  have b0 := (Array.getElem?_eq_some_iff.1 a0).1
  have b1 := (Array.getElem?_eq_some_iff.1 a1).1
  simp at b0 b1
theorem ShAt.box {x : Value} (h : ShAt B w b ill s v) (h2 : Two s.S) (hb : Blk w g 27 #[x]) (hk : DKept (fun k => k = g) w w') : ShAt B w' b ill s v := by
  obtain ⟨L, h3, h4, h5⟩ := h.row
  refine ⟨hk.blk h.blk fun e => h.blk.ne_ hb (by decide) e, h.hb, L, ⟨h3.1, ?_⟩, h4, fun i cs p hi hp => (h5 i cs p hi hp).box (h2 p (List.mem_of_getElem? hp)) hb hk⟩
  rcases h3.2 with e | ⟨g', cap, cur, e, hg, hb', r⟩
  · exact .inl e
  · have hb' : Blk w g' _ _ := hb'
    exact .inr ⟨g', cap, cur, e, hg, hk.blk hb' fun e => hb'.ne_ hb (by decide) e, r⟩
theorem Sm.new {w0 : World} {t : TypeId} {cs : Array Value} (h : Sm w0 w) (hg : w0.heap.size ≤ g) (hk : DKept (fun k => k = g) w w') : Sm w0 w' := fun g' cs' =>
  ⟨fun x => hk.blk ((h g' cs').1 x) (by have := x.lt; omega), fun x => hk.blk ((h g' cs').2 x) (by have := x.lt; omega)⟩
/-- A number's new cell is written. -/
theorem Wr.box {w0 : World} {x : Value} (h : Wr B b ill s w0 w) (h2 : Two s.S) (hb : Blk w g 27 #[x]) (hk : DKept (fun k => k = g) w w') (hg : w0.heap.size ≤ g) (hB : B ≤ w0.heap.size) : Wr B b ill s w0 w' := by
  obtain ⟨v', hs⟩ := h.sh
  exact ⟨⟨v', hs.box h2 hb hk⟩, h.below.trans (hk.below (Nat.le_trans hB h.size) fun i e => by subst e; omega), fun g' t' cs' ht x => hk.blk (h.far g' t' cs' ht x) (by have := x.lt; omega), Sm.new (t := 27) (cs := #[]) h.sm hg hk, h.oth.trans (hk.others fun k e => by subst e; exact ⟨_, _, hb⟩)⟩
end
end Go.Proofs.Ytafeddjcomeniaa
end

/- A region that draws its order, within a round of a loop over a function: what goes outside goes there. No program here. Conditions: no operation defers; nothing is let out. -/
section
namespace Go.Proofs.Ytafeddjcomeniaa
open Go.RowKit
/-- An exit that no panic comes to. -/
def calm (Q : Exit → Act → World → Prop) : Exit → Act → World → Prop
  | .panic _, _, _ => False
  | e, a, w => Q e a w
theorem calm_le (Q : Exit → Act → World → Prop) : ∀ e a w, calm Q e a w → Q e a w := by
  intro e a w h
  cases e <;> first | exact h | exact False.elim h
theorem calm_n {Q : Exit → Act → World → Prop} {a : Act} {w : World} (h : Q .normal a w) : calm Q .normal a w := h
section
variable {P : Program} {ops : Array Oper} {Q : Exit → Act → World → Prop} {l n : Nat}
theorem oper_round {o : Oper} {a : Act} {w : World} {K : Act → World → Prop} (hd : ∀ c, o.op ≠ .defer c) (h : o.wp P a w K Q) : o.wpIn (Fence.wide.inRound l) n P a w K Q := by
  unfold Oper.wp at h
  refine ⟨fun _ _ => trivial, ?_⟩
  rw [Oper.semAt_eq _ _ _ hd]
  generalize (execOp a.eval o).run P w = r at *
  cases r with
  | ok x w' =>
    cases x <;> simp only [Oper.upon, Oper.uponIn] at h ⊢ <;>
      first
        | exact h
        | exact ⟨fun h => by simp [Fence.wide] at h, CallsIn.inRound l (callsIn_wide.2 h)⟩
        | exact ⟨fun h => by simp [Fence.wide] at h, fun c cs _ => by
            obtain ⟨v, w'', hv, hs⟩ := h c cs
            exact ⟨v, w'', hv, (stepsIn_wide (P := P)).2 hs⟩⟩
  | halt x w' => cases x <;> simp only [Oper.upon, Oper.uponIn] at h ⊢ <;> exact h
theorem wpOp_round (hd : ∀ (i : Nat) (o : Oper), ops[i]? = some o → ∀ c, o.op ≠ .defer c) (hQ : ¬ LetsOut Q) {i : Nat} {K : Act → World → Prop} {a : Act} {w : World} (h : wpOp P ops Q i K a w) : wpOpIn (Fence.wide.inRound l) n P ops Q i K a w := by
  unfold wpOp at h
  unfold wpOpIn
  cases ho : ops[i]? with
  | none => rw [ho] at h; exact h
  | some o =>
    rw [ho] at h
    simp only [] at h ⊢
    split
    · rename_i hw
      rw [if_pos hw] at h
      exact oper_round (hd i o ho) (h.resolve_right fun h => hQ h.2)
    · rename_i hw
      rw [if_neg hw] at h
      exact ⟨fun _ _ => trivial, h⟩
theorem wpAny_round (hd : ∀ (i : Nat) (o : Oper), ops[i]? = some o → ∀ c, o.op ≠ .defer c) (hQ : ¬ LetsOut Q) {md : Region.Mode} : ∀ (fuel : Nat) (listed : Array Bool) (a : Act) (w : World), wpAny P md ops Q fuel listed a w → wpAnyIn (Fence.wide.inRound l) n P md ops Q fuel listed a w
  | 0, _, _, _, h => h
  | fuel + 1, _, _, _, h => ⟨h.1, fun i hi => wpOp_round hd hQ (wpOp_mono (fun a' w' h' => wpAny_round hd hQ fuel _ a' w' h') (h.2 i hi))⟩
theorem round_region {id : Nat} {a : Act} {w : World} (hm : P.follows .mixedOrders = true) (hd : ∀ (i : Nat) (o : Oper), ops[i]? = some o → ∀ c, o.op ≠ .defer c) (hQ : ¬ LetsOut Q)
    (h : wpAny P .any ops Q ops.size (Array.replicate ops.size false) a w.drew) : (Code.region id ops true).wpIn (Fence.wide.inRound l) n P Q a w :=
  wpIn_region_any hm (wpAny_round hd hQ _ _ _ _ h)
def noDefer (ops : Array Oper) : Bool := ops.all fun o => match o.op with | .defer _ => false | _ => true
theorem noDefer_at (h : noDefer ops = true) (i : Nat) (o : Oper) (ho : ops[i]? = some o) (c) : o.op ≠ .defer c := by
  intro e
  unfold noDefer at h
  rw [Array.all_eq_true_iff_forall_mem] at h
  have := h o (Array.mem_of_getElem? ho)
  rw [e] at this
  cases this
theorem walk_startR {id : Nat} (j0 : Nat) {a : Act} {w : World} {S T : World → Prop} (hm : P.follows .mixedOrders = true) (F : Nat → Prop) (hB : ∀ W, T W → F W.heap.size) (hST : ∀ W, T W → S W) (hc : Closed T) (hT : T w.drew) (hd : noDefer ops = true) (hQ : ¬ LetsOut Q) (h : WalkS P .any ops Q j0 F ops.size [] (Array.replicate ops.size false) a S T) : (Code.region id ops true).wpIn (Fence.wide.inRound l) n P Q a w :=
  round_region hm (noDefer_at hd) hQ (wpAny_of_J (j0 := j0) (S := S) _ _ _ _ (
    h hB hST hc (fun _ h => (by cases h)) [] [] w.drew (List.Perm.refl _) hT ⟨(fun _ h => by cases h), List.nodup_nil⟩))
end
end Go.Proofs.Ytafeddjcomeniaa
end

/- page.Put on a leaf: a leaf that has a key. Conditions: the page reads in memory; it may be, and has few keys. -/
section
namespace Go.Proofs.Ytafeddjcomeniaa
open Go.RowKit
set_option linter.unusedVariables false
set_option linter.unusedSimpArgs false

/-- A page handed back. -/
def PgPost (w : World) (q : Pg) (e : Ending) (w' : World) : Prop := Below w.heap.size w w' ∧ ∃ cs, e = .returned (.agg cs) ∧ PgV w' cs q
section
variable {w : World} {A1 A2 A3 : Option Addr} {c1 c2 c3 : Nat} {ks vs : List ByteArray} {ns : List Int}
end
end Go.Proofs.Ytafeddjcomeniaa
end

/- What lies in memory between two rounds of tree.Put's and tree.Drop's loops. No program here. Conditions: none. -/
section
namespace Go.Proofs.Ytafeddjcomeniaa
open Go.RowKit
set_option linter.unusedVariables false
set_option linter.unusedSimpArgs false

theorem Blk.c0 {w : World} {g : Nat} {t : TypeId} {x : Value} (h : Blk w g t #[x]) : w.cell? ⟨g, 0, none⟩ = some x := (h.cell 0).trans rfl
section
variable {B b : Nat} {w w' w0 : World} {ill : Int} {s : Sh} {v : Value}
theorem ShAt.cells (h : ShAt B w b ill s v) (hk : ∀ g t cs, Blk w g t cs → Blk w' g t cs) : ShAt B w' b ill s v := by
  obtain ⟨L, h3, h4, h5⟩ := h.row
  refine ⟨hk _ _ _ h.blk, h.hb, L, ⟨h3.1, ?_⟩, h4, fun i cs p hi hp => ?_⟩
  · rcases h3.2 with e | ⟨g', cap, cur, e, hg, hb', r⟩
    · exact .inl e
    · exact .inr ⟨g', cap, cur, e, hg, hk _ _ _ hb', r⟩
  · obtain ⟨A1, c1, A2, c2, A3, c3, e, hp⟩ := h5 i cs p hi hp
    exact ⟨A1, c1, A2, c2, A3, c3, e, hp.k.keep fun g cs => hk g _ cs, hp.v.keep fun g cs => hk g _ cs, hp.n.keep fun g cs => hk g _ cs⟩
theorem blk_row {W : World} {g : Nat} {t : TypeId} {cs : Array Value} {row : Option Nat} (h : Blk W g t cs) (hr : ∀ r, row = some r → ∃ o : Obj, W.heap[r]? = some o ∧ o.isCells = false) : some g ≠ row := by
  intro e
  obtain ⟨o, ho, hc⟩ := hr g e.symm
  unfold Blk at h
  rw [h] at ho
  injection ho with ho
  subst ho
  cases hc
theorem Wr.grown {row : Option Nat} (h : Wr B b ill s w0 w) (hB : B ≤ w0.heap.size) (hg : w.grownBy w' row) (hr : ∀ r, row = some r → w0.heap.size ≤ r ∧ ∃ o : Obj, w.heap[r]? = some o ∧ o.isCells = false) : Wr B b ill s w0 w' := by
  have hk : ∀ g t cs, Blk w g t cs → Blk w' g t cs := fun g t cs hb => hb.grown hg (blk_row hb fun r e => (hr r e).2)
  obtain ⟨v', hs⟩ := h.sh
  refine ⟨⟨v', hs.cells hk⟩, h.below.grown hg (Nat.le_trans hB h.size) fun k e => by have := (hr k e).1; omega, fun g t cs ht x => hk _ _ _ (h.far g t cs ht x), fun g cs => ⟨fun x => hk _ _ _ ((h.sm g cs).1 x), fun x => hk _ _ _ ((h.sm g cs).2 x)⟩, ⟨Nat.le_trans h.size hg.size, fun k o hk' hc => ?_⟩⟩
  have h1 := h.oth.same k o hk' hc
  refine (hg.block k (Array.getElem?_eq_some_iff.1 h1).1 fun e => ?_).trans h1
  have := (hr k e.symm).1
  have := (Array.getElem?_eq_some_iff.1 hk').1
  omega
/-- What a change of a tree answers. -/
def TPost (B b : Nat) (ill : Int) (s' : Sh) (n er : Int) (w : World) (e : Ending) (w' : World) : Prop := e = .returned (.tuple #[.int .u64 n, .int .i64 er]) ∧ Wr B b ill s' w w'
theorem Wr.of_kept {s' : Sh} {v' : Value} (h : ShAt B w b ill s v) (hk : DKept (fun k => k = b) w w') (hm : Sm w w') (hs : ShAt B w' b ill s' v') (hB : B ≤ w.heap.size) : Wr B b ill s' w w' :=
  ⟨⟨v', hs⟩, hk.below hB fun i e => by subst e; exact h.hb, fun g t cs ht x => hk.blk x fun e => x.ne_ h.blk ht.h e, hm, hk.others fun k e => by subst e; exact ⟨_, _, h.blk⟩⟩
theorem far_shelf : Far 79 := ⟨by decide, by decide, by decide, by decide⟩
theorem far_err : Far 28 := ⟨by decide, by decide, by decide, by decide⟩
/-- The two results are written. -/
theorem exit_two {r1 r2 : Nat} {x y n er : Int} (h : Wr B b ill s w0 w) (h2 : Two s.S) (k1 : Blk w r1 27 #[.int .u64 x]) (k2 : Blk w r2 28 #[.int .i64 y]) (h1 : w0.heap.size ≤ r1) (h3 : w0.heap.size ≤ r2) (hB : B ≤ w0.heap.size) :
    Wr B b ill s w0 ((w.setCell ⟨r1, 0, none⟩ (.int .u64 n)).setCell ⟨r2, 0, none⟩ (.int .i64 er)) ∧ ((w.setCell ⟨r1, 0, none⟩ (.int .u64 n)).setCell ⟨r2, 0, none⟩ (.int .i64 er)).cell? ⟨r1, 0, none⟩ = some (.int .u64 n) ∧ ((w.setCell ⟨r1, 0, none⟩ (.int .u64 n)).setCell ⟨r2, 0, none⟩ (.int .i64 er)).cell? ⟨r2, 0, none⟩ = some (.int .i64 er) := by
  have hne : r1 ≠ r2 := fun e => by subst e; exact k1.ne_ k2 (by decide) rfl
  have hw1 := h.box h2 k1 (w' := w.setCell ⟨r1, 0, none⟩ (.int .u64 n)) ((DKept.refl (S := fun k => k = r1)).set rfl) h1 hB
  have q1 : Blk (w.setCell ⟨r1, 0, none⟩ (.int .u64 n)) r1 27 #[.int .u64 n] := by have := k1.set_ 0 (.int .u64 n); simpa using this
  have q2 := k2.far (p := ⟨r1, 0, none⟩) hne.symm (.int .u64 n)
  have u := upd1 q2 0 (.int .i64 er)
  have q3 : Blk ((w.setCell ⟨r1, 0, none⟩ (.int .u64 n)).setCell ⟨r2, 0, none⟩ (.int .i64 er)) r2 28 #[.int .i64 er] := by simpa using u.blk
  have q4 := q1.far (p := ⟨r2, 0, none⟩) hne (.int .i64 er)
  exact ⟨hw1.upd u q2 ⟨by decide, by decide, by decide, by decide⟩ h3 hB, (q4.cell 0).trans rfl, (q3.cell 0).trans rfl⟩
/-- Between two rounds: the shelf, the results' cells, the box, the error's cell, another cell, the row of steps. -/
structure Rnd (B b : Nat) (ill : Int) (w W2 : World) (r1 r2 rb q r g : Nat) (t : TypeId) (s' : Sh) (er : Int) (ac : Array Value) (W : World) : Prop where
  wr : Wr B b ill s' w W
  k1 : Blk W r1 27 #[.int .u64 0]
  k2 : Blk W r2 28 #[.int .i64 0]
  kb : Blk W rb 79 #[.iface 23 (.pointer (some ⟨b, 0, none⟩))]
  ke : Blk W q 28 #[.int .i64 er]
  ka : Blk W r t ac
  row : W.heap[g]? = W2.heap[g]?
  sm : Sm W2 W
end
section
variable {B b : Nat} {w W2 W W' : World} {ill : Int} {r1 r2 rb q r g : Nat} {t : TypeId} {s s' : Sh} {er er' : Int} {ac ac' cur : Array Value}
theorem Rnd.later (h : Rnd B b ill w W2 r1 r2 rb q r g t s er ac W) (hB : B ≤ w.heap.size) (hg : g < W2.heap.size) (k : Later W W') : Rnd B b ill w W2 r1 r2 rb q r g t s er ac W' :=
  ⟨h.wr.later hB k, h.k1.below k h.k1.lt, h.k2.below k h.k2.lt, h.kb.below k h.kb.lt, h.ke.below k h.ke.lt, h.ka.below k h.ka.lt, ((show Below _ _ _ from k).block g (by
    obtain ⟨o, ho⟩ : ∃ o, W2.heap[g]? = some o := ⟨_, Array.getElem?_eq_getElem hg⟩
    have := h.row.trans ho
    exact (Array.getElem?_eq_some_iff.1 this).1)).trans h.row, h.sm.trans (Sm.later k)⟩
/-- The shelf is written. -/
theorem Rnd.wrote (h : Rnd B b ill w W2 r1 r2 rb q r g t s er ac W) (hg : Blk W2 g 89 cur) (ht : Far t) (k : Wr B b ill s' W W') : Rnd B b ill w W2 r1 r2 rb q r g t s' er ac W' :=
  ⟨h.wr.trans k, (k.sm _ _).2 h.k1, k.far _ _ _ far_err h.k2, k.far _ _ _ far_shelf h.kb, k.far _ _ _ far_err h.ke, k.far _ _ _ ht h.ka, (k.far _ _ _ far_step (h.row.trans hg)).trans hg.symm, h.sm.trans k.sm⟩
/-- A new cell beside is written. -/
theorem Rnd.upd {g' : Nat} {t' : TypeId} {cs cs' : Array Value} (h : Rnd B b ill w W2 r1 r2 rb q r g t s er ac W) (hB : B ≤ w.heap.size) (hg : Blk W2 g 89 cur) (u : Upd W W' g' t' cs') (hb : Blk W g' t' cs) (ht : Far t') (hw : w.heap.size ≤ g') (n : g' ≠ r1 ∧ g' ≠ r2 ∧ g' ≠ rb ∧ g' ≠ q ∧ g' ≠ r ∧ g' ≠ g) : Rnd B b ill w W2 r1 r2 rb q r g t s er ac W' :=
  ⟨h.wr.upd u hb ht hw hB, u.far h.k1 n.1.symm, u.far h.k2 n.2.1.symm, u.far h.kb n.2.2.1.symm, u.far h.ke n.2.2.2.1.symm, u.far h.ka n.2.2.2.2.1.symm, (u.far (show Blk W g _ _ from h.row.trans hg) n.2.2.2.2.2.symm).trans hg.symm, h.sm.trans (u.sm hb ht.s ht.n)⟩
theorem Rnd.updA (h : Rnd B b ill w W2 r1 r2 rb q r g t s er ac W) (hB : B ≤ w.heap.size) (hg : Blk W2 g 89 cur) (u : Upd W W' r t ac') (ht : Far t) (hw : w.heap.size ≤ r) (n : r ≠ r1 ∧ r ≠ r2 ∧ r ≠ rb ∧ r ≠ q ∧ r ≠ g) : Rnd B b ill w W2 r1 r2 rb q r g t s er ac' W' :=
  ⟨h.wr.upd u h.ka ht hw hB, u.far h.k1 n.1.symm, u.far h.k2 n.2.1.symm, u.far h.kb n.2.2.1.symm, u.far h.ke n.2.2.2.1.symm, u.blk, (u.far (show Blk W g _ _ from h.row.trans hg) n.2.2.2.2.symm).trans hg.symm, h.sm.trans (u.sm h.ka ht.s ht.n)⟩
theorem Rnd.updE (h : Rnd B b ill w W2 r1 r2 rb q r g t s er ac W) (hB : B ≤ w.heap.size) (hg : Blk W2 g 89 cur) (u : Upd W W' q 28 #[.int .i64 er']) (hw : w.heap.size ≤ q) (n : q ≠ r1 ∧ q ≠ r2 ∧ q ≠ rb ∧ q ≠ r ∧ q ≠ g) : Rnd B b ill w W2 r1 r2 rb q r g t s er' ac W' :=
  ⟨h.wr.upd u h.ke far_err hw hB, u.far h.k1 n.1.symm, u.far h.k2 n.2.1.symm, u.far h.kb n.2.2.1.symm, u.blk, u.far h.ka n.2.2.2.1.symm, (u.far (show Blk W g _ _ from h.row.trans hg) n.2.2.2.2.symm).trans hg.symm, h.sm.trans (u.sm h.ke (by decide) (by decide))⟩
theorem Rnd.grown {row : Option Nat} (h : Rnd B b ill w W2 r1 r2 rb q r g t s er ac W) (hB : B ≤ w.heap.size) (hg : Blk W2 g 89 cur) (hgr : W.grownBy W' row) (hr : ∀ r, row = some r → w.heap.size ≤ r ∧ ∃ o : Obj, W.heap[r]? = some o ∧ o.isCells = false) : Rnd B b ill w W2 r1 r2 rb q r g t s er ac W' := by
  have hk : ∀ g t cs, Blk W g t cs → Blk W' g t cs := fun g t cs hb => hb.grown hgr (blk_row hb fun r e => (hr r e).2)
  exact ⟨h.wr.grown hB hgr hr, hk _ _ _ h.k1, hk _ _ _ h.k2, hk _ _ _ h.kb, hk _ _ _ h.ke, hk _ _ _ h.ka, (hk _ _ _ (h.row.trans hg)).trans hg.symm, fun g cs => ⟨fun x => hk _ _ _ ((h.sm g cs).1 x), fun x => hk _ _ _ ((h.sm g cs).2 x)⟩⟩
theorem steps_row {B g n cap : Nat} {w : World} {L : List (Array Value)} (h1 : w.ownsRow B 89 5 (.slice (some ⟨g, 0, none⟩) n cap) n (L.flatMap Array.toList)) (h2 : L.length = n) (h5 : ∀ c ∈ L, c.size = 5) : RowC w g n L := by
  rcases h1.2 with ⟨e, _⟩ | ⟨g', cap', cur, e, hg, hb, hc, hm, hs, ht⟩
  · cases e
  · cases e
    have hb : Blk w g 89 cur := hb
    refine ⟨h2, fun i c hi => ⟨h5 c (List.mem_of_getElem? hi), fun j hj => ?_⟩⟩
    have hil := (List.getElem?_eq_some_iff.1 hi).1
    rw [hb.cell, ← Array.getElem?_toList, ← flatz_get L h5 i c hi j hj, ← ht, List.getElem?_take, if_pos (by omega)]
theorem RowC.take {g n m : Nat} {w : World} {L : List (Array Value)} (h : RowC w g n L) (hm : m ≤ n) : RowC w g m (L.take m) :=
  ⟨by rw [List.length_take, h.1]; omega, fun i c hi => h.2 i c (by
    rw [List.getElem?_take] at hi
    split at hi
    · exact hi
    · cases hi)⟩
/-- What a round leaves: the shelf is written, then the cell beside and the error's. -/
structure Tail (W w7 W8 W9 : World) (bs g : Nat) (cb : Array Value) : Prop where
  oth : KeepsOthers W W9
  kp : W9.heap[bs]? = W.heap[bs]? ∧ W9.heap[g]? = W.heap[g]?
  kbs : Blk W9 bs 81 cb
theorem far_steps : Far 81 := ⟨by decide, by decide, by decide, by decide⟩
theorem Rnd.tail {W6 w7 W8 W9 : World} {bs : Nat} {cb : Array Value} (h : Rnd B b ill w W2 r1 r2 rb q r g t s er ac W) (hB : B ≤ w.heap.size) (hg : Blk W2 g 89 cur) (ht : Far t) (hts : t ≠ 81) (hl : Later W W6) (hw : Wr B b ill s' W6 w7) (kbs : Blk W bs 81 cb)
    (u8 : Upd w7 W8 r t ac') (u9 : Upd W8 W9 q 28 #[.int .i64 er']) (hr : w.heap.size ≤ r) (hq : w.heap.size ≤ q) (n : r ≠ r1 ∧ r ≠ r2 ∧ r ≠ rb ∧ r ≠ q ∧ r ≠ g) (n' : q ≠ r1 ∧ q ≠ r2 ∧ q ≠ rb ∧ q ≠ r ∧ q ≠ g) :
    Rnd B b ill w W2 r1 r2 rb q r g t s' er' ac' W9 ∧ Tail W w7 W8 W9 bs g cb := by
  have h7 := (h.later hB hg.lt hl).wrote hg ht hw
  have h8 := h7.updA hB hg u8 ht hr n
  have h9 := h8.updE hB hg u9 hq n'
  have k7 := hw.far _ _ _ far_steps (kbs.below hl kbs.lt)
  have k8 := u8.far k7 (k7.ne_ h7.ka hts.symm)
  have k9 := u9.far k8 (k8.ne_ h8.ke (by decide))
  exact ⟨h9, ⟨((later_others hl).trans hw.oth).trans ((u8.kept.others fun k e => by subst e; exact ⟨_, _, h7.ka⟩).trans (u9.kept.others fun k e => by subst e; exact ⟨_, _, h8.ke⟩)), ⟨k9.trans (show W.heap[bs]? = _ from kbs).symm, h9.row.trans h.row.symm⟩, k9⟩⟩
/-- The two results are written, and the calls that were put off are taken. -/
theorem exit_defer {D r1 r2 : Nat} {x y n er : Int} {X : World} (h : Wr B b ill s w W) (h2 : Two s.S) (k1 : Blk W r1 27 #[.int .u64 x]) (k2 : Blk W r2 28 #[.int .i64 y]) (h1 : w.heap.size ≤ r1) (h3 : w.heap.size ≤ r2) (hB : B ≤ w.heap.size) (hD : w.heap.size ≤ D) (hDD : W.heap[D]? = some (.deferred (some [])))
    (hX : Later ((W.setCell ⟨r1, 0, none⟩ (.int .u64 n)).setCell ⟨r2, 0, none⟩ (.int .i64 er)) X) :
    X.heap[D]? = some (.deferred (some [])) ∧ Wr B b ill s w (X.putObj D (.deferred none)) ∧ (X.putObj D (.deferred none)).cell? ⟨r1, 0, none⟩ = some (.int .u64 n) ∧ (X.putObj D (.deferred none)).cell? ⟨r2, 0, none⟩ = some (.int .i64 er) := by
  have n1 : D ≠ r1 := fun e => by
    subst e
    have := hDD.symm.trans (show W.heap[D]? = some _ from k1); cases this
  have n2 : D ≠ r2 := fun e => by
    subst e
    have := hDD.symm.trans (show W.heap[D]? = some _ from k2); cases this
  obtain ⟨hw, x1, x2⟩ := exit_two (n := n) (er := er) h h2 k1 k2 h1 h3 hB
  have hlt := (Array.getElem?_eq_some_iff.1 hDD).1
  have hk : DKept (fun k => k = r1 ∨ k = r2) W ((W.setCell ⟨r1, 0, none⟩ (.int .u64 n)).setCell ⟨r2, 0, none⟩ (.int .i64 er)) := DKept.set (DKept.set DKept.refl (.inl rfl)) (.inr rfl)
  have hD1 : ((W.setCell ⟨r1, 0, none⟩ (.int .u64 n)).setCell ⟨r2, 0, none⟩ (.int .i64 er)).heap[D]? = some (.deferred (some [])) := (hk.block D hlt (fun e => e.elim n1 n2)).trans hDD
  have hD2 : X.heap[D]? = some (.deferred (some [])) := ((show Below _ _ _ from hX).block D (Array.getElem?_eq_some_iff.1 hD1).1).trans hD1
  have hg := grownBy_putObj' X D (.deferred none)
  have hr : ∀ r, some D = some r → ∃ o : Obj, X.heap[r]? = some o ∧ o.isCells = false := fun r e => by cases e; exact ⟨_, hD2, rfl⟩
  have y1 : X.cell? ⟨r1, 0, none⟩ = some (.int .u64 n) := (World.cell?_of_block ((show Below _ _ _ from hX).block r1 (World.block_lt_of_cell? _ _ x1))).trans x1
  have y2 : X.cell? ⟨r2, 0, none⟩ = some (.int .i64 er) := (World.cell?_of_block ((show Below _ _ _ from hX).block r2 (World.block_lt_of_cell? _ _ x2))).trans x2
  exact ⟨hD2, (hw.later hB hX).grown hB hg fun r e => ⟨by cases e; exact hD, hr r e⟩, cell_kept y1 hg hr, cell_kept y2 hg hr⟩
end
end Go.Proofs.Ytafeddjcomeniaa
end

/- tree.Put, walked. Conditions: the shelf lies in memory; the tree is good, at most 20 deep, with few items; what each step wants. -/
section
namespace Go.Proofs.Ytafeddjcomeniaa
open Go.RowKit
set_option linter.unusedVariables false
set_option linter.unusedSimpArgs false
attribute [local go_sem] Oper.semAt_some

theorem own_setN {w : World} {B n : Nat} {A : Option Addr} {c i : Nat} {l : List Int} (h : w.ownsRow B 27 1 (.slice A n c) n (l.map (Value.int .u64))) (hi : i < n) (v : Int) :
    ∃ g cs, A = some ⟨g, 0, none⟩ ∧ B ≤ g ∧ Blk w g 27 cs ∧ (∃ u, w.cell? ⟨g, i, none⟩ = some u) ∧ (w.setCell ⟨g, i, none⟩ (.int .u64 v)).ownsRow B 27 1 (.slice A n c) n ((l.set i v).map (Value.int .u64)) := by
  rcases h.2 with ⟨e1, e2⟩ | ⟨g, cap, cur, e1, hg, hb, h2, h3, h4, h5⟩
  · omega
  · injection e1 with e1 _ e3
    subst e1 e3
    have hb : Blk w g 27 cur := hb
    rw [Nat.mul_one] at h4 h5
    have hl := h.1
    rw [Nat.mul_one] at hl
    refine ⟨g, cur, rfl, hg, hb, ⟨cur[i], by rw [hb.cell, Array.getElem?_eq_getElem (by omega)]⟩, by rw [List.length_map, List.length_set]; simpa using hl, .inr ⟨g, c, _, rfl, hg, hb.set_ i (.int .u64 v), h2, h3, by simp [h4], ?_⟩⟩
    rw [Nat.mul_one, Array.toList_setIfInBounds, List.take_set, h5, List.map_set]
theorem results_put (tmps : Array Value) (W : World) (g1 g2 : Nat) (x y : Int) (h6 : tmps.getD 8 undef = .pointer (some ⟨g1, 0, none⟩)) (h7 : tmps.getD 9 undef = .pointer (some ⟨g2, 0, none⟩))
    (c1 : W.cell? ⟨g1, 0, none⟩ = some (.int .u64 x)) (c2 : W.cell? ⟨g2, 0, none⟩ = some (.int .i64 y)) : (results Try.f10 tmps).run Try.prog W = .ok (.tuple #[.int .u64 x, .int .i64 y]) W := by
  have h6' : tmps[8]?.getD undef = .pointer (some ⟨g1, 0, none⟩) := by simpa using h6
  have h7' : tmps[9]?.getD undef = .pointer (some ⟨g2, 0, none⟩) := by simpa using h7
  simp [results, Try.f10, go_sem, h6', h7', c1, c2]
end Go.Proofs.Ytafeddjcomeniaa
end

/- tree.Put at no root: a leaf of one item. Conditions: the shelf lies in memory. -/
section
namespace Go.Proofs.Ytafeddjcomeniaa
open Go.RowKit
set_option linter.unusedVariables false
set_option linter.unusedSimpArgs false

set_option maxRecDepth 100000 in
set_option maxHeartbeats 8000000 in
theorem putT_none {B b : Nat} {w : World} {ill : Int} {s : Sh} {v : Value} {key val : ByteArray} (h : ShAt B w b ill s v) (hB : B ≤ w.heap.size) (hn : 0 ≤ s.n) (hn2 : s.n < 100000000) (hl : s.S.length ≤ 90000) (h2 : Two s.S) (hk : keyFit key) (hv : val.size ≤ 400) {rn re : Int} (hrn : rn = (addS ill s ⟨true, [key], [val], []⟩).2.getD 0) (hre : re = (if (addS ill s ⟨true, [key], [val], []⟩).2.isSome then 0 else 4)) :
    Calls Try.prog 10 #[shV b, .int .u64 0, .string key, .string val] w fun e w' => TPost B b ill (addS ill s ⟨true, [key], [val], []⟩).1 rn re w e w' := by
  obtain ⟨W0, hW0⟩ : ∃ W0, W0 = ((w.alloc (.cells #[.iface 23 (.pointer (some ⟨b, 0, none⟩))] 79)).alloc (.cells #[.int .u64 0] 27)).alloc (.cells #[.int .i64 0] 28) := ⟨_, rfl⟩
  have hb0 : Later w W0 := by rw [hW0]; exact ((below_new _ _).alloc (by simp) _).alloc (by rw [World.size_alloc, World.size_alloc]; omega) _
  have hs0 : W0.heap.size = w.heap.size + 3 := by rw [hW0]; simp
  have kb : Blk W0 w.heap.size 79 #[.iface 23 (.pointer (some ⟨b, 0, none⟩))] := by rw [hW0]; exact ((Blk.new _ _ _).alloc _).alloc _
  have k1 : Blk W0 (w.heap.size + 1) 27 #[.int .u64 0] := by
    rw [hW0]
    have := Blk.new (w.alloc (.cells #[.iface 23 (.pointer (some ⟨b, 0, none⟩))] 79)) 27 #[.int .u64 0]
    rw [World.size_alloc] at this
    exact this.alloc _
  have k2 : Blk W0 (w.heap.size + 1 + 1) 28 #[.int .i64 0] := by
    rw [hW0]
    have := Blk.new ((w.alloc (.cells #[.iface 23 (.pointer (some ⟨b, 0, none⟩))] 79)).alloc (.cells #[.int .u64 0] 27)) 28 #[.int .i64 0]
    rwa [World.size_alloc, World.size_alloc] at this
  obtain ⟨W1, hW1⟩ : ∃ W1, W1 = (W0.alloc (.cells #[.string key] 9)).alloc (.cells #[.string val] 9) := ⟨_, rfl⟩
  have hl1 : Later W0 W1 := by rw [hW1]; exact (below_new _ _).alloc (by simp) _
  have p1 : Blk W1 W0.heap.size 9 #[.string key] := by rw [hW1]; exact (Blk.new _ _ _).alloc _
  have p2 : Blk W1 (W0.heap.size + 1) 9 #[.string val] := by
    rw [hW1]
    have := Blk.new (W0.alloc (.cells #[.string key] 9)) 9 #[.string val]
    rwa [World.size_alloc] at this
  have hpv : PgV W1 #[.bool true, .slice (some ⟨W0.heap.size, 0, none⟩) 1 1, .slice (some ⟨W0.heap.size + 1, 0, none⟩) 1 1, .slice none 0 0] ⟨true, [key], [val], []⟩ := ⟨_, _, _, _, none, 0, rfl, ⟨Nat.le_refl _, by unfold maxLen; omega, fun _ => ⟨_, 0, _, rfl, p1, fun j x hx => by
      match j, hx with
      | 0, hx => cases hx; rfl
      | j + 1, hx => simp at hx⟩⟩, ⟨Nat.le_refl _, by unfold maxLen; omega, fun _ => ⟨_, 0, _, rfl, p2, fun j x hx => by
      match j, hx with
      | 0, hx => cases hx; rfl
      | j + 1, hx => simp at hx⟩⟩, Row.nil _ _ (by unfold maxLen; omega)⟩
  have hs1 := h.later (show Later w W1 from (show Later w W0 from hb0).trans hl1)
  have CA := Lib.hid (shAdd_any hs1 (by have := (show Below _ _ _ from hl1).size; omega) hn (by omega) (by omega) hpv)
  have HS1 := Lib.hid hs1
  have HB := Lib.hid hB
  have H2 := Lib.hid h2
  have HB0 := Lib.hid hb0
  have HL1 := Lib.hid hl1
  have HS0 := Lib.hid hs0
  have HK1 := Lib.hid (k1.below hl1 k1.lt)
  have HK2 := Lib.hid (k2.below hl1 k2.lt)
  have HW0 := Lib.hid hW0
  have HW1 := Lib.hid hW1
  have c0 := kb.c0
  have e1 : ¬ ((key.size : Int) < 1) := by have := hk.1; omega
  have e2 : ¬ ((40 : Int) < (key.size : Int)) := by have := hk.2; omega
  have e3 : ¬ ((400 : Int) < (val.size : Int)) := by omega
  have hmet := fun w => method_add ⟨b, 0, none⟩ w
  have HRN := Lib.hid hrn
  have HRE := Lib.hid hre
  clear hrn hre
  clear h hB hn hn2 hl h2 hk hv hb0 hs0 hW0 kb k1 k2 hW1 hl1 p1 p2 hpv hs1
  unfold shV
  refine (callsIn_wide (n := 5)).1 ?_
  refine callsIn_of_wp_marks Try.func10 rfl trivial ?_ rfl
  refine wpIn_wide.2 ?_
  simp only [Try.ntmps10, List.size_toArray, List.length_cons, List.length_nil, Nat.reduceAdd, Nat.reduceSub, Array.replicate_succ, Array.replicate_zero, List.push_toArray, List.append_toArray, List.nil_append, List.cons_append]
  go_upto_region 1 with fail
  rw [← HW0.out]
  go_wp2_with fail
  rw [← HW1.out]
  refine CA.out.mono ?_
  rintro e w7 hsa
  have hBW : B ≤ W1.heap.size := by have := HB.out; have := (show Below _ _ _ from HB0.out).size; have := (show Below _ _ _ from HL1.out).size; omega
  have hw7 := (show ShAdd B b ill s v ⟨true, [key], [val], []⟩ W1 e w7 from hsa).wr HS1.out hBW
  obtain ⟨v', he, _⟩ := hsa
  subst he
  have hwr := hw7.from_ HB.out (show Later w W1 from (show Later w W0 from HB0.out).trans HL1.out)
  have k1 := (hw7.sm _ _).2 HK1.out
  have k2 := hw7.far _ _ _ far_err HK2.out
  have htw : Two (addS ill s ⟨true, [key], [val], []⟩).1.S := two_addS H2.out (by simp)
  have c1 := k1.c0
  have c2 := k2.c0
  have f1 := k1.frozen 0
  have f2 := k2.frozen 0
  have FIN := Lib.hid (exit_two (n := (addS ill s ⟨true, [key], [val], []⟩).2.getD 0) (er := if (addS ill s ⟨true, [key], [val], []⟩).2.isSome then 0 else 4) hwr htw k1 k2 (Nat.le_succ _) (by omega) HB.out)
  have hrn := HRN.out
  have hre := HRE.out
  rw [← hrn, ← hre] at FIN ⊢
  clear hrn hre
  clear hw7 hwr k1 k2 htw hBW
  go_wp2_with fail
  obtain ⟨hw, y1, y2⟩ := FIN.out
  exact ⟨_, results_put _ _ _ _ rn re rfl rfl y1 y2, rfl, hw⟩
end Go.Proofs.Ytafeddjcomeniaa
end

/- The way back up of tree.Drop: what each step wants, and what it leaves. Plain Lean, and what a written number's box leaves. No program here. Conditions: none. -/
section
namespace Go.Proofs.Ytafeddjcomeniaa
open Go Go.RowKit
set_option linter.unusedVariables false

def StepOk (x : Pg × Nat) : Prop := x.1.leaf = false ∧ Ok x.1 ∧ x.2 ≤ x.1.keys.length ∧ 1 ≤ x.1.keys.length
theorem way_steps {Q : Pg → Prop} {S : List Pg} {key : ByteArray} (hS : S.length ≤ 100000) : ∀ {d : Nat} {n : Int} {lo hi : Option ByteArray}, OkN Q S d n lo hi → inB lo hi key → (itemsN S d n).length ≤ 1000 → ∀ j x, (wayN S d n key)[j]? = some x → j + 1 < (wayN S d n key).length → StepOk x
  | 0, _, _, _, h, _, _, _, _, _, _ => h.elim
  | d + 1, n, lo, hi, ⟨p, h1, h2, h3⟩, hb, hit, j, x, hj, hlt => by
    have e : wayN S (d + 1) n key = (p, kidN p key) :: if p.leaf then [] else wayN S d (p.kids.getD (kidN p key) 0) key := by rw [wayN]; simp only [h1]
    have eit : itemsN S (d + 1) n = itemsP (itemsN S d) p := by rw [itemsN]; simp only [h1]
    rw [e] at hj hlt
    rw [eit] at hit
    cases hl : p.leaf with
    | true =>
      rw [hl] at hlt
      simp at hlt
    | false =>
      rw [hl] at hj hlt
      simp only [Bool.false_eq_true, if_false] at hj hlt
      obtain ⟨e0, h0, hok, hbk, _, _⟩ := kid_there h3 hl hb
      cases j with
      | zero => cases hj; exact ⟨hl, pg_ok h3 hit hS, h0, h3.ne⟩
      | succ j =>
        have hf := kid_few (f := itemsN S d) hl e0
        exact way_steps hS hok hbk (by omega) j x hj (by simpa using hlt)
theorem turnW_bnd (ill : Int) (s : Sh) (p : Pg) (i : Nat) (n : Int) : s.n ≤ (turnW ill s p i n).1.n ∧ (turnW ill s p i n).1.n ≤ s.n + 1 ∧ (turnW ill s p i n).1.S.length ≤ s.S.length + 1 := by
  have ha : ∀ q, s.n ≤ (addS ill s q).1.n ∧ (addS ill s q).1.n ≤ s.n + 1 ∧ (addS ill s q).1.S.length ≤ s.S.length + 1 := fun q => by
    unfold addS
    split
    · dsimp only; omega
    · dsimp only; rw [List.length_append, List.length_singleton]; omega
  unfold turnW
  split
  · split
    · dsimp only; omega
    · exact ha _
  · exact ha _
theorem dropW_bnd (ill : Int) (key : ByteArray) : ∀ (l : List (Pg × Nat)) (s : Sh), s.n ≤ (dropW ill key l s).1.n ∧ (dropW ill key l s).1.n ≤ s.n + l.length ∧ (dropW ill key l s).1.S.length ≤ s.S.length + l.length
  | [], s => ⟨Int.le_refl _, by simp [dropW], by simp [dropW]⟩
  | [(p, i)], s => by
    unfold dropW
    dsimp only
    split
    · unfold addS
      split
      · dsimp only; simp; omega
      · dsimp only; rw [List.length_append]; simp; omega
    · dsimp only; simp; omega
  | (p, i) :: y :: l, s => by
    have ih := dropW_bnd ill key (y :: l) s
    unfold dropW
    generalize dropW ill key (y :: l) s = o at *
    obtain ⟨s1, o⟩ := o
    cases o with
    | none => dsimp only at *; rw [List.length_cons]; omega
    | some n =>
      dsimp only at *
      have := turnW_bnd ill s1 p i n
      rw [List.length_cons]
      omega
theorem two_turn {ill : Int} {s : Sh} {p : Pg} {i : Nat} {n : Int} (h : Two s.S) (hk : p.kids.length ≠ 1) : Two (turnW ill s p i n).1.S := by
  unfold turnW
  split
  · split
    · exact h
    · exact two_addS h (by assumption)
  · exact two_addS h (by rw [List.length_set]; exact hk)
theorem StepOk.kids {x : Pg × Nat} (h : StepOk x) : x.1.kids.length = x.1.keys.length + 1 := by
  rcases good_shape h.2.1.good with ⟨e, _⟩ | ⟨_, _, e⟩
  · rw [h.1] at e; cases e
  · exact e
/-- What the way back leans on. -/
structure Drops (l : List (Pg × Nat)) : Prop where
  st : ∀ j x, l[j]? = some x → j + 1 < l.length → StepOk x
  lf : ∀ x, l.getLast? = some x → x.1.leaf = true ∧ Ok x.1
theorem Drops.tail {x y : Pg × Nat} {l : List (Pg × Nat)} (h : Drops (x :: y :: l)) : Drops (y :: l) :=
  ⟨fun j z hz hj => h.st (j + 1) z (by simpa using hz) (by simpa using hj), fun z hz => h.lf z (by rw [List.getLast?_cons_cons]; exact hz)⟩
theorem leaf_nokids {p : Pg} (h : Ok p) (hl : p.leaf = true) : p.kids = [] := by
  rcases good_shape h.good with ⟨_, _, e⟩ | ⟨e, _⟩
  · exact e
  · rw [hl] at e; cases e
theorem dropP_kids (p : Pg) (key : ByteArray) : (dropP p key).kids = p.kids := by unfold dropP; split <;> rfl
theorem dropW_two {ill : Int} {key : ByteArray} : ∀ {l : List (Pg × Nat)} {s : Sh}, Two s.S → Drops l → Two (dropW ill key l s).1.S
  | [], _, h, _ => h
  | [(p, i)], s, h, hd => by
    unfold dropW
    dsimp only
    split
    · refine two_addS h ?_
      obtain ⟨h1, h2⟩ := hd.lf (p, i) rfl
      rw [dropP_kids, leaf_nokids h2 h1]; simp
    · exact h
  | (p, i) :: y :: l, s, h, hd => by
    have ih := dropW_two (ill := ill) (key := key) (l := y :: l) h hd.tail
    have h1 := hd.st 0 _ rfl (by simp)
    unfold dropW
    generalize dropW ill key (y :: l) s = o at *
    obtain ⟨s1, o⟩ := o
    cases o with
    | none => exact ih
    | some n =>
      have := h1.kids
      have := h1.2.2.2
      dsimp only at *
      exact two_turn ih (by omega)
theorem drop_at {ill : Int} {key : ByteArray} {s s1 : Sh} {l : List (Pg × Nat)} {j : Nat} {p : Pg} {i : Nat} {n : Int} (hj : l[j]? = some (p, i)) (hlt : j + 1 < l.length) (e : dropW ill key (l.drop (j + 1)) s = (s1, some n)) : dropW ill key (l.drop j) s = turnW ill s1 p i n := by
  rw [drop_get hj]
  obtain ⟨y, hy⟩ : ∃ y, l[j + 1]? = some y := ⟨_, List.getElem?_eq_getElem hlt⟩
  rw [drop_get hy] at e ⊢
  unfold dropW
  rw [e]
theorem drop_last {ill : Int} {key : ByteArray} {s : Sh} {l : List (Pg × Nat)} {j : Nat} {p : Pg} {i : Nat} (hj : l[j]? = some (p, i)) (hlt : j + 1 = l.length) : dropW ill key (l.drop j) s = if 1 < p.keys.length then addS ill s (dropP p key) else (s, some 0) := by
  rw [drop_get hj, List.drop_of_length_le (by omega)]
  rfl
theorem drop_none {ill : Int} {key : ByteArray} {s s1 : Sh} {l : List (Pg × Nat)} : ∀ (j : Nat), j < l.length → dropW ill key (l.drop j) s = (s1, none) → dropW ill key l s = (s1, none)
  | 0, _, h => h
  | j + 1, hj, h => by
    refine drop_none j (by omega) ?_
    obtain ⟨⟨p, i⟩, hx⟩ : ∃ x, l[j]? = some x := ⟨_, List.getElem?_eq_getElem (by omega)⟩
    obtain ⟨y, hy⟩ : ∃ y, l[j + 1]? = some y := ⟨_, List.getElem?_eq_getElem hj⟩
    rw [drop_get hx]
    rw [drop_get hy] at h ⊢
    unfold dropW
    rw [h]
theorem Drops.drop {l : List (Pg × Nat)} (h : Drops l) {j : Nat} (hj : j < l.length) : Drops (l.drop j) := by
  induction j generalizing l with
  | zero => exact h
  | succ j ih =>
    match l, h, hj with
    | [], _, hj => simp at hj
    | [x], _, hj => simp at hj
    | x :: y :: l, h, hj => exact ih h.tail (by simpa using hj)
/-- What Drop answers. -/
def dropT (ill : Int) (key : ByteArray) (there : Bool) (l : List (Pg × Nat)) (s : Sh) : Sh × Int × Int :=
  if s.n < ill ∧ ill ≤ s.n + l.length then (⟨s.S, ill⟩, 0, 4)
  else if there = false then (⟨s.S, s.n + l.length⟩, 0, 5)
  else match dropW ill key l ⟨s.S, s.n + l.length⟩ with
    | (s1, none) => (s1, 0, 4)
    | (s1, some n) => (s1, n, 0)

section
variable {B b : Nat} {w W2 W W' : World} {ill : Int} {r1 r2 rb q r g : Nat} {s s' : Sh} {er : Int} {x y : Int} {cur : Array Value}
/-- The shelf is written; the cell beside is a number's box. -/
theorem Rnd.wroteN (h : Rnd B b ill w W2 r1 r2 rb q r g 27 s er #[.int .u64 x] W) (hg : Blk W2 g 89 cur) (k : Wr B b ill s' W W') : Rnd B b ill w W2 r1 r2 rb q r g 27 s' er #[.int .u64 x] W' :=
  ⟨h.wr.trans k, (k.sm _ _).2 h.k1, k.far _ _ _ far_err h.k2, k.far _ _ _ far_shelf h.kb, k.far _ _ _ far_err h.ke, (k.sm _ _).2 h.ka, (k.far _ _ _ far_step (h.row.trans hg)).trans hg.symm, h.sm.trans k.sm⟩
/-- The box is written. -/
theorem Rnd.boxN (h : Rnd B b ill w W2 r1 r2 rb q r g 27 s er #[.int .u64 x] W) (hB : B ≤ w.heap.size) (hg : Blk W2 g 89 cur) (h2 : Two s.S) (hw : W2.heap.size ≤ r) (hw' : w.heap.size ≤ r) (n : r ≠ r1 ∧ r ≠ r2 ∧ r ≠ rb ∧ r ≠ q ∧ r ≠ g) : Rnd B b ill w W2 r1 r2 rb q r g 27 s er #[.int .u64 y] (W.setCell ⟨r, 0, none⟩ (.int .u64 y)) := by
  have hk : DKept (fun k => k = r) W (W.setCell ⟨r, 0, none⟩ (.int .u64 y)) := (DKept.refl (S := fun k => k = r)).set rfl
  refine ⟨h.wr.box h2 h.ka hk hw' hB, h.k1.far (p := ⟨r, 0, none⟩) n.1.symm _, h.k2.far (p := ⟨r, 0, none⟩) n.2.1.symm _, h.kb.far (p := ⟨r, 0, none⟩) n.2.2.1.symm _, h.ke.far (p := ⟨r, 0, none⟩) n.2.2.2.1.symm _, ?_, ?_, Sm.new (t := 27) (cs := #[]) h.sm hw hk⟩
  · have := h.ka.set_ 0 (.int .u64 y)
    simpa using this
  · have e : Blk W g 89 cur := h.row.trans hg
    exact (e.far (p := ⟨r, 0, none⟩) n.2.2.2.2.symm _).trans hg.symm
end
end Go.Proofs.Ytafeddjcomeniaa
end

/- What the way back of a put leans on, out of a good tree. Plain Lean. No program here. Conditions: none. -/
section
namespace Go.Proofs.Ytafeddjcomeniaa
open Go Go.RowKit
set_option linter.unusedVariables false

/-- What pages must be, so that puts keep it. -/
structure QPut (Q : Pg → Prop) (M : Int) : Prop where
  leaf : ∀ p key val, keyFit key → val.size ≤ 400 → Q p → goodB p = true → p.leaf = true → 1 ≤ p.keys.length → p.keys.length ≤ 126 → Pre Q (putP p key val)
  branch : ∀ p i a, Q p → goodB p = true → p.leaf = false → i ≤ p.keys.length → goodB (updP p i a) = true → (∀ n ∈ p.kids, n ≤ M) → (∀ n ∈ (updP p i a).kids, n ≤ M) → Pre Q (updP p i a)
  root : ∀ q n o, keyFit q → n ≤ M → o ≤ M → Q (rootP q n o)
  first : ∀ key val, keyFit key → val.size ≤ 400 → Q ⟨true, [key], [val], []⟩
/-- How a change of a tree ends. -/
structure Chg (Q : Pg → Prop) (ill : Int) (s s' : Sh) (n er : Int) (k : Nat) (l : List KV) : Prop where
  res : (er = 4 ∧ n = 0 ∧ ∃ X, Grew ill s s' X false) ∨ (er = 0 ∧ (∃ X, Grew ill s s' X true) ∧ Tree Q s'.S k n l)
  cost : s'.n ≤ s.n + 100
  two : Two s'.S
theorem Grew.read {ill : Int} {s : Sh} {m : Nat} (h : ¬ (s.n < ill ∧ ill ≤ s.n + (m : Int))) : Grew ill s ⟨s.S, s.n + m⟩ [] true := ⟨by simp, by dsimp only; omega, by dsimp only [List.length_nil]; omega, fun e => (by cases e), fun _ => by dsimp only; omega⟩
theorem Grew.ill {ill : Int} {s : Sh} {m : Nat} (h : s.n < ill ∧ ill ≤ s.n + (m : Int)) : Grew ill s ⟨s.S, ill⟩ [] false := ⟨by simp, by dsimp only; omega, by dsimp only [List.length_nil]; omega, fun _ => ⟨rfl, h.1⟩, fun e => (by cases e)⟩
end Go.Proofs.Ytafeddjcomeniaa
end

/- tree.turned: a branch whose kid became another or none. Conditions: the shelf and the page lie in memory; the page may be, and has few keys. -/
section
namespace Go.Proofs.Ytafeddjcomeniaa
open Go.RowKit
set_option linter.unusedVariables false
set_option linter.unusedSimpArgs false

/-- What turned answers. -/
def TurnPost (B b : Nat) (ill : Int) (r : Sh × Option Int) (w : World) (e : Ending) (w' : World) : Prop := e = .returned (.tuple #[.int .u64 (r.2.getD 0), .int .i64 (if r.2.isSome then 0 else 4)]) ∧ Wr B b ill r.1 w w'
set_option maxRecDepth 100000 in
set_option maxHeartbeats 8000000 in
theorem turned_any {B b : Nat} {w : World} {ill : Int} {s : Sh} {v : Value} {p : Pg} {i : Nat} {n : Int} {A1 A2 A3 : Option Addr} {pc1 pc2 pc3 : Nat} (h : ShAt B w b ill s v) (hB : B ≤ w.heap.size) (hn : 0 ≤ s.n) (hn2 : s.n < 1000000000) (hl : s.S.length ≤ 99990)
    (hp : PgA w A1 pc1 A2 pc2 A3 pc3 p) (ho : Ok p) (hlf : p.leaf = false) (hi : i ≤ p.keys.length) (hk : 1 ≤ p.keys.length) :
    Calls Try.prog 40 #[shV b, .agg #[.bool p.leaf, .slice A1 p.keys.length pc1, .slice A2 p.vals.length pc2, .slice A3 p.kids.length pc3, .int .i64 (i : Nat)], .int .u64 n] w (TurnPost B b ill (turnW ill s p i n) w) := by
  obtain ⟨W0, hW0⟩ : ∃ W0, W0 = w.alloc (.cells #[.bool p.leaf, .slice A1 p.keys.length pc1, .slice A2 p.vals.length pc2, .slice A3 p.kids.length pc3, .int .i64 (i : Nat)] 89) := ⟨_, rfl⟩
  have hb0 : Later w W0 := by rw [hW0]; exact below_new _ _
  have kh : Blk W0 w.heap.size 89 #[.bool p.leaf, .slice A1 p.keys.length pc1, .slice A2 p.vals.length pc2, .slice A3 p.kids.length pc3, .int .i64 (i : Nat)] := by rw [hW0]; exact Blk.new _ _ _
  have hfew := good_few ho
  obtain ⟨hsv, hsk⟩ : p.vals = [] ∧ p.kids.length = p.keys.length + 1 := by
    rcases good_shape ho.good with ⟨e, _⟩ | ⟨_, e1, e2⟩
    · rw [hlf] at e; cases e
    · exact ⟨e1, e2⟩
  have SF : Hid (∀ V, Later W0 V → V.cell? ⟨w.heap.size, 1, none⟩ = some (.slice A1 p.keys.length pc1) ∧ V.cell? ⟨w.heap.size, 3, none⟩ = some (.slice A3 p.kids.length pc3)) := Lib.hid fun V hV => by
    have := kh.below hV kh.lt
    exact ⟨(this.cell 1).trans rfl, (this.cell 3).trans rfl⟩
  have HPA := Lib.hid (hp.sm (Sm.later hb0))
  have HS0 := Lib.hid (h.later hb0)
  have HB := Lib.hid hB
  have HB0 := Lib.hid hb0
  have HKH := Lib.hid kh
  have HW0 := Lib.hid hW0
  have HI : Hid (i ≤ p.keys.length ∧ p.kids.length = p.keys.length + 1 ∧ p.keys.length ≤ 1000 ∧ 1 ≤ p.keys.length) := Lib.hid ⟨hi, hsk, hfew.1, hk⟩
  have HN := Lib.hid (And.intro hn (And.intro hn2 hl))
  have hmet := fun w => method_add ⟨b, 0, none⟩ w
  obtain ⟨T, hT⟩ : ∃ T, T = turnW ill s p i n := ⟨_, rfl⟩
  rw [← hT]
  have HT := Lib.hid hT
  have hsz : W0.heap.size = w.heap.size + 1 := by rw [hW0, World.size_alloc]
  have HSZ := Lib.hid hsz
  generalize hm1 : p.keys.length = m1 at *
  generalize hm3 : p.kids.length = m3 at *
  generalize hm2 : p.vals.length = m2 at *
  rw [hlf] at HW0
  have HM1 := Lib.hid hm1
  have HM3 := Lib.hid hm3
  clear h hB hn hn2 hl hp ho hi hk hW0 hb0 kh hfew hsv hsk hT hsz hm1 hm3 hm2
  rw [hlf]
  clear hlf
  unfold shV
  go_enter Try.func40, Try.ntmps40
  go_upto_region 1 with fail
  rw [← HW0.out]
  have HL0 := Lib.hid (Later.refl W0)
  have ZF0 : Hid (∀ s, W0.heap.size ≤ s → W0.heap.size ≤ s) := Lib.hid (fun _ h => h)
  have ZS0 : Hid (∀ V, Later W0 V → (Later W0) V) := Lib.hid (fun _ h => h)
  refine walk_start 10 (S := Later W0) (T := Later W0) (by kernel_rfl) (fun r => W0.heap.size ≤ r) (fun _ h => h.size) ZS0.out (closed_later _) (Later.refl _).drew ?_
  refine wt 0 10 ?_ (fun V hV => ?_) ?_
  rotate_left 1
  · (clear hV; go_simp; (try with_reducible rfl))
  try simp only [pa, List.set]
  refine wt 1 11 ?_ (fun V hV => ?_) ?_
  rotate_left 1
  · (clear hV; go_simp; (try with_reducible rfl))
  try simp only [pa, List.set]
  refine wt 2 12 ?_ (fun V hV => ?_) ?_
  rotate_left 1
  · (obtain ⟨z1, z3⟩ := SF.out V (HL0.out.trans hV); clear hV; go_simp; (try with_reducible rfl))
  try simp only [pa, List.set]
  refine wt 4 14 ?_ (fun V hV => ?_) ?_
  rotate_left 1
  · (clear hV; go_simp; (try with_reducible rfl))
  try simp only [pa, List.set]
  refine wt 5 15 ?_ (fun V hV => ?_) ?_
  rotate_left 1
  · (clear hV; go_simp; (try with_reducible rfl))
  try simp only [pa, List.set]
  refine wt 6 16 ?_ (fun V hV => ?_) ?_
  rotate_left 1
  · (obtain ⟨z1, z3⟩ := SF.out V (HL0.out.trans hV); clear hV; go_simp; (try with_reducible rfl))
  try simp only [pa, List.set]
  refine walk_pend ⟨9, 8, (.cells #[.bool false, .slice none 0 0, .slice none 0 0, .slice none 0 0] 54), fun r => .pointer (some ⟨r, 0, none⟩)⟩ ⟨_, rfl, rfl, rfl, fun W => ?_⟩ ?_
  · (go_simp; (try with_reducible rfl))
  refine walk_core 3 rfl (by kernel_rfl) (fun _ _ _ _ _ h => h) (fun V hV K hK => ?_)
  have hV0 := HL0.out.trans hV
  go_simp
  go_at_call 34
  rw [← HM1.out]
  refine (cloneS (HPA.out.k.smS (Sm.later hV0)) (by have := HI.out; have := HM1.out; omega)).mono ?_
  rintro e x3 ⟨v3, rfl, ho3, hb⟩
  obtain ⟨E1, e1, rfl⟩ := own_shape ho3
  have HO3 : Hid (x3.ownsRow W0.heap.size 9 1 (.slice E1 p.keys.length e1) p.keys.length (p.keys.map Value.string)) := Lib.hid (own_base ho3 (show Below _ _ _ from hV0).size)
  clear ho3
  have HT3 := Lib.hid (hV.of hb)
  have HL1 := Lib.hid (hV0.of hb)
  have hsize := hb.size
  have hkeep := fun (r : Nat) (_ : True) (h : r < V.heap.size) => hb.block r h
  have ZF1 : Hid (∀ s, x3.heap.size ≤ s → _) := Lib.hid (fun s h => ZF0.out s (Nat.le_trans hV.size (Nat.le_trans hsize h)))
  refine hK.out _ _ (Later x3) (Later x3) _ (fun r _ h => hkeep r trivial h) (fun _ h _ => h) (fun V' h => (hV.of hb).trans h) (fun _ h => h) (fun V' h => ZF1.out _ h.size) (Later.refl _) (closed_later _) ?_
  clear hK K hV hsize hkeep hV0 hb
  try simp only [pa, List.set]
  refine walk_core 7 rfl (by kernel_rfl) (fun _ _ _ _ _ h => h) (fun V hV K hK => ?_)
  have hV0 := HL1.out.trans hV
  go_simp
  go_at_call 35
  rw [← HM3.out]
  refine (cloneN (HPA.out.n.smN (Sm.later hV0)) (by have := HI.out; have := HM3.out; omega)).mono ?_
  rintro e x7 ⟨v7, rfl, ho7, hb⟩
  obtain ⟨E3, e3, rfl⟩ := own_shape ho7
  have HO7 : Hid (x7.ownsRow W0.heap.size 27 1 (.slice E3 p.kids.length e3) p.kids.length (p.kids.map (Value.int .u64))) := Lib.hid (own_base ho7 (show Below _ _ _ from hV0).size)
  clear ho7
  have HT7 := Lib.hid (hV.of hb)
  have HL2 := Lib.hid (hV0.of hb)
  have hsize := hb.size
  have hkeep := fun (r : Nat) (_ : True) (h : r < V.heap.size) => hb.block r h
  have ZF2 : Hid (∀ s, x7.heap.size ≤ s → _) := Lib.hid (fun s h => ZF1.out s (Nat.le_trans hV.size (Nat.le_trans hsize h)))
  refine hK.out _ _ (Later x7) (Later x7) _ (fun r _ h => hkeep r trivial h) (fun _ h _ => h) (fun V' h => (hV.of hb).trans h) (fun _ h => h) (fun V' h => ZF2.out _ h.size) (Later.refl _) (closed_later _) ?_
  clear hK K hV hsize hkeep hV0 hb
  try simp only [pa, List.set]
  refine wt 8 18 ?_ (fun V hV => ?_) ?_
  rotate_left 1
  · (clear hV; go_simp; (try with_reducible rfl))
  try simp only [pa, List.set]
  refine walk_force (by kernel_rfl) (by kernel_rfl) (by kernel_rfl) (by kernel_rfl) (fun r9 x9 hV hr9 hB9 => ?_)
  have lt9 : r9 < x9.heap.size := (Array.getElem?_eq_some_iff.1 hr9).1
  have HL3 := Lib.hid (HL2.out.trans hV)
  have ZF3 : Hid (∀ s, x9.heap.size ≤ s → _ ∧ s ≠ r9) := Lib.hid (fun s h => ⟨ZF2.out s (Nat.le_trans hV.size h), Nat.ne_of_gt (Nat.lt_of_lt_of_le lt9 h)⟩)
  refine ⟨Later x9, Later x9, Later.refl _, fun V' h => hV.trans h, fun _ h => h, fun V' h => ZF2.out _ (Nat.le_trans hV.size h.size), fun V' h => Nat.lt_of_lt_of_le lt9 h.size, closed_later _, ?_⟩
  try simp only [pa, List.set]
  have HT9 := Lib.hid hV
  clear hV
  refine walk_exit (fun V hV => ?_)
  have hV0 := HL3.out.trans hV
  try simp only [pa, List.set]
  have kr : Blk V r9 54 #[.bool false, .slice none 0 0, .slice none 0 0, .slice none 0 0] := Blk.below (show Blk x9 r9 _ _ from hr9) hV lt9
  have h7V : Later x7 V := HT9.out.trans hV
  have o1 := own_later HO3.out (HT7.out.trans h7V)
  have o3 := own_later HO7.out h7V
  obtain ⟨z0, z1, z2, z3⟩ := cells4 kr
  obtain ⟨f0, f1, f2, f3⟩ := frozen4 kr
  have u := upd4 kr (.bool false) (.slice E1 p.keys.length e1) (.slice none 0 0) (.slice E3 p.kids.length e3)
  obtain ⟨W5, hW5⟩ : ∃ W5, W5 = ((((V.setCell ⟨r9, 0, none⟩ (.bool false)).setCell ⟨r9, 1, none⟩ (.slice E1 p.keys.length e1)).setCell ⟨r9, 2, none⟩ (.slice none 0 0)).setCell ⟨r9, 3, none⟩ (.slice E3 p.kids.length e3)) := ⟨_, rfl⟩
  rw [← hW5] at u
  have hl5 : Later W0 W5 := u.below hV0 hB9 (Nat.le_refl _)
  have HP5 := Lib.hid u.blk
  have HO1 := Lib.hid (own_upd o1 u (own_blk o1 kr (by decide)))
  have HO35 := Lib.hid (own_upd o3 u (own_blk o3 kr (by decide)))
  have HR9 : Hid (W0.heap.size ≤ r9) := Lib.hid hB9
  have HL5 := Lib.hid hl5
  have HW5 := Lib.hid hW5
  rw [HM1.out] at HO1
  rw [HM3.out] at HO35
  rw [HM1.out, HM3.out] at HW5 HP5
  clear hV hV0 kr h7V o1 o3 u hW5 hl5
  rw [HM1.out, HM3.out]
  refine wpAnyJ_one (i := 10) (by kernel_rfl) rfl (fun K hK => ?_)
  simp only [List.getElem_toArray, List.getElem_cons_succ, List.getElem_cons_zero]
  go_simp
  refine hK.out _ _ (fun h _ => absurd rfl h) ?_
  clear hK K
  try simp only [pa, List.set]
  refine wpAnyJ_done (by kernel_rfl) ?_ _
  rw [← HW5.out]
  clear z0 z1 z2 z3 f0 f1 f2 f3
  obtain ⟨z0, z1, z2, z3⟩ := cells4 HP5.out
  have kh := HKH.out.below HL5.out HKH.out.lt
  have y4 : W5.cell? ⟨w.heap.size, 4, none⟩ = some (.int .i64 (i : Nat)) := (kh.cell 4).trans rfl
  have b1 : (0 : Int) ≤ (i : Int) := by omega
  have b2 : (i : Int) < (m3 : Int) := by have := HI.out; omega
  by_cases h0 : n = 0
  · subst h0
    have hlen3 : ((p.kids.map (Value.int .u64)).take i ++ (p.kids.map (Value.int .u64)).drop (i + 1)).length = m1 := by
      have := HM3.out
      have := HI.out
      rw [List.length_append, List.length_take, List.length_drop, List.length_map]; omega
    have CD := Lib.hid (delN HO35.out (map_one (fun _ => rfl) p.kids) (i := i) (by have := HI.out; omega) (by have := HI.out; omega))
    have HKH5 := Lib.hid kh
    have ewp : IntKind.i64.wrap ((i : Int) + 1) = (i : Int) + 1 := IntWalk.i64_in _ (by have := HI.out; omega)
    have ewm : IntKind.i64.wrap ((i : Int) - 1) = (i : Int) - 1 := IntWalk.i64_in _ (by have := HI.out; omega)
    have HLEN3 := Lib.hid hlen3
    have HT0 := Lib.hid HT.out
    clear hlen3 kh b1 b2
    go_wp2_with fail
    refine CD.out.mono ?_
    rintro e w6 ⟨v6, rfl, o6, hk6, hn6⟩
    rw [HLEN3.out] at o6
    obtain ⟨F3, f3', rfl⟩ := own_shape o6
    have kp6 := hk6.blk HP5.out (fun e => own_blk HO35.out HP5.out (by decide) e)
    have kh6 := hk6.blk HKH5.out (fun e => own_blk HO35.out HKH5.out (by decide) e)
    have o16 := own_kept HO1.out hk6 fun g hg => own_ne HO1.out HO35.out (by decide) hg
    have hl6 : Later W0 w6 := (show Below _ _ _ from HL5.out).trans (hk6.below (show Below _ _ _ from HL5.out).size fun k hk => (HO35.out.lt k hk).1)
    have u := upd1 kp6 3 (.slice F3 m1 f3')
    obtain ⟨W7, hW7⟩ : ∃ W7, W7 = w6.setCell ⟨r9, 3, none⟩ (.slice F3 m1 f3') := ⟨_, rfl⟩
    rw [← hW7] at u
    have hl7 : Later W0 W7 := u.below hl6 HR9.out (Nat.le_refl _)
    have HO37 := Lib.hid (own_upd o6 u (own_blk o6 kp6 (by decide)))
    have HO17 := Lib.hid (own_upd o16 u (own_blk o16 kp6 (by decide)))
    have kp7 : Blk W7 r9 54 #[.bool false, .slice E1 m1 e1, .slice none 0 0, .slice F3 m1 f3'] := by simpa using u.blk
    have HP7 := Lib.hid kp7
    have kh7 := u.far kh6 (kh6.ne_ kp6 (by decide))
    have HKH7 := Lib.hid kh7
    have HL7 := Lib.hid hl7
    have HW7 := Lib.hid hW7
    obtain ⟨t0, t1, t2, t3⟩ := cells4 kp6
    obtain ⟨f0, f1, f2, f3⟩ := frozen4 kp6
    clear CD z0 z1 z2 z3 y4 o6 hk6 hn6 o16 hl6 u hW7 hl7 kp7 kh6 kh7
    go_upto_region 5 with fail
    rw [← HW7.out]
    have y4 : W7.cell? ⟨w.heap.size, 4, none⟩ = some (.int .i64 (i : Nat)) := (HKH7.out.cell 4).trans rfl
    obtain ⟨z0, z1, z2, z3⟩ := cells4 HP7.out
    clear t0 t1 t2 t3 f0 f1 f2 f3 kp6
    go_upto_region 6 with fail
    obtain ⟨at_, hat⟩ : ∃ at_ : Nat, at_ = i - 1 := ⟨_, rfl⟩
    have hmx : max ((i : Int) - 1) 0 = (at_ : Int) := by omega
    rw [hmx]
    obtain ⟨m0, hm0⟩ : ∃ m0, m1 = m0 + 1 := ⟨m1 - 1, by have := HI.out; omega⟩
    have hlen1 : ((p.keys.map Value.string).take at_ ++ (p.keys.map Value.string).drop (at_ + 1)).length = m0 := by
      have := HM1.out
      have := HI.out
      rw [List.length_append, List.length_take, List.length_drop, List.length_map]; omega
    have CD := Lib.hid (delS HO17.out (map_one (fun _ => rfl) p.keys) (i := at_) (by have := HI.out; omega) (by have := HI.out; omega))
    have HLEN1 := Lib.hid hlen1
    have HAT := Lib.hid hat
    have HM0 := Lib.hid hm0
    have hatb : (at_ : Int) < (m1 : Int) := by have := HI.out; omega
    have hatn : at_ < m1 := by have := HI.out; omega
    have ewp : IntKind.i64.wrap ((at_ : Int) + 1) = (at_ : Int) + 1 := IntWalk.i64_in _ (by have := HI.out; omega)
    clear hlen1 hmx hat hm0 ewm
    go_upto_region 8 with fail
    refine CD.out.mono ?_
    rintro e w8 ⟨v8, rfl, o8, hk8, hn8⟩
    rw [HLEN1.out] at o8
    obtain ⟨F1, f1', rfl⟩ := own_shape o8
    have kp8 := hk8.blk HP7.out (fun e => own_blk HO17.out HP7.out (by decide) e)
    have o38 := own_kept HO37.out hk8 fun g hg => own_ne HO37.out HO17.out (by decide) hg
    have hl8 : Later W0 w8 := (show Below _ _ _ from HL7.out).trans (hk8.below (show Below _ _ _ from HL7.out).size fun k hk => (HO17.out.lt k hk).1)
    have u := upd1 kp8 1 (.slice F1 m0 f1')
    obtain ⟨W9, hW9⟩ : ∃ W9, W9 = w8.setCell ⟨r9, 1, none⟩ (.slice F1 m0 f1') := ⟨_, rfl⟩
    rw [← hW9] at u
    have hl9 : Later W0 W9 := u.below hl8 HR9.out (Nat.le_refl _)
    have kp9 : Blk W9 r9 54 #[.bool false, .slice F1 m0 f1', .slice none 0 0, .slice F3 m1 f3'] := by simpa using u.blk
    have hkl : (lessP p i).keys.length = m0 := by
      have := HLEN1.out
      have := HAT.out
      subst this
      simpa [lessP] using HLEN1.out
    have hnl : (lessP p i).kids.length = m1 := by simpa [lessP] using HLEN3.out
    have hpv : PgA W9 F1 f1' none 0 F3 f3' (lessP p i) := by
      obtain ⟨X1, y1, e1', r1⟩ := Row.of_own (l := (lessP p i).keys) (enc := Value.string) (by
        rw [hkl]
        have := own_upd o8 u (own_blk o8 kp8 (by decide))
        rw [HAT.out] at this
        simpa only [lessP, List.map_append, List.map_take, List.map_drop] using this)
      obtain ⟨X3, y3, e3', r3⟩ := Row.of_own (l := (lessP p i).kids) (enc := Value.int .u64) (by
        rw [hnl]
        have := own_upd o38 u (own_blk o38 kp8 (by decide))
        simpa only [lessP, List.map_append, List.map_take, List.map_drop] using this)
      rw [hkl] at e1'
      rw [hnl] at e3'
      cases e1'
      cases e3'
      exact ⟨r1, Row.nil _ _ (by unfold maxLen; omega), r3⟩
    have hpw : PgV W9 #[.bool false, .slice F1 m0 f1', .slice none 0 0, .slice F3 m1 f3'] (lessP p i) := ⟨F1, f1', none, 0, F3, f3', by unfold pgc; rw [hkl, hnl]; rfl, hpv⟩
    have HPV := Lib.hid hpv
    have HPW := Lib.hid hpw
    have HKL := Lib.hid hkl
    have HNL := Lib.hid hnl
    have HL9 := Lib.hid hl9
    have HP9 := Lib.hid kp9
    have HW9 := Lib.hid hW9
    obtain ⟨t0, t1, t2, t3⟩ := cells4 kp8
    obtain ⟨f0, f1, f2, f3⟩ := frozen4 kp8
    clear CD z0 z1 z2 z3 o8 hk8 hn8 o38 hl8 u hW9 hl9 kp9 hkl hnl hpv hpw hatb hatn
    go_upto_region 8 with fail
    rw [← HW9.out]
    obtain ⟨z0, z1, z2, z3⟩ := cells4 HP9.out
    clear t0 t1 t2 t3 f0 f1 f2 f3 kp8
    have q0 : ¬ ((m1 : Int) = 0) := by have := HM0.out; omega
    have hs9 := HS0.out.later HL9.out
    by_cases h1 : m1 = 1
    · subst h1
      obtain ⟨g, o, cs, hF3, hbg, hcg⟩ := HPV.out.n.at_ (by rw [HNL.out]; omega)
      subst hF3
      obtain ⟨x, hx⟩ : ∃ x, (lessP p i).kids[0]? = some x := ⟨_, List.getElem?_eq_getElem (by rw [HNL.out]; omega)⟩
      have y0 : W9.cell? ⟨g, o, none⟩ = some (.int .u64 x) := (hbg.cell o).trans (hcg 0 x hx)
      have hturn : T = (s, some x) := by
        rw [HT0.out]; unfold turnW
        rw [if_pos rfl, if_pos HNL.out, List.getD_eq_getElem?_getD, hx]; rfl
      have FIN : Hid (TurnPost B b ill T w (.returned (.tuple #[.int .u64 x, .int .i64 0])) W9) := Lib.hid (by
        rw [hturn]
        exact ⟨rfl, ⟨v, hs9⟩, ((show Below _ _ _ from (show Later w W0 from HB0.out).trans HL9.out).mono HB.out), fun g t cs _ hb => hb.below (show Later w W9 from (show Later w W0 from HB0.out).trans HL9.out) hb.lt, Sm.later ((show Later w W0 from HB0.out).trans HL9.out), later_others ((show Later w W0 from HB0.out).trans HL9.out)⟩)
      clear hbg hcg hx hturn hs9
      go_wp2_with fail
      go_ret2
      exact FIN.out
    · have q1 : ¬ ((m1 : Int) = 1) := by omega
      have CA := Lib.hid (shAdd_any hs9 (by have := HB.out; have := HSZ.out; have := (show Below _ _ _ from HL9.out).size; omega) HN.out.1 (by have := HN.out; omega) (by have := HN.out; omega) HPW.out)
      have hturn : T = addS ill s (lessP p i) := by rw [HT0.out]; unfold turnW; rw [if_pos rfl, if_neg (by rw [HNL.out]; exact h1)]
      have HTU := Lib.hid hturn
      have HS9 := Lib.hid hs9
      clear hturn hs9 h1
      go_wp2_with fail
      refine CA.out.mono ?_
      rintro e w7 hsa
      have hw7 := (show ShAdd B b ill s v (lessP p i) W9 e w7 from hsa).wr HS9.out (by have := HB.out; have := HSZ.out; have := (show Below _ _ _ from HL9.out).size; omega)
      obtain ⟨v', he, _⟩ := hsa
      subst he
      rw [← HTU.out] at hw7 ⊢
      have FIN : Hid (TurnPost B b ill T w (.returned (.tuple #[.int .u64 (T.2.getD 0), .int .i64 (if T.2.isSome then 0 else 4)])) w7) := Lib.hid ⟨rfl, hw7.from_ HB.out (show Later w W9 from (show Later w W0 from HB0.out).trans HL9.out)⟩
      generalize T.2.getD 0 = rn at *
      generalize (if T.2.isSome then (0 : Int) else 4) = re at *
      clear hw7
      go_wp2_with fail
      go_ret2
      exact FIN.out
  · have hn0 : (n != 0) = true := by rw [bne_iff_ne]; exact h0
    obtain ⟨g3, cs3, hE3, hg3, kg3, ⟨u3, hu3⟩, ho36⟩ := own_setN HO35.out (i := i) (by have := HI.out; omega) n
    subst hE3
    obtain ⟨W6, hW6⟩ : ∃ W6, W6 = W5.setCell ⟨g3, i, none⟩ (.int .u64 n) := ⟨_, rfl⟩
    rw [← hW6] at ho36
    have fg := kg3.frozen i
    have n93 : r9 ≠ g3 := fun e => HP5.out.ne_ kg3 (by decide) e
    have nh3 : w.heap.size ≠ g3 := fun e => kh.ne_ kg3 (by decide) e
    have hl6 : Later W0 W6 := by rw [hW6]; exact (HL5.out).setCell (p := ⟨g3, i, none⟩) hg3 _
    have p6 : Blk W6 r9 54 #[.bool false, .slice E1 m1 e1, .slice none 0 0, .slice (some ⟨g3, 0, none⟩) m3 e3] := by rw [hW6]; exact HP5.out.far (p := ⟨g3, i, none⟩) n93 _
    have o16 : W6.ownsRow W0.heap.size 9 1 (.slice E1 m1 e1) m1 (p.keys.map Value.string) := by rw [hW6]; exact own_far (p := ⟨g3, i, none⟩) HO1.out (own_blk HO1.out kg3 (by decide)) (.int .u64 n)
    have hpv : PgV W6 #[.bool false, .slice E1 m1 e1, .slice none 0 0, .slice (some ⟨g3, 0, none⟩) m3 e3] ⟨false, p.keys, [], p.kids.set i n⟩ := by
      obtain ⟨X1, y1, e1', r1⟩ := Row.of_own (by have := o16; rw [← HM1.out] at this; exact this)
      obtain ⟨X3, y3, e3', r3⟩ := Row.of_own (l := p.kids.set i n) (by rw [List.length_set, HM3.out]; exact ho36)
      refine ⟨E1, e1, none, 0, some ⟨g3, 0, none⟩, e3, ?_, ?_, Row.nil _ _ (by unfold maxLen; omega), ?_⟩
      · unfold pgc; rw [List.length_set, HM1.out, HM3.out]; rfl
      · cases e1'; exact r1
      · rw [List.length_set, HM3.out] at e3'; cases e3'; exact r3
    have CA := Lib.hid (shAdd_any (HS0.out.later hl6) (by have := HB.out; have := HSZ.out; have := (show Below _ _ _ from hl6).size; omega) HN.out.1 (by have := HN.out; omega) (by have := HN.out; omega) hpv)
    have HS6 := Lib.hid (HS0.out.later hl6)
    have HL6 := Lib.hid hl6
    have HW6 := Lib.hid hW6
    have m1p : ¬ ((m3 : Int) = 0) := by have := HI.out; omega
    have m1q : ¬ ((m3 : Int) = 1) := by have := HI.out; omega
    have hturn : T = addS ill s ⟨false, p.keys, [], p.kids.set i n⟩ := by rw [HT.out]; unfold turnW; rw [if_neg h0]
    have HTU := Lib.hid hturn
    clear kh hg3 kg3 ho36 hl6 p6 o16 hpv hW6 hturn h0
    go_wp2_with fail
    rw [← HW6.out]
    refine CA.out.mono ?_
    rintro e w7 hsa
    have hw7 := (show ShAdd B b ill s v ⟨false, p.keys, [], p.kids.set i n⟩ W6 e w7 from hsa).wr HS6.out (by have := HB.out; have := HSZ.out; have := (show Below _ _ _ from HL6.out).size; omega)
    obtain ⟨v', he, _⟩ := hsa
    subst he
    rw [← HTU.out] at hw7 ⊢
    have FIN : Hid (TurnPost B b ill T w (.returned (.tuple #[.int .u64 (T.2.getD 0), .int .i64 (if T.2.isSome then 0 else 4)])) w7) := Lib.hid ⟨rfl, hw7.from_ HB.out (show Later w W6 from (show Later w W0 from HB0.out).trans HL6.out)⟩
    generalize T.2.getD 0 = rn at *
    generalize (if T.2.isSome then (0 : Int) else 4) = re at *
    clear hw7
    go_wp2_with fail
    go_ret2
    exact FIN.out
end Go.Proofs.Ytafeddjcomeniaa
end

/- page.Drop on a leaf that has the key. Conditions: the page reads in memory; it may be, and has few keys. -/
section
namespace Go.Proofs.Ytafeddjcomeniaa
open Go.RowKit
set_option linter.unusedVariables false
set_option linter.unusedSimpArgs false

section
variable {w : World} {A1 A2 A3 : Option Addr} {c1 c2 c3 : Nat} {ks vs : List ByteArray} {ns : List Int}
set_option maxRecDepth 100000 in
set_option maxHeartbeats 8000000 in
theorem drop_a (key : ByteArray) (h : PgA w A1 c1 A2 c2 A3 c3 ⟨true, ks, vs, ns⟩) (hk : ks.length ≤ 1000) (hr : Rise ks) (hv : vs.length = ks.length) (hn : ns.length ≤ 1000) (hT : thereB ks key = true) : Calls Try.prog 39 #[.agg (pgc A1 c1 A2 c2 A3 c3 ⟨true, ks, vs, ns⟩), .string key] w (PgPost w (dropP ⟨true, ks, vs, ns⟩ key)) := by
  have hpu : dropP ⟨true, ks, vs, ns⟩ key = ⟨true, ks.take (findN ks key) ++ ks.drop (findN ks key + 1), vs.take (findN ks key) ++ vs.drop (findN ks key + 1), ns⟩ := by
    unfold dropP
    dsimp only
    rw [hT, if_pos (by rfl)]
  have hlt : findN ks key < ks.length := by
    have h := hT
    unfold thereB at h
    simp only [Bool.and_eq_true, decide_eq_true_eq] at h
    exact h.1
  unfold pgc
  dsimp only at *
  obtain ⟨W1, hW1⟩ : ∃ W1, W1 = (w.alloc (.cells #[.bool true, .slice A1 ks.length c1, .slice A2 vs.length c2, .slice A3 ns.length c3] 54)).alloc (.cells #[.bool false, .slice none 0 0, .slice none 0 0, .slice none 0 0] 54) := ⟨_, rfl⟩
  have hb1 : Below w.heap.size w W1 := by rw [hW1]; exact (below_new _ _).alloc (by simp) _
  have hs1 : W1.heap.size = w.heap.size + 2 := by rw [hW1]; simp
  have kp : Blk W1 w.heap.size 54 #[.bool true, .slice A1 ks.length c1, .slice A2 vs.length c2, .slice A3 ns.length c3] := by rw [hW1]; exact (Blk.new _ _ _).alloc _
  have kz : Blk W1 (w.heap.size + 1) 54 #[.bool false, .slice none 0 0, .slice none 0 0, .slice none 0 0] := by
    rw [hW1]
    have := Blk.new (w.alloc (.cells #[.bool true, .slice A1 ks.length c1, .slice A2 vs.length c2, .slice A3 ns.length c3] 54)) 54 #[.bool false, .slice none 0 0, .slice none 0 0, .slice none 0 0]
    simpa using this
  have hp1 := h.sm (Sm.below hb1)
  have CF := find_a key hp1 hk hr
  rw [hT] at CF
  have HP1 := Lib.hid hp1
  obtain ⟨q0, q1, q2, q3⟩ := cells4 kp
  have HW1 := Lib.hid hW1
  have HB1 := Lib.hid hb1
  have HKP := Lib.hid kp
  have HKZ := Lib.hid kz
  have HS1 := Lib.hid hs1
  have HR := Lib.hid hr
  have HV := Lib.hid hv
  have HK := Lib.hid hk
  have HN := Lib.hid hn
  generalize findN ks key = f at *
  have HP := Lib.hid hpu
  unfold pgc at CF
  dsimp only at CF
  have CF2 := Lib.hid CF
  clear CF h hp1 hr hv hk hn hW1 hb1 kp kz hs1 hpu hT
  go_enter Try.func39, Try.ntmps39
  go_upto_region 1 with fail
  rw [← HW1.out]
  go_wp2_with fail
  refine CF2.out.mono ?_
  rintro e w2 ⟨rfl, hb2⟩
  have kp2 := HKP.out.below hb2 HKP.out.lt
  have kz2 := HKZ.out.below hb2 HKZ.out.lt
  have hb2w := HB1.out.trans (hb2.mono HB1.out.size)
  have CC := Lib.hid (clone_own (HP1.out.sm (Sm.below hb2)) (show ks.length ≤ 1001 ∧ vs.length ≤ 1001 ∧ ns.length ≤ 1001 by have := HK.out; have := HV.out; have := HN.out; omega))
  have hs2 : w.heap.size + 2 ≤ w2.heap.size := by have := HS1.out; have := hb2.size; omega
  obtain ⟨y0, y1, y2, y3⟩ := cells4 kp2
  have HKP2 := Lib.hid kp2
  have HKZ2 := Lib.hid kz2
  have HB2 := Lib.hid hb2w
  have HS2 := Lib.hid hs2
  clear CF2 HKP HKZ q0 q1 q2 q3 hb2 kp2 kz2 hb2w hs2
  unfold pgc at CC
  dsimp only at CC
  go_wp2_with fail
  refine CC.out.mono ?_
  rintro e w3 ⟨hb3, v1, v2, v3, rfl, ho3⟩
  have kp3 := HKP2.out.below hb3 HKP2.out.lt
  have kz3 := HKZ2.out.below hb3 HKZ2.out.lt
  have u := upd4 kp3 (.bool true) v1 v2 v3
  obtain ⟨w5, hw5⟩ : ∃ W4, W4 = (((w3.setCell ⟨w.heap.size, 0, none⟩ (.bool true)).setCell ⟨w.heap.size, 1, none⟩ v1).setCell ⟨w.heap.size, 2, none⟩ v2).setCell ⟨w.heap.size, 3, none⟩ v3 := ⟨_, rfl⟩
  rw [← hw5] at u
  obtain ⟨B1, d1, e1⟩ := own_shape ho3.k
  obtain ⟨B2, d2, e2⟩ := own_shape ho3.v
  obtain ⟨B3, d3, e3⟩ := own_shape ho3.n
  subst e1 e2 e3
  have hs2 := HS2.out
  have ho4 := ho3.upd u kp3 (by decide) (by decide)
  have ho5 : PgOwn w5 (w.heap.size + 2) (.slice B1 ks.length d1) (.slice B2 vs.length d2) (.slice B3 ns.length d3) ⟨true, ks, vs, ns⟩ := ⟨own_base ho4.k hs2, own_base ho4.v hs2, own_base ho4.n hs2, ho4.ne⟩
  have kp5 := u.blk
  have kz5 := u.far kz3 (by omega)
  have hbw : Below w.heap.size w w5 := u.below (HB2.out.trans (hb3.mono HB2.out.size)) (Nat.le_refl _) (Nat.le_refl _)
  have hs5 : w.heap.size + 2 ≤ w5.heap.size := by rw [u.size]; have := hb3.size; omega
  obtain ⟨z0, z1, z2, z3⟩ := cells4 kp3
  obtain ⟨f0, f1, f2, f3⟩ := frozen4 kp3
  have HW5 := Lib.hid hw5
  obtain ⟨L1, hL1⟩ : ∃ L, L = ks.take f ++ ks.drop (f + 1) := ⟨_, rfl⟩
  obtain ⟨L2, hL2⟩ : ∃ L, L = vs.take f ++ vs.drop (f + 1) := ⟨_, rfl⟩
  have hHP := HP.out
  rw [← hL1, ← hL2] at hHP
  have HP2 := Lib.hid hHP
  have HLK := Lib.hid hL1
  have HLV := Lib.hid hL2
  have SF : Hid (∀ V, Below (w.heap.size + 2) w5 V → V.cell? ⟨w.heap.size, 0, none⟩ = some (.bool true) ∧ V.cell? ⟨w.heap.size, 1, none⟩ = some (.slice B1 ks.length d1) ∧ V.cell? ⟨w.heap.size, 2, none⟩ = some (.slice B2 vs.length d2) ∧ V.cell? ⟨w.heap.size, 3, none⟩ = some (.slice B3 ns.length d3)) := Lib.hid fun V hV => cells4 (kp5.below hV (by omega))
  have HO5 := Lib.hid ho5
  have HKP := Lib.hid kp5
  have HKZ := Lib.hid kz5
  have HBW := Lib.hid hbw
  clear hHP hL1 hL2 hw5 hb3 ho3 ho4 kp3 kz3 u ho5 kp5 kz5 hbw CC y0 y1 y2 y3
  go_upto_region 5 with fail
  rw [← HW5.out]
  clear z0 z1 z2 z3 f0 f1 f2 f3
  have ew : IntKind.i64.wrap ((f : Int) + 1) = (f : Int) + 1 := IntWalk.i64_in _ (by have := HK.out; omega)
  have HL0 := Lib.hid (Later.refl w5)
  have ZF0 : Hid (∀ s, w5.heap.size ≤ s → w5.heap.size ≤ s) := Lib.hid (fun _ h => h)
  have ZS0 : Hid (∀ V, Later w5 V → (Below (w.heap.size + 2) w5) V) := Lib.hid (fun V' h => (show Below _ _ _ from h).mono (show w.heap.size + 2 ≤ w5.heap.size by first | omega | (simp; done) | (simp; omega)))
  refine walk_start 13 (S := Below (w.heap.size + 2) w5) (T := Later w5) (by kernel_rfl) (fun r => w5.heap.size ≤ r) (fun _ h => h.size) ZS0.out (closed_later _) (Later.refl _).drew ?_
  refine wt 0 23 ?_ (fun V hV => ?_) ?_
  rotate_left 1
  · (clear hV; go_simp; (try with_reducible rfl))
  try simp only [pa, List.set]
  refine wt 1 24 ?_ (fun V hV => ?_) ?_
  rotate_left 1
  · (obtain ⟨q0, q1, q2, q3⟩ := SF.out V hV; clear hV; go_simp; (try with_reducible rfl))
  try simp only [pa, List.set]
  refine wt 2 25 ?_ (fun V hV => ?_) ?_
  rotate_left 1
  · (clear hV; go_simp; (try with_reducible rfl))
  try simp only [pa, List.set]
  refine wt 3 26 ?_ (fun V hV => ?_) ?_
  rotate_left 1
  · (clear hV; go_simp; (try with_reducible rfl))
  try simp only [pa, List.set]
  refine wt 4 27 ?_ (fun V hV => ?_) ?_
  rotate_left 1
  · (clear hV; go_simp; (try with_reducible rfl))
  try simp only [pa, List.set]
  refine wt 6 29 ?_ (fun V hV => ?_) ?_
  rotate_left 1
  · (clear hV; go_simp; (try with_reducible rfl))
  try simp only [pa, List.set]
  refine wt 7 30 ?_ (fun V hV => ?_) ?_
  rotate_left 1
  · (obtain ⟨q0, q1, q2, q3⟩ := SF.out V hV; clear hV; go_simp; (try with_reducible rfl))
  try simp only [pa, List.set]
  refine wt 8 31 ?_ (fun V hV => ?_) ?_
  rotate_left 1
  · (clear hV; go_simp; (try with_reducible rfl))
  try simp only [pa, List.set]
  refine wt 9 32 ?_ (fun V hV => ?_) ?_
  rotate_left 1
  · (clear hV; go_simp; (try with_reducible rfl))
  try simp only [pa, List.set]
  refine wt 10 33 ?_ (fun V hV => ?_) ?_
  rotate_left 1
  · (clear hV; go_simp; (try with_reducible rfl))
  try simp only [pa, List.set]
  refine walk_core 5 rfl (by kernel_rfl) (fun _ _ _ _ _ h => h) (fun V hV K hK => ?_)
  have hV0 := HL0.out.trans hV
  have hSV := ZS0.out V hV
  go_simp
  go_at_call 69
  have hlt5 := fun (r : Nat) (h : (Value.slice B1 ks.length d1).ownBlock = some r) => (HO5.out.k.lt r h).2
  have hsv : w5.heap.size ≤ V.heap.size := (show Below _ _ _ from hV0).size
  refine (delLS (own_later HO5.out.k hV0) hlt (by have := HK.out; show ks.length ≤ _; omega)).mono ?_
  rw [← HLK.out]
  rintro e x5 ⟨E1, e1, rfl, h5, hk5, hn5⟩
  have hsize := hk5.size
  have hkeep := fun (r : Nat) (hF : w5.heap.size ≤ r) (hl : r < V.heap.size) => hk5.block r hl (fun h => by have := hlt5 r h; omega)
  have hS := fun V' (h : Later x5 V') => (show Below (w.heap.size + 2) w5 V from (show Below _ _ _ from hV0).mono hs5).trans ((hk5.below (Nat.le_trans hs5 hsv) (fun i h => (HO5.out.k.lt i h).1)).trans ((show Below _ _ _ from h).mono (Nat.le_trans hs5 (Nat.le_trans hsv hsize))))
  have HO : Hid (PgOwn x5 (w.heap.size + 2) (.slice E1 L1.length e1) (.slice B2 vs.length d2) (.slice B3 ns.length d3) ⟨true, L1, vs, ns⟩) := Lib.hid ⟨h5, own_kept (own_later HO5.out.v hV0) hk5 (fun g hg h => HO5.out.ne g h hg), own_kept (own_later HO5.out.n hV0) hk5 (fun g hg h => own_ne HO5.out.k HO5.out.n (by decide) h hg), fun g h h' => by
    rcases hn5 g h with h'' | h''
    · exact HO5.out.ne g h'' h'
    · have := (HO5.out.v.lt g h').2; omega⟩
  have HS55 := Lib.hid (Nat.le_trans hsv hsize)
  clear hlt5 hsv h5 hk5 hn5
  have ZF1 : Hid (∀ s, x5.heap.size ≤ s → _) := Lib.hid (fun s h => ZF0.out s (Nat.le_trans hV.size (Nat.le_trans hsize h)))
  have ZS1 : Hid (∀ V, Later x5 V → (Below (w.heap.size + 2) w5) V) := Lib.hid hS
  refine hK.out _ _ (Below (w.heap.size + 2) w5) (Later x5) _ hkeep (fun _ h _ => h) (fun _ h => h) ZS1.out (fun V' h => ZF1.out _ h.size) (Later.refl _) (closed_later _) ?_
  clear hK K hV hsize hkeep hV0 hSV hS
  try simp only [pa, List.set]
  refine wt 12 35 ?_ (fun V hV => ?_) ?_
  rotate_left 1
  · (clear hV; go_simp; (try with_reducible rfl))
  try simp only [pa, List.set]
  refine walk_core 11 rfl (by kernel_rfl) (fun _ _ _ _ _ h => h) (fun V hV K hK => ?_)
  have hSV := ZS1.out V hV
  go_simp
  go_at_call 69
  have h5V : Later x5 V := hV
  have hsv : x5.heap.size ≤ V.heap.size := (show Below _ _ _ from h5V).size
  have hz := HS55.out
  have hlt11 := fun (r : Nat) (h : (Value.slice B2 vs.length d2).ownBlock = some r) => (HO5.out.v.lt r h).2
  refine (delLS (own_later HO.out.v h5V) (by have := HV.out; show f < vs.length; omega) (by have := HK.out; have := HV.out; show vs.length ≤ _; omega)).mono ?_
  rw [← HLV.out]
  rintro e x11 ⟨E2, e2, rfl, h11, hk11, hn11⟩
  have hsize := hk11.size
  have hkeep := fun (r : Nat) (hF : w5.heap.size ≤ r) (hl : r < V.heap.size) => hk11.block r hl (fun h => by have := hlt11 r h; omega)
  have hS := fun V' (h : Later x11 V') => (show Below (w.heap.size + 2) w5 V from hSV).trans ((hk11.below (by omega) (fun i h => (HO5.out.v.lt i h).1)).trans ((show Below _ _ _ from h).mono (by omega)))
  have HO2 : Hid (PgOwn x11 (w.heap.size + 2) (.slice E1 L1.length e1) (.slice E2 L2.length e2) (.slice B3 ns.length d3) ⟨true, L1, L2, ns⟩) := Lib.hid ⟨own_kept (own_later HO.out.k h5V) hk11 (fun g hg h => HO.out.ne g hg h), h11, own_kept (own_later HO.out.n h5V) hk11 (fun g hg h => own_ne HO.out.v HO.out.n (by decide) h hg), fun g h h' => by
    rcases hn11 g h' with h'' | h''
    · exact HO.out.ne g h h''
    · have := (HO.out.k.lt g h).2; omega⟩
  clear hsv hz hlt11 h11 hk11 hn11 h5V
  have ZF2 : Hid (∀ s, x11.heap.size ≤ s → _) := Lib.hid (fun s h => ZF1.out s (Nat.le_trans hV.size (Nat.le_trans hsize h)))
  have ZS2 : Hid (∀ V, Later x11 V → (Below (w.heap.size + 2) w5) V) := Lib.hid hS
  refine hK.out _ _ (Below (w.heap.size + 2) w5) (Later x11) _ hkeep (fun _ h _ => h) (fun _ h => h) ZS2.out (fun V' h => ZF2.out _ h.size) (Later.refl _) (closed_later _) ?_
  clear hK K hV hsize hkeep hSV hS
  try simp only [pa, List.set]
  refine walk_exit (fun V hV => ?_)
  have hSV := ZS2.out V hV
  try simp only [pa, List.set]
  have kp := HKP.out.below hSV (by omega)
  have kz := HKZ.out.below hSV (by omega)
  have ho := HO2.out.later hV
  have u8 := upd1 kp 1 (.slice E1 L1.length e1)
  obtain ⟨W8, hW8⟩ : ∃ W8, W8 = V.setCell ⟨w.heap.size, 1, none⟩ (.slice E1 L1.length e1) := ⟨_, rfl⟩
  rw [← hW8] at u8
  have kp8 : Blk W8 w.heap.size 54 #[.bool true, .slice E1 L1.length e1, .slice B2 vs.length d2, .slice B3 ns.length d3] := u8.blk
  have u9 := upd1 kp8 2 (.slice E2 L2.length e2)
  obtain ⟨W9, hW9⟩ : ∃ W9, W9 = W8.setCell ⟨w.heap.size, 2, none⟩ (.slice E2 L2.length e2) := ⟨_, rfl⟩
  rw [← hW9] at u9
  have kp9 : Blk W9 w.heap.size 54 #[.bool true, .slice E1 L1.length e1, .slice E2 L2.length e2, .slice B3 ns.length d3] := u9.blk
  have kz9 := u9.far (u8.far kz (show w.heap.size + 1 ≠ w.heap.size by omega)) (show w.heap.size + 1 ≠ w.heap.size by omega)
  have hb9 : Below w.heap.size w W9 := u9.below (u8.below (HBW.out.trans ((show Below (w.heap.size + 2) w5 V from hSV).mono (by omega))) (Nat.le_refl _) (Nat.le_refl _)) (Nat.le_refl _) (Nat.le_refl _)
  have u7 := upd4 kz9 (.bool true) (.slice E1 L1.length e1) (.slice E2 L2.length e2) (.slice B3 ns.length d3)
  have ho7 := ((ho.upd u8 kp (by decide) (by decide)).upd u9 kp8 (by decide) (by decide)).upd u7 kz9 (by decide) (by decide)
  obtain ⟨z0, z1, z2, z3⟩ := cells4 kp
  obtain ⟨f0, f1, f2, f3⟩ := frozen4 kp
  obtain ⟨y0, y1, y2, y3⟩ := cells4 kp8
  obtain ⟨g0, g1, g2, g3⟩ := frozen4 kp8
  obtain ⟨x0, x1, x2, x3⟩ := cells4 kp9
  obtain ⟨j0, j1, j2, j3⟩ := cells4 kz9
  obtain ⟨i0, i1, i2, i3⟩ := frozen4 kz9
  have HU7 := Lib.hid u7
  have HO7 := Lib.hid ho7
  have HB9 := Lib.hid hb9
  have HW8 := Lib.hid hW8
  have HW9 := Lib.hid hW9
  clear kp kz ho u8 kp8 u9 kp9 kz9 hb9 u7 ho7 hW8 hW9 hSV hV
  refine wpAnyJ_one (i := 13) (by kernel_rfl) rfl (fun K hK => ?_)
  simp only [List.getElem_toArray, List.getElem_cons_succ, List.getElem_cons_zero]
  go_simp
  refine hK.out _ _ (fun h _ => absurd rfl h) ?_
  clear hK K
  try simp only [pa, List.set]
  rw [← HW8.out]
  clear z0 z1 z2 z3 f0 f1 f2 f3
  refine wpAnyJ_pure (i := 14) (d := some 36) (v := ?_) (by kernel_rfl) rfl rfl (Or.inl ⟨by rfl, ?_⟩) (fun _ h => absurd ((show _ = true by kernel_rfl).symm.trans h) (by decide)) ?_
  rotate_left 1
  · (intro V; go_simp; (try with_reducible rfl))
  try simp only [pa, List.set]
  refine wpAnyJ_one (i := 15) (by kernel_rfl) rfl (fun K hK => ?_)
  simp only [List.getElem_toArray, List.getElem_cons_succ, List.getElem_cons_zero]
  go_simp
  refine hK.out _ _ (fun _ h => absurd ((show _ = true by kernel_rfl).symm.trans h) (by decide)) ?_
  clear hK K
  try simp only [pa, List.set]
  refine wpAnyJ_done (by kernel_rfl) ?_ _
  rw [← HW9.out]
  clear y0 y1 y2 y3 g0 g1 g2 g3
  go_wp2_with fail
  refine bodyPost_ret_by (results_c1 rfl _ _ (w.heap.size + 1) 54 _ (0, 0) _ rfl HU7.out.blk Try.underlying54 rfl (by kernel_rfl)) rfl ?_
  rw [HP2.out]
  exact ⟨HU7.out.below HB9.out (by omega) (Nat.le_refl _), _, rfl, HO7.out.pgv⟩
end
theorem drop_v {w : World} {cs : Array Value} {p : Pg} (key : ByteArray) (h : PgV w cs p) (ho : Ok p) (hl : p.leaf = true) (hT : thereB p.keys key = true) : Calls Try.prog 39 #[.agg cs, .string key] w (PgPost w (dropP p key)) := by
  obtain ⟨A1, c1, A2, c2, A3, c3, rfl, h⟩ := h
  have hf := good_few ho
  have hr := good_rise ho.good
  rcases good_shape ho.good with ⟨_, a, b⟩ | ⟨e, _⟩
  · obtain ⟨lf, ks, vs, ns⟩ := p
    obtain rfl : lf = true := hl
    obtain rfl : ns = [] := b
    exact drop_a key h hf.1 hr a (by simp) hT
  · rw [hl] at e; cases e
end Go.Proofs.Ytafeddjcomeniaa
end

/- The law's shelf behind an interface value is no nil pointer. Conditions: none. -/
section
namespace Go.Proofs.Ytafeddjcomeniaa
open Go.RowKit
theorem nil_ahead (a : Addr) (w : World) : (nilAhead 271 23 (.pointer (some a)) "Add").run Try.prog w = .ok (some false) w := by kernel_rfl
end Go.Proofs.Ytafeddjcomeniaa
end
