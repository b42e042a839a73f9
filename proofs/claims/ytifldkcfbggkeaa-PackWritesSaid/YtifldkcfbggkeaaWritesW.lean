/- The walk of PackWrites (printed by writegen.py): its one drawn region in one order; the condition is made stronger behind each call. Conditions: none. -/
import Derived.Test.YtifldkcfbggkeaaPackA
import Derived.Test.YtifldkcfbggkeaaKeepsM
import Derived.Deep.RegionHeld3
namespace Go.Proofs.Ytifldkcfbggkeaa
open Go.RowKit
set_option linter.unusedSimpArgs false
set_option linter.unusedVariables false

/-- What goes under a stronger condition goes under a weaker one. -/
theorem wpAnyH_more {P : Program} {md : Region.Mode} {ops : Array Oper} {Q : Exit → Act → World → Prop} {S S' : World → Prop} (hs : ∀ w, S' w → S w) :
    ∀ (fuel : Nat) (listed : Array Bool) (a : Act) (w : World), wpAnyH P md ops Q S' fuel listed a w → wpAnyH P md ops Q S fuel listed a w
  | 0, _, _, _, h => h
  | fuel + 1, _, _, _, h => ⟨h.1, fun i hi => wpOp_mono (fun a' w' h' => ⟨hs _ h'.1, wpAnyH_more hs fuel _ a' w' h'.2⟩) (h.2 i hi)⟩

/-- The kit's law, the slot by its number. -/
theorem take_to {P : Program} {md : Region.Mode} {ops : Array Oper} {Q : Exit → Act → World → Prop} {S : World → Prop} {i : Nat} {oi : Oper} {d : Option Tmp} {v : Value} {fuel : Nat} {listed : Array Bool} {a : Act} {w : World} (hi : ops[i]? = some oi) (hd : oi.dst = d)
    (hs : Region.noSelect ops = true) (hf : Region.free md ops listed i = true) (hr : (Region.ready md ops listed).contains i = true)
    (hQ : ∀ c a w, Q (.panic c) (a.put d v) w → Q (.panic c) a w) (hy : YieldsIf P ops S oi v a) (hS : S w)
    (h : wpAnyH P md ops Q S fuel (listed.setIfInBounds i true) (a.put d v) w) : wpAnyH P md ops Q S (fuel + 1) listed a w := by
  subst hd
  exact wpAnyH_take hi hs hf hr hQ hy hS h

/-- The condition of this walk: what lay below is as it was. -/
def Since (w w' : World) : Prop := Below w.heap.size w w'

theorem conv_bts {W : World} {A : Option Addr} {n c : Nat} {l : List UInt8} (h : Bts W A n c l) : (convert 27 9 (.slice A n c)).run Try.prog W = .ok (.string ⟨l.toArray⟩) W :=
  run_string_of W 27 9 5 Try.underlying27 Try.underlying5 Try.underlying9 (c := c) h.2.1
theorem conv_since {W : World} {A : Option Addr} {n c : Nat} {l : List UInt8} (h : Bts W A n c l) (W' : World) (hs : Since W W') : (convert 27 9 (.slice A n c)).run Try.prog W' = .ok (.string ⟨l.toArray⟩) W' := conv_bts (h.below hs)

section
variable {w : World} {A : Option Addr} {n c : Nat}
set_option maxHeartbeats 8000000 in
set_option maxRecDepth 100000 in
theorem writes_main (l : List UInt8) (h : Bts w A n c l) (u : Nat) (hu : u < 18446744073709551616) (v : Int) (hv1 : -9223372036854775808 ≤ v) (hv2 : v ≤ 9223372036854775807) (s : List UInt8) (hn : n ≤ 200) (hs : s.length ≤ 300) :
    Calls Try.prog 8 #[.slice A n c, .int .u64 (u : Int), .int .i64 v, .string ⟨s.toArray⟩] w fun e w' => e = .returned (.bool true) ∧ Below w.heap.size w w' := by
  obtain ⟨i0, hi0, hz0, hz1, hz2⟩ := info_parts info_u8
  have t1 : decide ((200 : Int) < (n : Int)) = false := decide_eq_false (by omega)
  have t2 : decide ((300 : Int) < ((⟨s.toArray⟩ : ByteArray).size : Int)) = false := decide_eq_false (by simp [ByteArray.size]; omega)
  generalize hsv : (⟨s.toArray⟩ : ByteArray) = sv at *
  have HB := Lib.hid h
  clear h
  go_enter Try.func8, Try.ntmps8
  go_wp2_with fail
  refine (awake3 w).mono ?_
  rintro e w1 ⟨rfl, hB1⟩
  have hb1 : Bts w1 A n c l := HB.out.below hB1
  have HB1 := Lib.hid hb1
  clear hb1 HB
  go_wp2_with (first
    | (at_builtin
       go_must (refine wpList_append_any _ rfl (.tmp 20) (.tmp 21) _ rfl w1.heap.size 5 i0 _ 1 1 Try.underlying27 hi0 hz0 hz1 hz2 rfl (by omega) (.slice (some ⟨w1.heap.size, 0, none⟩) 0 0) 0 [] rfl (World.ownsRow_lit w1 #[] 0 (Nat.le_refl _) (by unfold maxLen; omega) rfl) w1.heap.size A n c (l.map byt) rfl (HB1.out.2.1.alloc (Nat.le_refl _) _) (byt_one _) (by unfold maxLen; omega) (by omega) (by simp) ?_)
       intro v1 w2 hown2 hg2 hat2
       have hown2' : w2.ownsRow w1.heap.size 5 1 v1 n (l.map byt) := by simpa using hown2
       obtain ⟨A3, c3, rfl⟩ := own_shape hown2'
       have hb2 : Below w1.heap.size w1 w2 := ((Below.refl _ _).alloc (Nat.le_refl _) _).grown hg2 (by simp) (fun k hk => by simp [Value.ownBlock] at hk; omega)
       have hbc : Bts w2 A3 n c3 l := own_bts hown2'
       clear hown2 hg2 hat2 hown2'))
  have hbb : Bts w2 A n c l := HB1.out.below hb2
  have hB2 : Below w.heap.size w w2 := hB1.trans (hb2.mono hB1.size)
  have HC := Lib.hid hbc
  have HB := Lib.hid hbb
  have h0 : Below w2.heap.size w2 w2 := Below.refl _ _
  have V0c := Lib.hid (conv_since hbc)
  have V0b := Lib.hid (conv_since hbb)
  have CU := Lib.hid (fun (w : World) (h : Bts w A3 n c3 l) => packU_any u h (by omega) hu)
  have CV := Lib.hid (fun (w : World) (h : Bts w A n c l) => putU_ref u h (by omega) hu)
  have CI := Lib.hid (fun (w : World) (h : Bts w A3 n c3 l) => packI_any v h (by omega) hv1 hv2)
  have CJ := Lib.hid (fun (w : World) (h : Bts w A n c l) => putI_ref v h (by omega) hv1 hv2)
  have CS := Lib.hid (fun (w : World) (h : Bts w A3 n c3 l) => packS_any s h (by omega))
  have CT := Lib.hid (fun (w : World) (h : Bts w A n c l) => putS_ref s h (by omega))
  rw [hsv] at CS CT
  generalize l ++ putU u = ru at CU CV
  generalize l ++ putU (zig v) = ri at CI CJ
  generalize l ++ putU s.length ++ s = rs at CS CT
  clear hb2 hbc hbb HB1 hsv hB1 t1 t2
  go_wp2_with fail
  refine wp_region_held_drew (S := Since w2) (by kernel_rfl) h0.drew (fun hHeld => ?_)
  refine take_to (i := 0) (d := some 23) (v := ?_) rfl rfl (by kernel_rfl) (by kernel_rfl) (by kernel_rfl) (fun _ _ _ h => h) (Or.inl ⟨by rfl, ?_⟩) (by assumption) ?_
  rotate_left 1
  · (intro w' hSw; clear hSw; go_simp; (try with_reducible rfl))
  try simp only [Act.put, List.setIfInBounds_toArray, List.set_cons_zero, List.set_cons_succ]
  refine take_to (i := 1) (d := some 24) (v := ?_) rfl rfl (by kernel_rfl) (by kernel_rfl) (by kernel_rfl) (fun _ _ _ h => h) (Or.inl ⟨by rfl, ?_⟩) (by assumption) ?_
  rotate_left 1
  · (intro w' hSw; clear hSw; go_simp; (try with_reducible rfl))
  try simp only [Act.put, List.setIfInBounds_toArray, List.set_cons_zero, List.set_cons_succ]
  refine take_to (i := 4) (d := some 27) (v := ?_) rfl rfl (by kernel_rfl) (by kernel_rfl) (by kernel_rfl) (fun _ _ _ h => h) (Or.inl ⟨by rfl, ?_⟩) (by assumption) ?_
  rotate_left 1
  · (intro w' hSw; clear hSw; go_simp; (try with_reducible rfl))
  try simp only [Act.put, List.setIfInBounds_toArray, List.set_cons_zero, List.set_cons_succ]
  refine take_to (i := 5) (d := some 28) (v := ?_) rfl rfl (by kernel_rfl) (by kernel_rfl) (by kernel_rfl) (fun _ _ _ h => h) (Or.inl ⟨by rfl, ?_⟩) (by assumption) ?_
  rotate_left 1
  · (intro w' hSw; clear hSw; go_simp; (try with_reducible rfl))
  try simp only [Act.put, List.setIfInBounds_toArray, List.set_cons_zero, List.set_cons_succ]
  refine wpAnyH_ready (rs := [2]) (by kernel_rfl) (by simp) ?_
  refine AllReadyH.cons rfl (fun K hK => ?_) AllReadyH.nil
  simp only [List.getElem_toArray, List.getElem_cons_succ, List.getElem_cons_zero]
  go_simp
  go_at_call 36
  refine (CU.out _ (HC.out.below (show Below _ _ _ from h0.drew))).mono ?_
  rintro e wa ⟨g, c9, rfl, own, bel⟩
  have bt := Put.bts own
  have btwa := Lib.hid bt
  have Vwa := Lib.hid (conv_since bt)
  have hswa : Since w2 wa := h0.drew.trans (bel.mono (Nat.le_refl _))
  have hwa : Since w2 wa := hswa
  clear own bel bt
  try go_wp2_with fail
  refine hK.out _ _ hswa (fun hHeld1 => ?_)
  clear hK K hHeld hHeld1
  try simp only [Act.put, List.setIfInBounds_toArray, List.set_cons_zero, List.set_cons_succ]
  refine wpAnyH_more (S' := Since wa) (fun w' h => (show Below _ _ _ from hswa).trans ((show Below _ _ _ from h).mono (show Below _ _ _ from hswa).size)) _ _ _ _ ?_
  have hHeld : Since wa wa := Below.refl _ _
  refine take_to (i := 3) (d := some 26) (v := ?_) rfl rfl (by kernel_rfl) (by kernel_rfl) (by kernel_rfl) (fun _ _ _ h => h) (Or.inl ⟨by rfl, ?_⟩) (by assumption) ?_
  rotate_left 1
  · (intro w' hSw; have cv := Vwa.out w' hSw; clear hSw; go_simp; (try with_reducible rfl))
  try simp only [Act.put, List.setIfInBounds_toArray, List.set_cons_zero, List.set_cons_succ]
  refine wpAnyH_ready (rs := [6]) (by kernel_rfl) (by simp) ?_
  refine AllReadyH.cons rfl (fun K hK => ?_) AllReadyH.nil
  simp only [List.getElem_toArray, List.getElem_cons_succ, List.getElem_cons_zero]
  go_simp
  go_at_call 37
  refine (CV.out _ (HB.out.below (show Below _ _ _ from hwa))).mono ?_
  rintro e wb ⟨g, c9, rfl, own, bel⟩
  have bt := Put.bts own
  have btwb := Lib.hid bt
  have Vwb := Lib.hid (conv_since bt)
  have hswb : Since wa wb := bel
  have hwb : Since w2 wb := (show Below _ _ _ from hwa).trans ((show Below _ _ _ from hswb).mono (show Below _ _ _ from hwa).size)
  clear own bel bt
  try go_wp2_with fail
  refine hK.out _ _ hswb (fun hHeld1 => ?_)
  clear hK K hHeld hHeld1
  try simp only [Act.put, List.setIfInBounds_toArray, List.set_cons_zero, List.set_cons_succ]
  refine wpAnyH_more (S' := Since wb) (fun w' h => (show Below _ _ _ from hswb).trans ((show Below _ _ _ from h).mono (show Below _ _ _ from hswb).size)) _ _ _ _ ?_
  have hHeld : Since wb wb := Below.refl _ _
  refine take_to (i := 7) (d := some 30) (v := ?_) rfl rfl (by kernel_rfl) (by kernel_rfl) (by kernel_rfl) (fun _ _ _ h => h) (Or.inl ⟨by rfl, ?_⟩) (by assumption) ?_
  rotate_left 1
  · (intro w' hSw; have cv := Vwb.out w' hSw; clear hSw; go_simp; (try with_reducible rfl))
  try simp only [Act.put, List.setIfInBounds_toArray, List.set_cons_zero, List.set_cons_succ]
  refine take_to (i := 8) (d := some 31) (v := ?_) rfl rfl (by kernel_rfl) (by kernel_rfl) (by kernel_rfl) (fun _ _ _ h => h) (Or.inl ⟨by rfl, ?_⟩) (by assumption) ?_
  rotate_left 1
  · (intro w' hSw; clear hSw; go_simp; (try with_reducible rfl))
  try simp only [Act.put, List.setIfInBounds_toArray, List.set_cons_zero, List.set_cons_succ]
  refine take_to (i := 9) (d := some 32) (v := ?_) rfl rfl (by kernel_rfl) (by kernel_rfl) (by kernel_rfl) (fun _ _ _ h => h) (Or.inl ⟨by rfl, ?_⟩) (by assumption) ?_
  rotate_left 1
  · (intro w' hSw; clear hSw; go_simp; (try with_reducible rfl))
  try simp only [Act.put, List.setIfInBounds_toArray, List.set_cons_zero, List.set_cons_succ]
  refine take_to (i := 10) (d := some 33) (v := ?_) rfl rfl (by kernel_rfl) (by kernel_rfl) (by kernel_rfl) (fun _ _ _ h => h) (Or.inl ⟨by rfl, ?_⟩) (by assumption) ?_
  rotate_left 1
  · (intro w' hSw; clear hSw; go_simp; (try with_reducible rfl))
  try simp only [Act.put, List.setIfInBounds_toArray, List.set_cons_zero, List.set_cons_succ]
  refine take_to (i := 11) (d := some 34) (v := ?_) rfl rfl (by kernel_rfl) (by kernel_rfl) (by kernel_rfl) (fun _ _ _ h => h) (Or.inl ⟨by rfl, ?_⟩) (by assumption) ?_
  rotate_left 1
  · (intro w' hSw; clear hSw; go_simp; (try with_reducible rfl))
  try simp only [Act.put, List.setIfInBounds_toArray, List.set_cons_zero, List.set_cons_succ]
  refine take_to (i := 14) (d := some 37) (v := ?_) rfl rfl (by kernel_rfl) (by kernel_rfl) (by kernel_rfl) (fun _ _ _ h => h) (Or.inl ⟨by rfl, ?_⟩) (by assumption) ?_
  rotate_left 1
  · (intro w' hSw; clear hSw; go_simp; (try with_reducible rfl))
  try simp only [Act.put, List.setIfInBounds_toArray, List.set_cons_zero, List.set_cons_succ]
  refine take_to (i := 15) (d := some 38) (v := ?_) rfl rfl (by kernel_rfl) (by kernel_rfl) (by kernel_rfl) (fun _ _ _ h => h) (Or.inl ⟨by rfl, ?_⟩) (by assumption) ?_
  rotate_left 1
  · (intro w' hSw; clear hSw; go_simp; (try with_reducible rfl))
  try simp only [Act.put, List.setIfInBounds_toArray, List.set_cons_zero, List.set_cons_succ]
  refine wpAnyH_ready (rs := [12]) (by kernel_rfl) (by simp) ?_
  refine AllReadyH.cons rfl (fun K hK => ?_) AllReadyH.nil
  simp only [List.getElem_toArray, List.getElem_cons_succ, List.getElem_cons_zero]
  go_simp
  go_at_call 38
  refine (CI.out _ (HC.out.below (show Below _ _ _ from hwb))).mono ?_
  rintro e wc ⟨g, c9, rfl, own, bel⟩
  have bt := Put.bts own
  have btwc := Lib.hid bt
  have Vwc := Lib.hid (conv_since bt)
  have hswc : Since wb wc := bel
  have hwc : Since w2 wc := (show Below _ _ _ from hwb).trans ((show Below _ _ _ from hswc).mono (show Below _ _ _ from hwb).size)
  clear own bel bt
  try go_wp2_with fail
  refine hK.out _ _ hswc (fun hHeld1 => ?_)
  clear hK K hHeld hHeld1
  try simp only [Act.put, List.setIfInBounds_toArray, List.set_cons_zero, List.set_cons_succ]
  refine wpAnyH_more (S' := Since wc) (fun w' h => (show Below _ _ _ from hswc).trans ((show Below _ _ _ from h).mono (show Below _ _ _ from hswc).size)) _ _ _ _ ?_
  have hHeld : Since wc wc := Below.refl _ _
  refine take_to (i := 13) (d := some 36) (v := ?_) rfl rfl (by kernel_rfl) (by kernel_rfl) (by kernel_rfl) (fun _ _ _ h => h) (Or.inl ⟨by rfl, ?_⟩) (by assumption) ?_
  rotate_left 1
  · (intro w' hSw; have cv := Vwc.out w' hSw; clear hSw; go_simp; (try with_reducible rfl))
  try simp only [Act.put, List.setIfInBounds_toArray, List.set_cons_zero, List.set_cons_succ]
  refine wpAnyH_ready (rs := [16]) (by kernel_rfl) (by simp) ?_
  refine AllReadyH.cons rfl (fun K hK => ?_) AllReadyH.nil
  simp only [List.getElem_toArray, List.getElem_cons_succ, List.getElem_cons_zero]
  go_simp
  go_at_call 39
  refine (CJ.out _ (HB.out.below (show Below _ _ _ from hwc))).mono ?_
  rintro e wd ⟨g, c9, rfl, own, bel⟩
  have bt := Put.bts own
  have btwd := Lib.hid bt
  have Vwd := Lib.hid (conv_since bt)
  have hswd : Since wc wd := bel
  have hwd : Since w2 wd := (show Below _ _ _ from hwc).trans ((show Below _ _ _ from hswd).mono (show Below _ _ _ from hwc).size)
  clear own bel bt
  try go_wp2_with fail
  refine hK.out _ _ hswd (fun hHeld1 => ?_)
  clear hK K hHeld hHeld1
  try simp only [Act.put, List.setIfInBounds_toArray, List.set_cons_zero, List.set_cons_succ]
  refine wpAnyH_more (S' := Since wd) (fun w' h => (show Below _ _ _ from hswd).trans ((show Below _ _ _ from h).mono (show Below _ _ _ from hswd).size)) _ _ _ _ ?_
  have hHeld : Since wd wd := Below.refl _ _
  refine take_to (i := 17) (d := some 40) (v := ?_) rfl rfl (by kernel_rfl) (by kernel_rfl) (by kernel_rfl) (fun _ _ _ h => h) (Or.inl ⟨by rfl, ?_⟩) (by assumption) ?_
  rotate_left 1
  · (intro w' hSw; have cv := Vwd.out w' hSw; clear hSw; go_simp; (try with_reducible rfl))
  try simp only [Act.put, List.setIfInBounds_toArray, List.set_cons_zero, List.set_cons_succ]
  refine take_to (i := 18) (d := some 41) (v := ?_) rfl rfl (by kernel_rfl) (by kernel_rfl) (by kernel_rfl) (fun _ _ _ h => h) (Or.inl ⟨by rfl, ?_⟩) (by assumption) ?_
  rotate_left 1
  · (intro w' hSw; clear hSw; go_simp; (try with_reducible rfl))
  try simp only [Act.put, List.setIfInBounds_toArray, List.set_cons_zero, List.set_cons_succ]
  refine take_to (i := 19) (d := some 42) (v := ?_) rfl rfl (by kernel_rfl) (by kernel_rfl) (by kernel_rfl) (fun _ _ _ h => h) (Or.inl ⟨by rfl, ?_⟩) (by assumption) ?_
  rotate_left 1
  · (intro w' hSw; clear hSw; go_simp; (try with_reducible rfl))
  try simp only [Act.put, List.setIfInBounds_toArray, List.set_cons_zero, List.set_cons_succ]
  refine take_to (i := 20) (d := some 43) (v := ?_) rfl rfl (by kernel_rfl) (by kernel_rfl) (by kernel_rfl) (fun _ _ _ h => h) (Or.inl ⟨by rfl, ?_⟩) (by assumption) ?_
  rotate_left 1
  · (intro w' hSw; clear hSw; go_simp; (try with_reducible rfl))
  try simp only [Act.put, List.setIfInBounds_toArray, List.set_cons_zero, List.set_cons_succ]
  refine take_to (i := 21) (d := some 44) (v := ?_) rfl rfl (by kernel_rfl) (by kernel_rfl) (by kernel_rfl) (fun _ _ _ h => h) (Or.inl ⟨by rfl, ?_⟩) (by assumption) ?_
  rotate_left 1
  · (intro w' hSw; clear hSw; go_simp; (try with_reducible rfl))
  try simp only [Act.put, List.setIfInBounds_toArray, List.set_cons_zero, List.set_cons_succ]
  refine take_to (i := 22) (d := some 45) (v := ?_) rfl rfl (by kernel_rfl) (by kernel_rfl) (by kernel_rfl) (fun _ _ _ h => h) (Or.inl ⟨by rfl, ?_⟩) (by assumption) ?_
  rotate_left 1
  · (intro w' hSw; clear hSw; go_simp; (try with_reducible rfl))
  try simp only [Act.put, List.setIfInBounds_toArray, List.set_cons_zero, List.set_cons_succ]
  refine take_to (i := 25) (d := some 48) (v := ?_) rfl rfl (by kernel_rfl) (by kernel_rfl) (by kernel_rfl) (fun _ _ _ h => h) (Or.inl ⟨by rfl, ?_⟩) (by assumption) ?_
  rotate_left 1
  · (intro w' hSw; clear hSw; go_simp; (try with_reducible rfl))
  try simp only [Act.put, List.setIfInBounds_toArray, List.set_cons_zero, List.set_cons_succ]
  refine take_to (i := 26) (d := some 49) (v := ?_) rfl rfl (by kernel_rfl) (by kernel_rfl) (by kernel_rfl) (fun _ _ _ h => h) (Or.inl ⟨by rfl, ?_⟩) (by assumption) ?_
  rotate_left 1
  · (intro w' hSw; clear hSw; go_simp; (try with_reducible rfl))
  try simp only [Act.put, List.setIfInBounds_toArray, List.set_cons_zero, List.set_cons_succ]
  refine wpAnyH_ready (rs := [23]) (by kernel_rfl) (by simp) ?_
  refine AllReadyH.cons rfl (fun K hK => ?_) AllReadyH.nil
  simp only [List.getElem_toArray, List.getElem_cons_succ, List.getElem_cons_zero]
  go_simp
  go_at_call 40
  refine (CS.out _ (HC.out.below (show Below _ _ _ from hwd))).mono ?_
  rintro e we ⟨g, c9, rfl, own, bel⟩
  have bt := Put.bts own
  have btwe := Lib.hid bt
  have Vwe := Lib.hid (conv_since bt)
  have hswe : Since wd we := bel
  have hwe : Since w2 we := (show Below _ _ _ from hwd).trans ((show Below _ _ _ from hswe).mono (show Below _ _ _ from hwd).size)
  clear own bel bt
  try go_wp2_with fail
  refine hK.out _ _ hswe (fun hHeld1 => ?_)
  clear hK K hHeld hHeld1
  try simp only [Act.put, List.setIfInBounds_toArray, List.set_cons_zero, List.set_cons_succ]
  refine wpAnyH_more (S' := Since we) (fun w' h => (show Below _ _ _ from hswe).trans ((show Below _ _ _ from h).mono (show Below _ _ _ from hswe).size)) _ _ _ _ ?_
  have hHeld : Since we we := Below.refl _ _
  refine take_to (i := 24) (d := some 47) (v := ?_) rfl rfl (by kernel_rfl) (by kernel_rfl) (by kernel_rfl) (fun _ _ _ h => h) (Or.inl ⟨by rfl, ?_⟩) (by assumption) ?_
  rotate_left 1
  · (intro w' hSw; have cv := Vwe.out w' hSw; clear hSw; go_simp; (try with_reducible rfl))
  try simp only [Act.put, List.setIfInBounds_toArray, List.set_cons_zero, List.set_cons_succ]
  refine wpAnyH_ready (rs := [27]) (by kernel_rfl) (by simp) ?_
  refine AllReadyH.cons rfl (fun K hK => ?_) AllReadyH.nil
  simp only [List.getElem_toArray, List.getElem_cons_succ, List.getElem_cons_zero]
  go_simp
  go_at_call 41
  refine (CT.out _ (HB.out.below (show Below _ _ _ from hwe))).mono ?_
  rintro e wf ⟨g, c9, rfl, own, bel⟩
  have bt := Put.bts own
  have btwf := Lib.hid bt
  have Vwf := Lib.hid (conv_since bt)
  have hswf : Since we wf := bel
  have hwf : Since w2 wf := (show Below _ _ _ from hwe).trans ((show Below _ _ _ from hswf).mono (show Below _ _ _ from hwe).size)
  clear own bel bt
  try go_wp2_with fail
  refine hK.out _ _ hswf (fun hHeld1 => ?_)
  clear hK K hHeld hHeld1
  try simp only [Act.put, List.setIfInBounds_toArray, List.set_cons_zero, List.set_cons_succ]
  refine wpAnyH_more (S' := Since wf) (fun w' h => (show Below _ _ _ from hswf).trans ((show Below _ _ _ from h).mono (show Below _ _ _ from hswf).size)) _ _ _ _ ?_
  have hHeld : Since wf wf := Below.refl _ _
  refine take_to (i := 28) (d := some 51) (v := ?_) rfl rfl (by kernel_rfl) (by kernel_rfl) (by kernel_rfl) (fun _ _ _ h => h) (Or.inl ⟨by rfl, ?_⟩) (by assumption) ?_
  rotate_left 1
  · (intro w' hSw; have cv := Vwf.out w' hSw; clear hSw; go_simp; (try with_reducible rfl))
  try simp only [Act.put, List.setIfInBounds_toArray, List.set_cons_zero, List.set_cons_succ]
  refine take_to (i := 29) (d := some 52) (v := ?_) rfl rfl (by kernel_rfl) (by kernel_rfl) (by kernel_rfl) (fun _ _ _ h => h) (Or.inl ⟨by rfl, ?_⟩) (by assumption) ?_
  rotate_left 1
  · (intro w' hSw; clear hSw; go_simp; (try with_reducible rfl))
  try simp only [Act.put, List.setIfInBounds_toArray, List.set_cons_zero, List.set_cons_succ]
  refine take_to (i := 30) (d := some 53) (v := ?_) rfl rfl (by kernel_rfl) (by kernel_rfl) (by kernel_rfl) (fun _ _ _ h => h) (Or.inl ⟨by rfl, ?_⟩) (by assumption) ?_
  rotate_left 1
  · (intro w' hSw; clear hSw; go_simp; (try with_reducible rfl))
  try simp only [Act.put, List.setIfInBounds_toArray, List.set_cons_zero, List.set_cons_succ]
  refine take_to (i := 31) (d := some 54) (v := ?_) rfl rfl (by kernel_rfl) (by kernel_rfl) (by kernel_rfl) (fun _ _ _ h => h) (Or.inl ⟨by rfl, ?_⟩) (by assumption) ?_
  rotate_left 1
  · (intro w' hSw; clear hSw; go_simp; (try with_reducible rfl))
  try simp only [Act.put, List.setIfInBounds_toArray, List.set_cons_zero, List.set_cons_succ]
  refine take_to (i := 32) (d := some 55) (v := ?_) rfl rfl (by kernel_rfl) (by kernel_rfl) (by kernel_rfl) (fun _ _ _ h => h) (Or.inl ⟨by rfl, ?_⟩) (by assumption) ?_
  rotate_left 1
  · (intro w' hSw; clear hSw; go_simp; (try with_reducible rfl))
  try simp only [Act.put, List.setIfInBounds_toArray, List.set_cons_zero, List.set_cons_succ]
  refine take_to (i := 34) (d := some 57) (v := ?_) rfl rfl (by kernel_rfl) (by kernel_rfl) (by kernel_rfl) (fun _ _ _ h => h) (Or.inl ⟨by rfl, ?_⟩) (by assumption) ?_
  rotate_left 1
  · (intro w' hSw; clear hSw; go_simp; (try with_reducible rfl))
  try simp only [Act.put, List.setIfInBounds_toArray, List.set_cons_zero, List.set_cons_succ]
  refine wpAnyH_ready (rs := [33]) (by kernel_rfl) (by simp) ?_
  refine AllReadyH.cons rfl (fun K hK => ?_) AllReadyH.nil
  simp only [List.getElem_toArray, List.getElem_cons_succ, List.getElem_cons_zero]
  go_simp
  go_at_call 35
  refine (sum_any (HB.out.below (show Below _ _ _ from hwf))).mono ?_
  rintro e w9 ⟨rfl, rfl⟩
  try go_wp2_with fail
  refine hK.out _ _ hHeld (fun hHeld1 => ?_)
  clear hK K hHeld1
  try simp only [Act.put, List.setIfInBounds_toArray, List.set_cons_zero, List.set_cons_succ]
  refine wpAnyH_ready (rs := [35]) (by kernel_rfl) (by simp) ?_
  refine AllReadyH.cons rfl (fun K hK => ?_) AllReadyH.nil
  simp only [List.getElem_toArray, List.getElem_cons_succ, List.getElem_cons_zero]
  go_simp
  go_at_call 42
  refine (sum_ref (HB.out.below (show Below _ _ _ from hwf))).mono ?_
  rintro e w9 ⟨rfl, rfl⟩
  try go_wp2_with fail
  refine hK.out _ _ hHeld (fun hHeld1 => ?_)
  clear hK K hHeld1
  try simp only [Act.put, List.setIfInBounds_toArray, List.set_cons_zero, List.set_cons_succ]
  refine take_to (i := 36) (d := some 59) (v := ?_) rfl rfl (by kernel_rfl) (by kernel_rfl) (by kernel_rfl) (fun _ _ _ h => h) (Or.inl ⟨by rfl, ?_⟩) (by assumption) ?_
  rotate_left 1
  · (intro w' hSw; clear hSw; go_simp; (try with_reducible rfl))
  try simp only [Act.put, List.setIfInBounds_toArray, List.set_cons_zero, List.set_cons_succ]
  refine take_to (i := 37) (d := some 60) (v := ?_) rfl rfl (by kernel_rfl) (by kernel_rfl) (by kernel_rfl) (fun _ _ _ h => h) (Or.inl ⟨by rfl, ?_⟩) (by assumption) ?_
  rotate_left 1
  · (intro w' hSw; clear hSw; go_simp; (try with_reducible rfl))
  try simp only [Act.put, List.setIfInBounds_toArray, List.set_cons_zero, List.set_cons_succ]
  refine take_to (i := 38) (d := some 61) (v := ?_) rfl rfl (by kernel_rfl) (by kernel_rfl) (by kernel_rfl) (fun _ _ _ h => h) (Or.inl ⟨by rfl, ?_⟩) (by assumption) ?_
  rotate_left 1
  · (intro w' hSw; clear hSw; go_simp; (try with_reducible rfl))
  try simp only [Act.put, List.setIfInBounds_toArray, List.set_cons_zero, List.set_cons_succ]
  refine take_to (i := 39) (d := some 62) (v := ?_) rfl rfl (by kernel_rfl) (by kernel_rfl) (by kernel_rfl) (fun _ _ _ h => h) (Or.inl ⟨by rfl, ?_⟩) (by assumption) ?_
  rotate_left 1
  · (intro w' hSw; clear hSw; go_simp; (try with_reducible rfl))
  try simp only [Act.put, List.setIfInBounds_toArray, List.set_cons_zero, List.set_cons_succ]
  refine take_to (i := 40) (d := some 63) (v := ?_) rfl rfl (by kernel_rfl) (by kernel_rfl) (by kernel_rfl) (fun _ _ _ h => h) (Or.inl ⟨by rfl, ?_⟩) (by assumption) ?_
  rotate_left 1
  · (intro w' hSw; have cv := (fun w' (hSw : Since wf w') => V0c.out w' ((show Below _ _ _ from hwf).trans ((show Below _ _ _ from hSw).mono (show Below _ _ _ from hwf).size))) w' hSw; clear hSw; go_simp; (try with_reducible rfl))
  try simp only [Act.put, List.setIfInBounds_toArray, List.set_cons_zero, List.set_cons_succ]
  refine take_to (i := 41) (d := some 64) (v := ?_) rfl rfl (by kernel_rfl) (by kernel_rfl) (by kernel_rfl) (fun _ _ _ h => h) (Or.inl ⟨by rfl, ?_⟩) (by assumption) ?_
  rotate_left 1
  · (intro w' hSw; clear hSw; go_simp; (try with_reducible rfl))
  try simp only [Act.put, List.setIfInBounds_toArray, List.set_cons_zero, List.set_cons_succ]
  refine take_to (i := 42) (d := some 65) (v := ?_) rfl rfl (by kernel_rfl) (by kernel_rfl) (by kernel_rfl) (fun _ _ _ h => h) (Or.inl ⟨by rfl, ?_⟩) (by assumption) ?_
  rotate_left 1
  · (intro w' hSw; have cv := (fun w' (hSw : Since wf w') => V0b.out w' ((show Below _ _ _ from hwf).trans ((show Below _ _ _ from hSw).mono (show Below _ _ _ from hwf).size))) w' hSw; clear hSw; go_simp; (try with_reducible rfl))
  try simp only [Act.put, List.setIfInBounds_toArray, List.set_cons_zero, List.set_cons_succ]
  refine take_to (i := 43) (d := some 66) (v := ?_) rfl rfl (by kernel_rfl) (by kernel_rfl) (by kernel_rfl) (fun _ _ _ h => h) (Or.inl ⟨by rfl, ?_⟩) (by assumption) ?_
  rotate_left 1
  · (intro w' hSw; clear hSw; go_simp; (try with_reducible rfl))
  try simp only [Act.put, List.setIfInBounds_toArray, List.set_cons_zero, List.set_cons_succ]
  refine take_to (i := 44) (d := some 67) (v := ?_) rfl rfl (by kernel_rfl) (by kernel_rfl) (by kernel_rfl) (fun _ _ _ h => h) (Or.inl ⟨by rfl, ?_⟩) (by assumption) ?_
  rotate_left 1
  · (intro w' hSw; clear hSw; go_simp; (try with_reducible rfl))
  try simp only [Act.put, List.setIfInBounds_toArray, List.set_cons_zero, List.set_cons_succ]
  refine take_to (i := 45) (d := some 8) (v := ?_) rfl rfl (by kernel_rfl) (by kernel_rfl) (by kernel_rfl) (fun _ _ _ h => h) (Or.inl ⟨by rfl, ?_⟩) (by assumption) ?_
  rotate_left 1
  · (intro w' hSw; clear hSw; go_simp; (try with_reducible rfl))
  try simp only [Act.put, List.setIfInBounds_toArray, List.set_cons_zero, List.set_cons_succ]
  refine wpAnyH_done (by kernel_rfl) ?_ _
  go_wp2
  go_ret
  exact ⟨rfl, hB2.trans ((show Below _ _ _ from hwf).mono hB2.size)⟩

theorem writes_all (l : List UInt8) (h : Bts w A n c l) (u v : Int) (s : ByteArray) (hu : (Lit.int .u64 u).wf = true) (hv : (Lit.int .i64 v).wf = true) (hsz : s.size ≤ maxLen) :
    Calls Try.prog 8 #[.slice A n c, .int .u64 u, .int .i64 v, .string s] w fun e w' => e = .returned (.bool true) ∧ Below w.heap.size w w' := by
  have hm := Nat.le_trans h.2.2.1 h.2.2.2.1
  unfold maxLen at hm hsz
  by_cases t1 : n ≤ 200
  · by_cases t2 : s.size ≤ 300
    · simp only [Lit.wf, Bool.and_eq_true, decide_eq_true_eq] at hu hv
      have e1 : IntKind.u64.min = 0 := by decide
      have e2 : IntKind.u64.max = 18446744073709551615 := by decide
      have e3 : IntKind.i64.min = -9223372036854775808 := by decide
      have e4 : IntKind.i64.max = 9223372036854775807 := by decide
      obtain ⟨x, rfl⟩ := Int.eq_ofNat_of_zero_le (show 0 ≤ u by omega)
      have e : s.data.toList.length = s.size := Array.length_toList
      have := writes_main l h x (by omega) v (by omega) (by omega) s.data.toList t1 (by omega)
      rwa [show (⟨s.data.toList.toArray⟩ : ByteArray) = s by cases s; simp] at this
    · have e1 : decide ((200 : Int) < (n : Int)) = false := decide_eq_false (by omega)
      have e2 : decide ((300 : Int) < (s.size : Int)) = true := decide_eq_true (by omega)
      clear h
      go_enter Try.func8, Try.ntmps8
      go_wp2_with fail
      refine (awake3 w).mono ?_
      rintro e w1 ⟨rfl, hB1⟩
      go_wp2
      go_ret
      exact ⟨rfl, hB1⟩
  · have e1 : decide ((200 : Int) < (n : Int)) = true := decide_eq_true (by omega)
    clear h
    go_enter Try.func8, Try.ntmps8
    go_wp2_with fail
    refine (awake3 w).mono ?_
    rintro e w1 ⟨rfl, hB1⟩
    go_wp2
    go_ret
    exact ⟨rfl, hB1⟩
end
end Go.Proofs.Ytifldkcfbggkeaa
