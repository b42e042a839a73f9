/- The texts of this proof, joined: contracts of the functions that the law reaches, and what they come to in plain Lean. Conditions: those that each theorem names. -/
import Derived.Test.YtlbikfamjogpnaaMFrameRows1
import Derived.Test.YtlbikfamjogpnaaMFrameRows0
import Derived.Deep.CutBlock

/- The law's own 'awake' over frames answers true. Conditions: none. -/
section
namespace Go.Proofs.Ytlbikfamjogpnaa
open Go.RowKit
set_option linter.unusedVariables false
set_option linter.unusedSimpArgs false

theorem clean_end {S : List (List UInt8)} {first sectors u : Nat} {P : Fr → Prop} (h : Clean S first sectors u) : ∀ f, frameAt S first sectors u = some f → P f := by
  intro f hf
  rw [h.none] at hf
  cases hf
theorem DiskAt.area {w w' : World} {B p b a : Nat} {A : Ar} {d : Dk} (h : DiskAt w b a d) (ha : AreaAt w B p b A) (hk : DKept (fun k => k = p) w w') : DiskAt w' b a d := by
  obtain ⟨_, At, c, hA, _⟩ := ha
  have hn := h.apart97 hA
  exact h.keep (hk.block b h.ltb (fun e => hn (.inl e.symm))) (hk.block a h.lta (fun e => hn (.inr e.symm))) (fun g cs hg => hk.blk hg (fun e => by subst e; exact hg.ne_ hA (by decide) rfl))
theorem AreaAt.disk {w w' : World} {B p b a : Nat} {A : Ar} {d : Dk} (h : AreaAt w B p b A) (hd : DiskAt w b a d) (hk : DKept (DS b a) w w') : AreaAt w' B p b A := by
  obtain ⟨h0, At, c, hA, ho⟩ := h
  exact ⟨h0, At, c, hk.blk hA (hd.apart97 hA), own_keep ho fun g hg => hk.block g (ho.lt g hg).2 (hd.apartI ho hg)⟩
theorem DKept.area {w0 w w' : World} {B p b : Nat} {A : Ar} (hB : Below w0.heap.size w0 w) (ha : AreaAt w B p b A) (hp : w0.heap.size ≤ B) (hk : DKept (fun k => k = p) w w') : Below w0.heap.size w0 w' :=
  DKept.low hB (Nat.le_refl _) (by rintro i rfl; exact Nat.le_trans hp ha.1) hk

set_option maxRecDepth 100000 in
set_option maxHeartbeats 4000000 in
theorem awake5 (w : World) : Calls Try.prog 13 #[] w fun e w' => e = .returned (.bool true) ∧ Below w.heap.size w w' := by
  have kc := fun (w : World) (C : Array Value) (n c : Nat) => Lib.run_convert_bytes_const (P := Try.prog) w 36 5 C n c Try.underlying36 Try.underlying5
  go_enter Try.func13, Try.ntmps13
  go_wp2_with fail
  refine (new_ok 10 w (by omega) (by omega)).mono ?_
  rintro e w1 ⟨b, a, rfl, hd1, hb, ha, hB1⟩
  have P1 : Chain (Dk.new 10).S 2 6 7 [] := new_chain 10 2 6 7 (by omega)
  have C1 := new_clean 10 2 6
  have HB := Lib.hid hb
  have HAA := Lib.hid ha
  clear hb ha
  go_wp2_with fail
  refine (open_ok (fs := []) (Dk.new 10) 2 6 7 hd1 (by omega) P1 rfl rfl (by omega) (clean_end C1)).mono ?_
  rintro e w2 ⟨p, A, rfl, ha2, hA, hp2, hB2⟩
  obtain rfl : A = ⟨1, 2, 6, 0, [], 0⟩ := hA
  have hd2 := hd1.below hB2
  have hB2' : Below w.heap.size w w2 := hB1.trans (hB2.mono hB1.size)
  have hBA : w.heap.size ≤ w1.heap.size := hB1.size
  have CA := Lib.hid (all_any ha2 (by show 0 ≤ _; omega))
  have CG := Lib.hid (fun V (hV : Later w2 V) => begin_any 7 (ha2.below hV))
  have CA : Hid (Calls Try.prog 21 #[.pointer (some ⟨p, 0, none⟩)] w2 fun e w' => ∃ A9 c9, e = .returned (.slice A9 0 c9) ∧ w'.ownsRow w2.heap.size 3 1 (.slice A9 0 c9) 0 [] ∧ Below w2.heap.size w2 w') := CA
  go_wp2_with fail
  refine CA.out.mono ?_
  rintro e w3 ⟨A9, c9, rfl, -, hB3⟩
  have ha3 := ha2.below hB3
  have hd3 := hd2.below hB3
  have hB3' : Below w.heap.size w w3 := hB2'.trans (hB3.mono hB2'.size)
  have CG0 := Lib.hid (CG.out w3 hB3)
  go_wp2_with fail
  refine CG0.out.mono ?_
  rintro e w4 ⟨rfl, ha4, hk4⟩
  have hd4 := hd3.area ha3 hk4
  have hB4' := DKept.area hB3' ha3 hBA hk4
  have ha4 : AreaAt w4 w1.heap.size p b ⟨1, 2, 6, 7, [], 0⟩ := ha4
  have hp4 : Plain ⟨1, 2, 6, 7, [], 0⟩ (Dk.new 10) [] := ⟨P1, rfl, rfl, rfl, rfl, rfl, by show 7 < _; omega⟩
  have ha5 := ha4.below ((Below.refl _ w4).alloc (Nat.le_refl _) (.cells #[.int .u8 97, .int .u8 98, .int .u8 99] 5 (3, 4)))
  have hd5 := hd4.below ((Below.refl _ w4).alloc (Nat.le_refl _) (.cells #[.int .u8 97, .int .u8 98, .int .u8 99] 5 (3, 4)))
  have hB5' : Below w.heap.size w (w4.alloc (.cells #[.int .u8 97, .int .u8 98, .int .u8 99] 5 (3, 4))) := hB4'.alloc hB4'.size _
  have hbt : Bts (w4.alloc (.cells #[.int .u8 97, .int .u8 98, .int .u8 99] 5 (3, 4))) (some ⟨w4.heap.size, 0, none⟩) 3 3 [97, 98, 99] := bts_lit w4 [97, 98, 99] 3 rfl (by unfold maxLen; omega) (3, 4)
  have CADD := Lib.hid (add_ok (Dk.new 10) 5 ha5 hd5 hp4 hbt (by omega) (by decide))
  have HP4 := Lib.hid hp4
  have HBA := Lib.hid hBA
  clear CG CG0 hk4 hB3 hB3' ha3 hd3 ha2 hd2 hB2 hB2' hd1 CA kc hBA hp4 hp2 P1 hbt hd4 ha4 hB4' hB1
  have kc := fun (w : World) (C : Array Value) (n c : Nat) => Lib.run_convert_bytes_const (P := Try.prog) w 36 5 C n c Try.underlying36 Try.underlying5
  go_wp2_with fail
  refine CADD.out.mono ?_
  rintro e w6 ⟨d6, rfl, ha6, hd6, hp6, hwr6, hlv6, hk6⟩
  have hB6' := kept_low hB5' ha5 HBA.out HB.out HAA.out hk6
  have hcl6 : Clean d6.S 2 6 1 := by
    have := C1.more (n := 1) (m := 1) hwr6 (Nat.le_refl _)
    exact this
  have ha6 : AreaAt w6 w1.heap.size p b ⟨1, 2, 6, 7, [0], 1⟩ := ha6
  have hp6 : Plain ⟨1, 2, 6, 7, [0], 1⟩ d6 [(5, [97, 98, 99])] := hp6
  clear CADD kc hk6 hB5' ha5 hd5 hwr6
  go_wp2_with fail
  refine (get_ok d6 0 ha6 hd6 hp6 rfl).mono ?_
  rintro e w7 ⟨g7, c7, rfl, hg7, hbt7, hB7⟩
  have hB7' : Below w.heap.size w w7 := hB6'.trans (hB7.mono hB6'.size)
  have hd7 := hd6.below hB7
  clear hB7 ha6 hd6 hB6'
  go_wp2_with fail
  refine (open_ok d6 2 6 7 hd7 (by omega) hp6.chain hp6.off hp6.cut (by omega) (clean_end hcl6)).mono ?_
  rintro e w8 ⟨p8, A8, rfl, ha8, hA8, hp8, hB8⟩
  have hbt8 := hbt7.below hB8
  have hB8' : Below w.heap.size w w8 := hB7'.trans (hB8.mono hB7'.size)
  have cv : (convert 36 9 (.slice (some ⟨g7, 0, none⟩) 3 c7)).run Try.prog w8 = .ok (.string ⟨#[97, 98, 99]⟩) w8 := run_string_of w8 36 9 5 Try.underlying36 Try.underlying5 Try.underlying9 (c := c7) hbt8.2.1
  clear hbt7 hbt8 hp6 hcl6 hB7' hB8 hd7
  obtain rfl : A8 = ⟨d6.lives, 2, 6, 7, [0], 1⟩ := hA8
  have CL := Lib.hid (life_any ha8)
  have CA : Hid (Calls Try.prog 21 #[.pointer (some ⟨p8, 0, none⟩)] w8 fun e w' => ∃ A9 c9, e = .returned (.slice A9 1 c9) ∧ w'.ownsRow w8.heap.size 3 1 (.slice A9 1 c9) 1 [natv 0] ∧ Below w8.heap.size w8 w') := Lib.hid (all_any ha8 (by show 1 ≤ _; omega))
  have CR : Hid (∀ V, Below w8.heap.size w8 V → Calls Try.prog 19 #[.pointer (some ⟨p8, 0, none⟩)] V fun e w' => e = .returned (.int .i64 5) ∧ ∃ m, w' = V.drewN m) := Lib.hid (fun V hV => room_any (ha8.below hV) (by show 1 ≤ _; omega) (by show 6 ≤ _; omega))
  have CS : Hid (∀ V, Calls Try.prog 17 #[.int .i64 44] V fun e w' => e = .returned (.int .i64 1) ∧ V = w') := Lib.hid (fun V => size_any V 44 (by omega) (by omega))
  have CS2 : Hid (∀ V, Calls Try.prog 17 #[.int .i64 45] V fun e w' => e = .returned (.int .i64 2) ∧ V = w') := Lib.hid (fun V => size_any V 45 (by omega) (by omega))
  have CF : Hid (∀ V : World, Calls Try.prog 20 #[.int .i64 3, .slice (some ⟨V.heap.size, 0, none⟩) 2 2] (V.alloc (.cells #[.int .i64 44, .int .i64 45] 3)) fun e w' => e = .returned (.bool true) ∧ V.alloc (.cells #[.int .i64 44, .int .i64 45] 3) = w') := Lib.hid (fun V => fits_any (L := [44, 45]) 3 ⟨⟨by simp, ⟨rfl, fun _ => ⟨_, rfl, by simp, fun j u hu => by rw [add_zero_off, (Blk.new V 3 #[.int .i64 44, .int .i64 45]).cell j]; simpa using hu⟩⟩, Nat.le_refl _, by unfold maxLen; omega⟩, rfl, by decide⟩ (by omega) (by omega) (by omega))
  have HB8 := Lib.hid hB8'
  clear ha8 hp8 hB8' hlv6
  go_wp2_with fail
  refine CL.out.mono ?_
  rintro e w9 ⟨rfl, rfl⟩
  go_wp2_with fail
  refine CA.out.mono ?_
  rintro e w9 ⟨A9, c9, rfl, -, hB9⟩
  have HB9 := Lib.hid (HB8.out.trans (hB9.mono HB8.out.size))
  have CR0 := Lib.hid (CR.out w9 hB9)
  clear hB9 CR
  go_wp2_with fail
  refine CR0.out.mono ?_
  rintro e w10 ⟨rfl, m, rfl⟩
  go_wp2_with fail
  refine (CS.out _).mono ?_
  rintro e w11 ⟨rfl, rfl⟩
  go_wp2_with fail
  refine (CS2.out _).mono ?_
  rintro e w11 ⟨rfl, rfl⟩
  go_wp2_with fail
  refine (CF.out _).mono ?_
  rintro e w11 ⟨rfl, rfl⟩
  go_wp2_with fail
  go_ret
  exact ⟨rfl, (below_drewN HB9.out m).alloc HB9.out.size _⟩
end Go.Proofs.Ytlbikfamjogpnaa
end

/- A slice of noughts that is made. Conditions: none. -/
section
namespace Go.Proofs.Ytlbikfamjogpnaa
open Go.RowKit
/-- A row of noughts. -/
def zs (n : Nat) : List UInt8 := List.replicate n 0
def zsrow (n : Nat) : Array Value := ((zs n).map byt).toArray

theorem make_zs (n : Nat) (hn : n ≤ 140737488355328) (w : World) :
    (Instr.makeSlice 36 (.int .i64 (n : Int)) (.int .i64 (n : Int))).run Try.prog w = .ok (.slice (some ⟨w.heap.size, 0, none⟩) n n) (w.alloc (.cells (zsrow n) 5)) := by
  obtain ⟨i0, hi0, hz0, hz1, hz2⟩ := info_parts info_u8
  have hr := run_make (P := Try.prog) w 36 5 i0 (.int .u8 0) Try.underlying36 hi0 hz0 .i64 .i64 (n : Int) (n : Int) (by omega) (by omega) (by rw [hz2]; omega) (by omega)
  rw [hz1] at hr
  have e : madeCells (Value.int .u8 0).cells ((n : Int).toNat * 1) = zsrow n := by
    apply Array.toList_inj.1
    have := toList_madeCells_one (.int .u8 0) n
    simp only [Value.cells, Int.toNat_natCast, Nat.mul_one] at this ⊢
    rw [this]
    simp [zsrow, zs, byt]
  rw [e] at hr
  exact hr

end Go.Proofs.Ytlbikfamjogpnaa
end

/- FrameKnown answers true. Conditions: none. -/
section
namespace Go.Proofs.Ytlbikfamjogpnaa
open Go.RowKit
set_option linter.unusedVariables false
set_option linter.unusedSimpArgs false
theorem bts_zs (w : World) (n : Nat) (h : n ≤ 140737488355328) : Bts (w.alloc (.cells (zsrow n) 5)) (some ⟨w.heap.size, 0, none⟩) n n (zs n) := bts_blk (Blk.new w 5 (zsrow n)) (by simp [zs]) (by unfold maxLen; omega)
theorem below_zs {w w' : World} (h : Below w.heap.size w w') (n : Nat) : Below w.heap.size w (w'.alloc (.cells (zsrow n) 5)) := h.alloc h.size _
end Go.Proofs.Ytlbikfamjogpnaa
end

/- FrameRows answers true. Conditions: a slice of ints that reads, a byte. -/
section
namespace Go.Proofs.Ytlbikfamjogpnaa
open Go.RowKit
set_option linter.unusedVariables false
set_option linter.unusedSimpArgs false

/-- Whatever begins a frame here is of this life. -/
def OnlyLife (S : List (List UInt8)) (life : Nat) : Prop := ∀ i : Nat, (S.getD i []).headD 0 = 72 → upB (((S.getD i []).drop 2).take 8) = life
theorem only_new (n life : Nat) : OnlyLife (Dk.new n).S life := by
  intro i h
  have e : (Dk.new n).S.getD i [] = if i < n then zeros64 else [] := by
    unfold Dk.new
    rw [List.getD_eq_getElem?_getD, List.getElem?_replicate]
    split <;> rfl
  rw [e] at h
  split at h
  · exact absurd h (by decide)
  · exact absurd h (by decide)
theorem only_more {S S' : List (List UInt8)} {base n m life num : Nat} {kind : UInt8} {b : List UInt8} (h : OnlyLife S life) (hl : life < 18446744073709551616) (hw : written S S' base n m (layB kind life num b (n - 1))) : OnlyLife S' life := by
  intro i hi
  have hx := hw.2 i
  rw [List.getD_eq_getElem?_getD, hx] at hi ⊢
  split at hi
  · rename_i hc
    rw [if_pos hc]
    simp only [Option.getD_some] at hi ⊢
    by_cases h0 : i - base = 0
    · rw [h0] at hi ⊢
      have e0 : (layB kind life num b (n - 1))[0]?.getD [] = sealB kind life num b ++ b.take 44 := rfl
      rw [e0, head_pad]
      obtain ⟨_, _, p3, _⟩ := head_parts 72 kind (leB life 8) (leB num 4) (leB b.length 2) (leB (sumOf (headB kind life num b ++ b)) 4) (padTo 44 (b.take 44)) (leB_len _ _) (leB_len _ _) (leB_len _ _) (leB_len _ _)
      rw [p3, upB_leB]
      exact Nat.mod_eq_of_lt hl
    · rw [layB_tail _ _ _ _ _ _ (by omega) (by omega), chunk_pad] at hi
      exact absurd hi (by simp)
  · rename_i hc
    rw [if_neg hc]
    have := h i (by rw [List.getD_eq_getElem?_getD]; exact hi)
    rw [List.getD_eq_getElem?_getD] at this
    exact this
theorem only_ends {S S' : List (List UInt8)} {first sectors life life' : Nat} {rows : List (List UInt8)} (h : OnlyLife S life) (hw : written S S' first 1 1 rows) (hne : life ≠ life') : ∀ f, frameAt S' first sectors 1 = some f → f.n ≠ 1 ∨ (0 < 1 ∧ f.life ≠ life') := by
  intro f hf
  obtain ⟨h1, h2⟩ := frame_life hf
  have e : S'.getD (first + 1) [] = S.getD (first + 1) [] := by rw [List.getD_eq_getElem?_getD, hw.2, if_neg (by omega), List.getD_eq_getElem?_getD]
  rw [e] at h1 h2
  exact .inr ⟨by omega, by rw [h2, h _ h1]; exact hne⟩
theorem begun {d : Dk} {A : Ar} {fs : List (UInt8 × List UInt8)} (h : Plain A d fs) (life : Nat) (hl : life < 18446744073709551616) : Plain { A with life := life, ats := [], used := 0 } d [] :=
  ⟨⟨h.chain.len, h.chain.fit, Nat.zero_le _, fun i k b hx => by simp at hx⟩, rfl, rfl, h.lives, h.off, h.cut, hl⟩
theorem u8_of {k : Int} (h : (Lit.int .u8 k).wf = true) : ∃ x : UInt8, k = (x.toNat : Int) := by
  simp only [Lit.wf, Bool.and_eq_true, decide_eq_true_eq] at h
  have e1 : IntKind.u8.min = 0 := by decide
  have e2 : IntKind.u8.max = 255 := by decide
  refine ⟨UInt8.ofNat k.toNat, ?_⟩
  simp
  omega
theorem fits_one (w : World) (s z : Int) (h1 : 0 ≤ s) (h2 : s ≤ 100) (hz1 : 0 ≤ z) (hz2 : z ≤ 1000) : Calls Try.prog 20 #[.int .i64 s, .slice (some ⟨w.heap.size, 0, none⟩) 1 1] (w.alloc (.cells #[.int .i64 z] 3)) fun e w' => e = .returned (.bool (decide (fsize z ≤ s))) ∧ w.alloc (.cells #[.int .i64 z] 3) = w' := by
  have hf := fits_any (w := w.alloc (.cells #[.int .i64 z] 3)) (A := some ⟨w.heap.size, 0, none⟩) (n := 1) (c := 1) (L := [z]) s ⟨⟨by simp, ⟨rfl, fun _ => ⟨_, rfl, by simp, fun j u hu => by rw [add_zero_off, (Blk.new w 3 #[.int .i64 z]).cell j]; simpa using hu⟩⟩, Nat.le_refl _, by unfold maxLen; omega⟩, rfl, fun y hy => by
    obtain rfl : y = z := by simpa using hy
    simp only [Lit.wf, Bool.and_eq_true, decide_eq_true_eq]
    have e1 : IntKind.i64.min = -9223372036854775808 := by decide
    have e2 : IntKind.i64.max = 9223372036854775807 := by decide
    omega⟩ (by omega) (by omega) (by omega)
  have e : fitsL s [z] = decide (fsize z ≤ s) := by
    have hp : fsize z ≠ 0 := by
      unfold fsize
      rw [if_neg (by omega)]
      split
      · decide
      · omega
    unfold fitsL
    by_cases h : s < fsize z
    · rw [if_pos (.inr h), decide_eq_false (by omega)]
    · rw [if_neg (by rintro (h3 | h3); exact hp h3; exact h h3), decide_eq_true (show fsize z ≤ s by omega)]
      unfold fitsL
      exact decide_eq_true (by omega)
  rw [e] at hf
  exact hf

set_option maxRecDepth 100000 in
set_option maxHeartbeats 8000000 in
theorem frameRows_all {w : World} {A0 : Option Addr} {n c : Nat} {L : List Int} (h : Ints .i64 w A0 n c L) (k : Int) (hk : (Lit.int .u8 k).wf = true) : Calls Try.prog 3 #[.slice A0 n c, .int .u8 k] w fun e w' => e = .returned (.bool true) ∧ Below w.heap.size w w' := by
  obtain ⟨kind, rfl⟩ := u8_of hk
  obtain ⟨hv, hln, hwf⟩ := h
  have HV := Lib.hid hv
  have HLN := Lib.hid hln
  have hcm : n ≤ maxLen := Nat.le_trans hv.2.2.1 hv.2.2.2
  unfold maxLen at hcm
  clear hv hln hwf hk
  go_enter Try.func3, Try.ntmps3
  go_wp2_with fail
  refine (awake5 w).mono ?_
  rintro e w1 ⟨rfl, hB1⟩
  by_cases hbig : 12 < n
  · have g1 : decide (12 < n) = true := decide_eq_true hbig
    go_wp2
    go_ret
    exact ⟨rfl, hB1⟩
  have g1 : decide (12 < n) = false := decide_eq_false hbig
  go_wp2_with fail
  refine (new_ok 60 w1 (by omega) (by omega)).mono ?_
  rintro e w2 ⟨b, a, rfl, hd2, hb, ha, hb2⟩
  have hB2 : Below w.heap.size w w2 := hB1.trans (hb2.mono hB1.size)
  have HB := Lib.hid (Nat.le_trans hB1.size hb)
  have HAA := Lib.hid (Nat.le_trans hB1.size ha)
  have HZ2 := Lib.hid hB2.size
  clear hb ha hb2 hB1
  have P1 : Chain (Dk.new 60).S 5 50 0 [] := new_chain 60 5 50 0 (by omega)
  go_wp2_with fail
  refine (open_ok (fs := []) (Dk.new 60) 5 50 0 hd2 (by omega) P1 rfl rfl (by omega) (clean_end (new_clean 60 5 50))).mono ?_
  rintro e w3 ⟨p, A, rfl, ha3, hA, hp3, hb3⟩
  obtain rfl : A = ⟨1, 5, 50, 0, [], 0⟩ := hA
  have hd3 := hd2.below hb3
  have hB3 : Below w.heap.size w w3 := hB2.trans (hb3.mono hB2.size)
  have C1 := Lib.hid (begin_any 9 ha3)
  have HP3 := Lib.hid hp3
  have HA3 := Lib.hid ha3
  have HD3 := Lib.hid hd3
  have HB3 := Lib.hid hB3
  clear ha3 hd3 hB3 hB2 hb3 hd2 P1 hp3
  go_wp2_with fail
  refine C1.out.mono ?_
  rintro e w4 ⟨rfl, ha4, hk4⟩
  have HB4 := Lib.hid (DKept.area HB3.out HA3.out HZ2.out hk4)
  have HD4 := Lib.hid (HD3.out.area HA3.out hk4)
  have HP4 : Hid (Plain ⟨1, 5, 50, 9, [], 0⟩ (Dk.new 60) []) := Lib.hid (begun HP3.out 9 (by omega))
  have HA4 : Hid (AreaAt w4 w2.heap.size p b ⟨1, 5, 50, 9, [], 0⟩) := Lib.hid ha4
  clear C1 ha4 hk4 HA3 HD3 HB3 HP3
  have M1 := Lib.hid (fun (m : Nat) (hm : m ≤ 1000) => make_zs m (by omega))
  go_wp2_with fail
  go_loopg [9, 10] n (fun m atv iv wr => ∃ (j : Nat) (d : Dk) (fs : List (UInt8 × List UInt8)), j + m = n ∧ iv = .int .i64 (j : Int) ∧ atv = .int .i64 (offs fs fs.length : Nat) ∧
    Hid (AreaAt wr w2.heap.size p b ⟨1, 5, 50, 9, offsL fs, offs fs fs.length⟩) ∧ Hid (DiskAt wr b a d) ∧ Hid (Plain ⟨1, 5, 50, 9, offsL fs, offs fs fs.length⟩ d fs) ∧ Hid (OnlyLife d.S 9) ∧ Hid (Below w.heap.size w wr))
  case atStart => exact ⟨0, Dk.new 60, [], by omega, rfl, rfl, HA4, HD4, HP4, Lib.hid (only_new 60 9), HB4⟩
  case round =>
    obtain ⟨j, d, fs, hj, rfl, rfl, HA, HD, HP, HO, HBW⟩ := hrel
    by_cases hlt : j < n
    · obtain ⟨ab, ao, u, rfl, hu, hcell⟩ := vals_at (HV.out) hlt
      have HCELL := Lib.hid hcell
      have hcell := hcell wr HBW.out
      rw [List.getElem?_map] at hu
      obtain ⟨z, hz, rfl⟩ := Option.map_eq_some_iff.1 hu
      have HJ := Lib.hid hj
      clear hu hz hj
      by_cases hz0 : z < 0 ∨ 1000 < z
      · rcases hz0 with hz0 | hz0
        · have g0 : decide (z < 0) = true := decide_eq_true hz0
          go_wp2
          go_ret
          exact ⟨rfl, HBW.out⟩
        · have g0 : decide (z < 0) = false := decide_eq_false (by omega)
          have g2 : decide (1000 < z) = true := decide_eq_true hz0
          go_wp2
          go_ret
          exact ⟨rfl, HBW.out⟩
      obtain ⟨m, rfl⟩ := Int.eq_ofNat_of_zero_le (show 0 ≤ z by omega)
      have hm : m ≤ 1000 := by omega
      have g0 : decide ((m : Int) < 0) = false := decide_eq_false (by omega)
      have g2 : decide (1000 < m) = false := decide_eq_false (by omega)
      have g3 : decide ((1000 : Int) < (m : Int)) = false := decide_eq_false (by omega)
      have CZ : Hid (∀ V, Calls Try.prog 17 #[.int .i64 (m : Int)] V fun e w' => e = .returned (.int .i64 (fsz m : Nat)) ∧ V = w') := Lib.hid (fun V => by rw [← fsize_nat hm]; exact size_any V m (by omega) (by omega))
      have mk := M1.out m hm
      have hfp := fsz_pos m
      have hf17 := fsz_le hm
      have hofs := HP.out.chain.room
      obtain ⟨q, hq⟩ : ∃ q, q = fsz m := ⟨_, rfl⟩
      obtain ⟨u, hu⟩ : ∃ u, u = offs fs fs.length := ⟨_, rfl⟩
      rw [← hq] at CZ hfp hf17
      rw [← hu] at hofs HA HP ⊢
      have hofs : u ≤ 50 := hofs
      have HQ := Lib.hid hq
      have HU := Lib.hid hu
      clear hz0 hq hu
      have e50 : IntKind.i64.wrap (50 - (u : Int)) = 50 - (u : Int) := IntWalk.i64_in _ (by omega)
      have ha' := HA.out.below ((Below.refl _ wr).alloc (Nat.le_refl _) (.cells (zsrow m) 5))
      have hd' := HD.out.below ((Below.refl _ wr).alloc (Nat.le_refl _) (.cells (zsrow m) 5))
      have hb' := bts_zs wr m (by omega)
      have HBA : Hid (Below w.heap.size w (wr.alloc (.cells (zsrow m) 5))) := Lib.hid (below_zs HBW.out m)
      by_cases hroom : 50 < u + q
      · have CADD := Lib.hid (add_any d kind ha' hd' HP.out.chain.fit HP.out.le.1 HP.out.le.2 hb' (by omega))
        have g4 : decide ((50 : Int) - (u : Int) < (q : Int)) = true := decide_eq_true (by omega)
        clear ha' hd' hb' HA HD
        go_wp2_with fail
        refine (CZ.out _).mono ?_
        rintro e w' ⟨rfl, rfl⟩
        go_wp2_with fail
        refine CADD.out.mono ?_
        intro e w5 hpost
        obtain ⟨rfl, ha5, hd5, hb5⟩ : _ ∧ _ ∧ _ ∧ _ := by
          unfold AddPost at hpost
          have hl : (zs m).length = m := by simp [zs]
          rw [if_neg (by rw [hl]; omega), if_neg (fun hh => hh HP.out.lives), if_pos (by rw [hl, ← HQ.out]; exact hroom)] at hpost
          exact hpost
        have CR := Lib.hid (room_any ha5 (show u ≤ _ by omega) (show 50 ≤ _ by omega))
        have CR : Hid (Calls Try.prog 19 #[.pointer (some ⟨p, 0, none⟩)] w5 fun e w' => e = .returned (.int .i64 (50 - (u : Int))) ∧ ∃ m, w' = w5.drewN m) := CR
        have HA5 := Lib.hid ha5
        have HD5 := Lib.hid hd5
        have HB5 : Hid (Below w.heap.size w w5) := Lib.hid (HBA.out.trans (hb5.mono HBA.out.size))
        clear hpost ha5 hd5 hb5 CADD HBA
        go_wp2_with fail
        refine CR.out.mono ?_
        rintro e w6 ⟨rfl, dr, rfl⟩
        go_wp2_with fail
        go_roundg (n - (j + 1))
        case measure => have := HJ.out; omega
        case rel =>
          have := HJ.out
          refine ⟨j + 1, d, fs, by omega, by go_num, by rw [HU.out], ?_, ?_, ?_, HO, Lib.hid (below_drewN HB5.out dr)⟩
          · rw [← HU.out]; exact Lib.hid (HA5.out.below (below_dn _ _))
          · exact Lib.hid (HD5.out.below (below_dn _ _))
          · rw [← HU.out]; exact HP
      · have CADD := Lib.hid (add_ok d kind ha' hd' HP.out hb' hm (by rw [← HQ.out]; show u + q ≤ 50; omega))
        have g4 : decide ((50 : Int) - (u : Int) < (q : Int)) = false := decide_eq_false (by omega)
        clear hd' hb' HA HD
        have HA' := Lib.hid ha'
        clear ha'
        go_wp2_with fail
        refine (CZ.out _).mono ?_
        rintro e w' ⟨rfl, rfl⟩
        go_wp2_with fail
        refine CADD.out.mono ?_
        rintro e w5 ⟨d5, rfl, ha5, hd5, hp5, hwr5, hlv5, hk5⟩
        have hl : (zs m).length = m := by simp [zs]
        have HB5 := Lib.hid (kept_low HBA.out HA'.out HZ2.out HB.out HAA.out hk5)
        have eo : offs (fs ++ [(kind, zs m)]) (fs ++ [(kind, zs m)]).length = u + q := by rw [offs_more, HU.out, HQ.out, hl]
        have el : offsL (fs ++ [(kind, zs m)]) = offsL fs ++ [u] := by rw [offsL_more, HU.out]
        have HA5 : Hid (AreaAt w5 w2.heap.size p b ⟨1, 5, 50, 9, offsL fs ++ [u], u + q⟩) := Lib.hid (by rw [hl, ← HQ.out] at ha5; exact ha5)
        have HP5 : Hid (Plain ⟨1, 5, 50, 9, offsL fs ++ [u], u + q⟩ d5 (fs ++ [(kind, zs m)])) := Lib.hid (by rw [hl, ← HQ.out] at hp5; exact hp5)
        have HD5 := Lib.hid hd5
        have HO5 : Hid (OnlyLife d5.S 9) := Lib.hid (only_more HO.out (by omega) hwr5)
        have HEO := Lib.hid eo
        have HEL := Lib.hid el
        have CR : Hid (Calls Try.prog 19 #[.pointer (some ⟨p, 0, none⟩)] w5 fun e w' => e = .returned (.int .i64 (50 - ((u + q : Nat) : Int))) ∧ ∃ m, w' = w5.drewN m) := Lib.hid (room_any HA5.out (show u + q ≤ _ by omega) (show 50 ≤ _ by omega))
        have CF1 : Hid (∀ V : World, Calls Try.prog 20 #[.int .i64 (q : Int), .slice (some ⟨V.heap.size, 0, none⟩) 1 1] (V.alloc (.cells #[.int .i64 (m : Int)] 3)) fun e w' => e = .returned (.bool true) ∧ V.alloc (.cells #[.int .i64 (m : Int)] 3) = w') := Lib.hid (fun V => by
          have := fits_one V q m (by omega) (by omega) (by omega) (by omega)
          rw [fsize_nat hm, ← HQ.out, decide_eq_true (by omega)] at this
          exact this)
        have CF2 : Hid (∀ V : World, Calls Try.prog 20 #[.int .i64 ((q : Int) - 1), .slice (some ⟨V.heap.size, 0, none⟩) 1 1] (V.alloc (.cells #[.int .i64 (m : Int)] 3)) fun e w' => e = .returned (.bool false) ∧ V.alloc (.cells #[.int .i64 (m : Int)] 3) = w') := Lib.hid (fun V => by
          have := fits_one V ((q : Int) - 1) m (by omega) (by omega) (by omega) (by omega)
          rw [fsize_nat hm, ← HQ.out, decide_eq_false (by omega)] at this
          exact this)
        have e1 : IntKind.i64.wrap ((u : Int) + (q : Int)) = ((u + q : Nat) : Int) := (IntWalk.i64_in _ (by omega)).trans (by simp)
        have e2 : IntKind.i64.wrap ((q : Int) - 1) = (q : Int) - 1 := IntWalk.i64_in _ (by omega)
        have e3 : IntKind.i64.wrap (50 - ((u + q : Nat) : Int)) = 50 - ((u + q : Nat) : Int) := IntWalk.i64_in _ (by omega)
        clear ha5 hd5 hp5 hwr5 hlv5 hk5 eo el CADD HBA HA' HP HO hl
        obtain ⟨x, hx⟩ : ∃ x, x = u + q := ⟨_, rfl⟩
        rw [← hx] at CR e1 e3 HEO HA5 HP5
        have HX := Lib.hid hx
        clear hx
        go_wp2_with fail
        refine CR.out.mono ?_
        rintro e w6 ⟨rfl, dr, rfl⟩
        clear hcell
        have hc6 := HCELL.out (w5.drewN dr) (below_drewN HB5.out dr)
        have hc5 := HCELL.out w5 HB5.out
        go_wp2_with fail
        refine (CF1.out _).mono ?_
        rintro e w7 ⟨rfl, rfl⟩
        have hc7 := HCELL.out ((w5.drewN dr).alloc (.cells #[.int .i64 (m : Int)] 3)) ((below_drewN HB5.out dr).alloc (below_drewN HB5.out dr).size _)
        have CF3 : Hid (Calls Try.prog 20 #[.int .i64 ((q : Int) - 1), .slice (some ⟨w5.heap.size + 1, 0, none⟩) 1 1] (((w5.drewN dr).alloc (.cells #[.int .i64 (m : Int)] 3)).alloc (.cells #[.int .i64 (m : Int)] 3)) fun e w' => e = .returned (.bool false) ∧ ((w5.drewN dr).alloc (.cells #[.int .i64 (m : Int)] 3)).alloc (.cells #[.int .i64 (m : Int)] 3) = w') := Lib.hid (by
          have := CF2.out ((w5.drewN dr).alloc (.cells #[.int .i64 (m : Int)] 3))
          rw [World.size_alloc] at this
          exact this)
        go_wp2_with fail
        refine CF3.out.mono ?_
        rintro e w8 ⟨rfl, rfl⟩
        go_wp2_with fail
        go_roundg (n - (j + 1))
        case measure => have := HJ.out; omega
        case rel =>
          have := HJ.out
          have hb6 := below_drewN HB5.out dr
          have hl6 : Later w5 (w5.drewN dr) := below_dn _ _
          have hl7 := (hl6.alloc (.cells #[.int .i64 (m : Int)] 3)).alloc (.cells #[.int .i64 (m : Int)] 3)
          refine ⟨j + 1, d5, fs ++ [(kind, zs m)], by omega, by go_num, by rw [HEO.out], ?_, ?_, ?_, HO5, Lib.hid ((hb6.alloc hb6.size _).alloc (by have := hb6.size; simp at this ⊢; omega) _)⟩
          · rw [HEO.out, HEL.out]; exact Lib.hid (HA5.out.below hl7)
          · exact Lib.hid (HD5.out.below hl7)
          · rw [HEO.out, HEL.out]; exact HP5
    · obtain rfl : j = n := by omega
      have CB := Lib.hid (begin_any 10 HA.out)
      have HP2 := Lib.hid (begun HP.out 10 (by omega))
      have HX : Hid (Below w.heap.size w wr) := HBW
      clear M1 HP HBW
      go_wp2_with fail
      refine CB.out.mono ?_
      rintro e w5 ⟨rfl, ha5, hk5⟩
      have ha5 : AreaAt w5 w2.heap.size p b ⟨1, 5, 50, 10, [], 0⟩ := ha5
      have HP5 : Hid (Plain ⟨1, 5, 50, 10, [], 0⟩ d []) := HP2
      have HB5 := Lib.hid (DKept.area HX.out HA.out HZ2.out hk5)
      have HD5 := Lib.hid (HD.out.area HA.out hk5)
      have CA : Hid (Calls Try.prog 21 #[.pointer (some ⟨p, 0, none⟩)] w5 fun e w' => ∃ A9 c9, e = .returned (.slice A9 0 c9) ∧ w'.ownsRow w5.heap.size 3 1 (.slice A9 0 c9) 0 [] ∧ Below w5.heap.size w5 w') := Lib.hid (all_any ha5 (by show 0 ≤ _; omega))
      have HA5 := Lib.hid ha5
      clear CB HP2 HX HA HD ha5 hk5
      go_wp2_with fail
      refine CA.out.mono ?_
      rintro e w6 ⟨A9, c9, rfl, -, hb6⟩
      have HL6 : Hid (Later w5 w6) := Lib.hid hb6
      have CR : Hid (Calls Try.prog 19 #[.pointer (some ⟨p, 0, none⟩)] w6 fun e w' => e = .returned (.int .i64 50) ∧ ∃ m, w' = w6.drewN m) := Lib.hid (room_any (HA5.out.below hb6) (show 0 ≤ _ by omega) (show 50 ≤ _ by omega))
      clear hb6 CA
      go_wp2_with fail
      refine CR.out.mono ?_
      rintro e w7 ⟨rfl, dr, rfl⟩
      have HL7 : Hid (Later w5 (w6.drewN dr)) := Lib.hid (below_drewN HL6.out dr)
      have CL := Lib.hid (life_any (HA5.out.below HL7.out))
      clear CR HL6
      go_wp2_with fail
      refine CL.out.mono ?_
      rintro e w8 ⟨rfl, rfl⟩
      obtain ⟨W, hW⟩ : ∃ W, W = w6.drewN dr := ⟨_, rfl⟩
      have hl9 : Later w5 (W.alloc (.cells #[.int .u8 110, .int .u8 101, .int .u8 119] 5 (3, 4))) := by rw [hW]; exact HL7.out.alloc _
      have hbt : Bts (W.alloc (.cells #[.int .u8 110, .int .u8 101, .int .u8 119] 5 (3, 4))) (some ⟨W.heap.size, 0, none⟩) 3 3 [110, 101, 119] := bts_lit W [110, 101, 119] 3 rfl (by unfold maxLen; omega) (3, 4)
      have CADD := Lib.hid (add_ok d 1 (HA5.out.below hl9) (HD5.out.below hl9) HP5.out hbt (by omega) (by decide))
      have HA9 := Lib.hid (HA5.out.below hl9)
      have HB9 := Lib.hid (HB5.out.trans ((show Below _ _ _ from hl9).mono HB5.out.size))
      rw [← hW]
      clear CL HL7 hW hl9 hbt HA5 HD5 HB5 HP5
      have kc := fun (w : World) (C : Array Value) (n c : Nat) => Lib.run_convert_bytes_const (P := Try.prog) w 36 5 C n c Try.underlying36 Try.underlying5
      go_wp2_with fail
      refine CADD.out.mono ?_
      rintro e w10 ⟨d10, rfl, -, hd10, hp10, hwr10, hlv10, hk10⟩
      have HB10 := Lib.hid (kept_low HB9.out HA9.out HZ2.out HB.out HAA.out hk10)
      have COP := Lib.hid (open_ok d10 5 50 10 hd10 (by omega) hp10.chain hp10.off hp10.cut (by omega) (only_ends HO.out hwr10 (by omega)))
      clear CADD kc HA9 HB9 hd10 hp10 hwr10 hlv10 hk10 HO
      go_wp2_with fail
      refine COP.out.mono ?_
      rintro e w11 ⟨p11, A11, rfl, ha11, hA11, -, hb11⟩
      obtain rfl : A11 = ⟨d10.lives, 5, 50, 10, [0], 1⟩ := hA11
      have HB11 := Lib.hid (HB10.out.trans (hb11.mono HB10.out.size))
      have CA2 : Hid (Calls Try.prog 21 #[.pointer (some ⟨p11, 0, none⟩)] w11 fun e w' => ∃ A9 c9, e = .returned (.slice A9 1 c9) ∧ w'.ownsRow w11.heap.size 3 1 (.slice A9 1 c9) 1 [natv 0] ∧ Below w11.heap.size w11 w') := Lib.hid (all_any ha11 (by show 1 ≤ _; omega))
      have CL2 := Lib.hid (fun V (hV : Below w11.heap.size w11 V) => life_any (ha11.below hV))
      clear COP ha11 hb11
      go_wp2_with fail
      refine CA2.out.mono ?_
      rintro e w12 ⟨A9', c9', rfl, -, hb12⟩
      have CL3 := Lib.hid (CL2.out w12 hb12)
      have HB12 := Lib.hid (HB11.out.trans (hb12.mono HB11.out.size))
      clear CL2 hb12
      go_wp2_with fail
      refine CL3.out.mono ?_
      rintro e w13 ⟨rfl, rfl⟩
      go_wp2_with fail
      go_ret
      exact ⟨rfl, HB12.out⟩
end Go.Proofs.Ytlbikfamjogpnaa
end
