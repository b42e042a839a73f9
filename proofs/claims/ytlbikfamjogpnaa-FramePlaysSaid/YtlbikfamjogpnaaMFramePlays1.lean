/- The texts of this proof, joined: contracts of the functions that the law reaches, and what they come to in plain Lean. Conditions: those that each theorem names. -/
import Derived.Test.YtlbikfamjogpnaaMFramePlays0
import Derived.Deep.CutBlock
import Derived.RangeFuncNested
import Derived.RangeFuncBound
import Derived.RangeFuncCalls
import Derived.RangeFuncLeaves
import Derived.Shelf.Abstract
import Derived.Shelf.RegionOpen
import Derived.WalkKit
import Derived.OwnWalkIn
import Derived.TacticsInMore
import Derived.LoopNIn
import Derived.LoopIn
import Derived.OrdersIn
import Derived.RangeFuncWrites
import Derived.Deep.DeepCutAuto
import Derived.Deep.LoopGhost
import Derived.Deep.Draws
import Derived.RegionTactic
import Derived.Lib.SlBytesConst
import Derived.BigQuiet

/- frame.Open of a disk that is on: the frames that it finds. Conditions: the disk lies in memory; the area lies on it. -/
section
namespace Go.Proofs.Ytlbikfamjogpnaa
open Go.RowKit
set_option linter.unusedVariables false
set_option linter.unusedSimpArgs false

theorem scanF_stop {S : List (List UInt8)} {A : Ar} (h : A.sectors ≤ A.used) (m : Nat) : scanF S m A = A := by
  cases m with
  | zero => rfl
  | succ m =>
    have e : frameAt S A.first A.sectors A.used = none := by unfold frameAt; simp only []; rw [if_pos h]
    unfold scanF
    rw [e]
theorem scanF_fuel {S : List (List UInt8)} (m : Nat) : ∀ (m' : Nat) (A : Ar), A.sectors + 1 - A.used ≤ m → A.sectors + 1 - A.used ≤ m' → scanF S m A = scanF S m' A := by
  induction m with
  | zero => intro m' A h h'; rw [scanF_stop (by omega), scanF_stop (by omega)]
  | succ m ih =>
    intro m' A h h'
    cases m' with
    | zero => rw [scanF_stop (by omega), scanF_stop (by omega)]
    | succ m' =>
      unfold scanF
      cases frameAt S A.first A.sectors A.used with
      | none => rfl
      | some f =>
        simp only []
        split
        · rfl
        · have := fsz_pos f.b.length
          exact ih m' _ (by show A.sectors + 1 - (A.used + fsz f.b.length) ≤ m; omega) (by show A.sectors + 1 - (A.used + fsz f.b.length) ≤ m'; omega)
/-- One frame more. -/
def Ar.more (A : Ar) (f : Fr) : Ar := { A with life := f.life, ats := A.ats ++ [A.used], used := A.used + fsz f.b.length }
/-- Is the frame the next one? -/
def Ar.ends (A : Ar) (f : Fr) : Prop := f.n ≠ A.ats.length ∨ (0 < A.ats.length ∧ f.life ≠ A.life)
def scanA (S : List (List UInt8)) (A : Ar) : Ar := scanF S (A.sectors + 1) A
theorem scanA_none {S : List (List UInt8)} {A : Ar} (h : frameAt S A.first A.sectors A.used = none) : scanA S A = A := by
  unfold scanA scanF; rw [h]
theorem scanA_ends {S : List (List UInt8)} {A : Ar} {f : Fr} (h : frameAt S A.first A.sectors A.used = some f) (he : A.ends f) : scanA S A = A := by
  unfold Ar.ends at he
  unfold scanA scanF; rw [h]; simp only []; rw [if_pos he]
theorem scanA_more {S : List (List UInt8)} {A : Ar} {f : Fr} (h : frameAt S A.first A.sectors A.used = some f) (he : ¬ A.ends f) : scanA S A = scanA S (A.more f) := by
  have e : scanA S A = scanF S A.sectors (A.more f) := by
    unfold scanA
    conv => lhs; unfold scanF
    unfold Ar.ends at he
    rw [h]; simp only []; rw [if_neg he]; rfl
  rw [e]
  have := fsz_pos f.b.length
  exact scanF_fuel _ _ _ (by show A.sectors + 1 - (A.used + fsz f.b.length) ≤ A.sectors; omega) (by show A.sectors + 1 - (A.used + fsz f.b.length) ≤ A.sectors + 1; omega)
theorem info_int : (Try.prog.info? 3).map (fun i => (i.zero, i.size, i.bytes)) = some (some (.int .i64 0), 1, 8) := by kernel_rfl

theorem int_reads (W : World) (u : Value) (t : TypeId) : Reads (W.alloc (.cells #[u] t)) (W.heap.size + 1) 1 (some ⟨W.heap.size, 0, none⟩) 1 [u] := by
  refine ⟨rfl, fun _ => ⟨_, rfl, Nat.lt_succ_self _, fun j v hv => ?_⟩⟩
  match j, hv with
  | 0, hv =>
    simp at hv
    subst hv
    rw [show (⟨W.heap.size, 0, none⟩ : Addr).add 0 = ⟨W.heap.size, 0, none⟩ from rfl]
    exact ((Blk.new W t #[u]).cell 0).trans rfl

section
variable {w : World} {b a : Nat}
theorem disk_len {d : Dk} (hd : DiskAt w b a d) : d.S.length ≤ 4096 ∧ (∀ s ∈ d.S, s.length = 64) := by
  obtain ⟨_, _, _, _, _, _, _, _, h, _, _, hs⟩ := hd
  refine ⟨h, fun s hm => ?_⟩
  obtain ⟨i, hi, rfl⟩ := List.getElem_of_mem hm
  obtain ⟨v, _, hv⟩ := hs i _ (List.getElem?_eq_getElem hi)
  exact hv.1
set_option maxRecDepth 100000 in
set_option maxHeartbeats 8000000 in
theorem open_any (d : Dk) (first sectors : Nat) (hd : DiskAt w b a d) (h1 : 1 ≤ sectors) (hfit : first + sectors ≤ d.S.length) (hoff : d.off = false) :
    Calls Try.prog 15 #[.pointer (some ⟨b, 0, none⟩), .int .i64 (first : Int), .int .i64 (sectors : Int)] w fun e w' => ∃ p, e = .returned (.tuple #[.pointer (some ⟨p, 0, none⟩), .int .i64 0]) ∧ AreaAt w' w.heap.size p b (scanA d.S ⟨d.lives, first, sectors, 0, [], 0⟩) ∧ Below w.heap.size w w' := by
  obtain ⟨hl, hS⟩ := disk_len hd
  have CS := Lib.hid (fun V (hV : Later w V) => sectors_any d (hd.below hV))
  have CP : Hid (Calls Try.prog 55 #[.pointer (some ⟨b, 0, none⟩)] w fun e w' => e = .returned (.bool true) ∧ w = w') := Lib.hid (by have := power_any d hd; rw [hoff] at this; exact this)
  have CL := Lib.hid (fun V (hV : Later w V) => lives_any d (hd.below hV))
  have HD := Lib.hid hd
  have HS := Lib.hid hS
  have HFIT := Lib.hid hfit
  have HL := Lib.hid hl
  have g1 : decide ((first : Int) < 0) = false := decide_eq_false (by omega)
  have g2 : decide ((sectors : Int) < 1) = false := decide_eq_false (by omega)
  have g3 : decide ((d.S.length : Int) < (first : Int)) = false := decide_eq_false (by omega)
  have e1 : IntKind.i64.wrap ((d.S.length : Int) - (first : Int)) = (d.S.length : Int) - (first : Int) := IntWalk.i64_in _ (by omega)
  have g4 : decide ((d.S.length : Int) - (first : Int) < (sectors : Int)) = false := decide_eq_false (by omega)
  clear hd hS
  go_enter Try.func15, Try.ntmps15
  go_upto_block 1 with (first
    | (go_at_call 54; refine (CS.out _ (Later.refl _)).mono ?_; rintro e w' ⟨rfl, rfl⟩)
    | (go_at_call 55; refine CP.out.mono ?_; rintro e w' ⟨rfl, rfl⟩)
    | (go_at_call 56; refine (CL.out _ (Later.refl _)).mono ?_; rintro e w' ⟨rfl, rfl⟩))
  obtain ⟨W1, hW1⟩ : ∃ W1, W1 = w.alloc (.cells #[.pointer (some ⟨b, 0, none⟩), .int .i64 d.lives, .int .i64 first, .int .i64 sectors, .int .u64 0, .slice none 0 0, .int .i64 0] 97) := ⟨_, rfl⟩
  have hb1 : Below w.heap.size w W1 := by rw [hW1]; exact (Below.refl _ _).alloc (Nat.le_refl _) _
  have ha1 : AreaAt W1 w.heap.size w.heap.size b ⟨d.lives, first, sectors, 0, [], 0⟩ := ⟨Nat.le_refl _, none, 0, by rw [hW1]; exact Blk.new _ _ _, own_nil_row _ _ _⟩
  rw [← hW1]
  have HB1 := Lib.hid hb1
  have HA1 := Lib.hid ha1
  have HD1 := Lib.hid (HD.out.below hb1)
  clear hW1 hb1 ha1 CS CP CL g1 g2 g3 g4 e1
  generalize hFIN : scanA d.S ⟨d.lives, first, sectors, 0, [], 0⟩ = FIN
  have HFIN := Lib.hid hFIN
  clear hFIN
  go_wp2_with fail
  go_loopg [] (sectors + 1) (fun m wr => ∃ A : Ar, m = sectors + 1 - A.used ∧ A.used ≤ sectors ∧ Hid (A.first = first ∧ A.sectors = sectors ∧ A.lives = d.lives ∧ A.ats.length ≤ A.used) ∧ Hid (AreaAt wr w.heap.size w.heap.size b A) ∧ Hid (DiskAt wr b a d) ∧ Hid (Below w.heap.size w wr) ∧ Hid (scanA d.S A = FIN))
  case atStart => exact ⟨⟨d.lives, first, sectors, 0, [], 0⟩, rfl, Nat.zero_le _, Lib.hid ⟨rfl, rfl, rfl, Nat.le_refl _⟩, HA1, HD1, HB1, HFIN⟩
  case round =>
    obtain ⟨A, hm, hu, HE, HA, HDR, HB, HSC⟩ := hrel
    clear HA1 HD1 HB1
    have CR := read_on d A.used HA.out HDR.out (by rw [HE.out.1, HE.out.2.1]; exact HFIT.out) hoff
    obtain ⟨h0, At, c, hk, ho⟩ := HA.out
    obtain ⟨c0, c1, c2, c3, c4, c5, c6⟩ := area_cells hk
    have CR := Lib.hid CR
    have HM := Lib.hid hm
    have HO := Lib.hid ho
    have HK := Lib.hid hk
    clear hk ho h0 hm
    go_wp2_with fail
    refine CR.out.mono ?_
    intro e w5 hst
    have hst := Lib.hid hst
    -- LOOP
    rcases hst.out with ⟨hfn, rfl, hb5⟩ | ⟨x, g, cb, hfx, rfl, hg, hbt, hb5⟩
    · have HFN := Lib.hid hfn
      clear hfn hst
      obtain ⟨W6, hW6⟩ : ∃ W6, W6 = w5.alloc (.cells #[.int .u8 0, .int .u64 0, .int .u64 0, .slice none 0 0] 99) := ⟨_, rfl⟩
      have hb6 : Below wr.heap.size wr W6 := by rw [hW6]; exact hb5.alloc hb5.size _
      have hk6 : Blk W6 w5.heap.size 99 #[.int .u8 0, .int .u64 0, .int .u64 0, .slice none 0 0] := by rw [hW6]; exact Blk.new _ _ _
      have HA6 := Lib.hid (HA.out.below hb6)
      have HK6 := Lib.hid (HK.out.below hb6 HK.out.lt)
      have HO6 : Hid (W6.ownsRow w.heap.size 3 1 (.slice At A.ats.length c) A.ats.length (A.ats.map natv)) := Lib.hid (own_keep HO.out fun g hg => hb6.block g (HO.out.lt g hg).2)
      have HD6 := Lib.hid (HDR.out.below hb6)
      have HB6 : Hid (Below w.heap.size w W6) := Lib.hid (HB.out.trans (hb6.mono HB.out.size))
      have HF6 := Lib.hid hk6
      have HNE : Hid (w.heap.size < w5.heap.size) := Lib.hid (Nat.lt_of_lt_of_le HK.out.lt hb5.size)
      have HW6 := Lib.hid hW6
      go_upto_region 7 with fail
      rw [← HW6.out]
      clear hW6 hb6 hk6 HW6 c0 c1 c2 c3 c4 c5 c6
      have SF : Hid (∀ V, Later W6 V → (V.cell? ⟨w.heap.size, 4, none⟩ = some (.int .u64 A.life) ∧ V.cell? ⟨w.heap.size, 5, none⟩ = some (.slice At A.ats.length c) ∧ V.cell? ⟨w.heap.size, 6, none⟩ = some (.int .i64 A.used)) ∧ V.cell? ⟨w5.heap.size, 1, none⟩ = some (.int .u64 0) ∧ V.cell? ⟨w5.heap.size, 2, none⟩ = some (.int .u64 0)) := Lib.hid fun V hV => by
        obtain ⟨-, -, -, -, c4, c5, c6⟩ := area_cells (HK6.out.below hV HK6.out.lt)
        have hf := HF6.out.below hV HF6.out.lt
        exact ⟨⟨c4, c5, c6⟩, (hf.cell 1).trans rfl, (hf.cell 2).trans rfl⟩
      have HL0 := Lib.hid (Later.refl W6)
      have ZF0 : Hid (∀ s, W6.heap.size ≤ s → W6.heap.size ≤ s) := Lib.hid (fun _ h => h)
      have ZS0 : Hid (∀ V, Later W6 V → (Later W6) V) := Lib.hid (fun _ h => h)
      refine walk_start 30 (S := Later W6) (T := Later W6) (by kernel_rfl) (fun r => W6.heap.size ≤ r) (fun _ h => h.size) ZS0.out (closed_later _) (Later.refl _).drew ?_
      refine wt 0 52 ?_ (fun V hV => ?_) ?_
      rotate_left 1
      · (clear hV; go_simp; (try with_reducible rfl))
      try simp only [pa, List.set]
      refine wt 1 53 ?_ (fun V hV => ?_) ?_
      rotate_left 1
      · (clear hV; go_simp; (try with_reducible rfl))
      try simp only [pa, List.set]
      refine wt 2 54 ?_ (fun V hV => ?_) ?_
      rotate_left 1
      · (clear hV; go_simp; (try with_reducible rfl))
      try simp only [pa, List.set]
      refine ws 3 55 ?_
      try simp only [pa, List.set]
      refine ws 4 56 ?_
      try simp only [pa, List.set]
      refine ws 5 57 ?_
      try simp only [pa, List.set]
      refine ws 6 58 ?_
      try simp only [pa, List.set]
      refine ws 7 59 ?_
      try simp only [pa, List.set]
      refine ws 8 60 ?_
      try simp only [pa, List.set]
      refine ws 9 61 ?_
      try simp only [pa, List.set]
      refine ws 10 62 ?_
      try simp only [pa, List.set]
      refine ws 11 63 ?_
      try simp only [pa, List.set]
      refine wt 12 64 ?_ (fun V hV => ?_) ?_
      rotate_left 1
      · (clear hV; go_simp; (try with_reducible rfl))
      try simp only [pa, List.set]
      refine wt 13 65 ?_ (fun V hV => ?_) ?_
      rotate_left 1
      · (clear hV; go_simp; (try with_reducible rfl))
      try simp only [pa, List.set]
      refine ws 14 66 ?_
      try simp only [pa, List.set]
      refine ws 15 67 ?_
      try simp only [pa, List.set]
      refine ws 16 68 ?_
      try simp only [pa, List.set]
      refine ws 17 69 ?_
      try simp only [pa, List.set]
      refine ws 18 70 ?_
      try simp only [pa, List.set]
      refine ws 19 71 ?_
      try simp only [pa, List.set]
      refine ws 20 72 ?_
      try simp only [pa, List.set]
      refine ws 21 73 ?_
      try simp only [pa, List.set]
      refine ws 22 74 ?_
      try simp only [pa, List.set]
      refine ws 23 75 ?_
      try simp only [pa, List.set]
      refine ws 24 76 ?_
      try simp only [pa, List.set]
      refine ws 25 77 ?_
      try simp only [pa, List.set]
      refine ws 26 78 ?_
      try simp only [pa, List.set]
      refine ws 27 79 ?_
      try simp only [pa, List.set]
      refine ws 28 80 ?_
      try simp only [pa, List.set]
      refine wt 29 81 ?_ (fun V hV => ?_) ?_
      rotate_left 1
      · (clear hV; go_simp; (try with_reducible rfl))
      try simp only [pa, List.set]
      refine walk_exit (fun V hV => wpAnyJ_done (by kernel_rfl) ?_ _)
      have hV0 := HL0.out.trans hV
      have HV0 := Lib.hid hV0
      have HBZ : Hid (Below w.heap.size w V) := Lib.hid (HB6.out.trans ((show Below _ _ _ from hV0).mono HB6.out.size))
      have HAZ := Lib.hid (HA6.out.below hV0)
      clear hV hV0
      go_wp2_with fail
      refine bodyPost_ret (v := .tuple #[.pointer (some ⟨w.heap.size, 0, none⟩), .int .i64 0]) (by simp [results, Try.results15, go_sem]) rfl ⟨w.heap.size, rfl, ?_, HBZ.out⟩
      rw [HFIN.out, ← HSC.out, scanA_none HFN.out]
      exact HAZ.out
    · have HFX := Lib.hid hfx
      have HBT := Lib.hid hbt
      have hxl := frameAt_len hfx HS.out (by rw [HE.out.1, HE.out.2.1]; exact HFIT.out)
      have HXL := Lib.hid hxl
      have hlen : A.ats.length ≤ 4096 := by have := HE.out.2.2.2; have := HL.out; omega
      clear hfx hst hbt hxl
      obtain ⟨W6, hW6⟩ : ∃ W6, W6 = w5.alloc (.cells #[.int .u8 (x.kind.toNat : Int), .int .u64 (x.life : Int), .int .u64 (x.n : Int), .slice (some ⟨g, 0, none⟩) x.b.length cb] 99) := ⟨_, rfl⟩
      have hb6 : Below wr.heap.size wr W6 := by rw [hW6]; exact hb5.alloc hb5.size _
      have hk6 : Blk W6 w5.heap.size 99 #[.int .u8 (x.kind.toNat : Int), .int .u64 (x.life : Int), .int .u64 (x.n : Int), .slice (some ⟨g, 0, none⟩) x.b.length cb] := by rw [hW6]; exact Blk.new _ _ _
      have HA6 := Lib.hid (HA.out.below hb6)
      have HK6 := Lib.hid (HK.out.below hb6 HK.out.lt)
      have HO6 : Hid (W6.ownsRow w.heap.size 3 1 (.slice At A.ats.length c) A.ats.length (A.ats.map natv)) := Lib.hid (own_keep HO.out fun g hg => hb6.block g (HO.out.lt g hg).2)
      have HD6 := Lib.hid (HDR.out.below hb6)
      have HB6 : Hid (Below w.heap.size w W6) := Lib.hid (HB.out.trans (hb6.mono HB.out.size))
      have HF6 := Lib.hid hk6
      have HNE : Hid (w.heap.size < w5.heap.size) := Lib.hid (Nat.lt_of_lt_of_le HK.out.lt hb5.size)
      have HW6 := Lib.hid hW6
      go_upto_region 7 with fail
      rw [← HW6.out]
      clear hW6 hb6 hk6 HW6 c0 c1 c2 c3 c4 c5 c6
      have SF : Hid (∀ V, Later W6 V → (V.cell? ⟨w.heap.size, 4, none⟩ = some (.int .u64 A.life) ∧ V.cell? ⟨w.heap.size, 5, none⟩ = some (.slice At A.ats.length c) ∧ V.cell? ⟨w.heap.size, 6, none⟩ = some (.int .i64 A.used)) ∧ V.cell? ⟨w5.heap.size, 1, none⟩ = some (.int .u64 (x.life : Int)) ∧ V.cell? ⟨w5.heap.size, 2, none⟩ = some (.int .u64 (x.n : Int))) := Lib.hid fun V hV => by
        obtain ⟨-, -, -, -, c4, c5, c6⟩ := area_cells (HK6.out.below hV HK6.out.lt)
        have hf := HF6.out.below hV HF6.out.lt
        exact ⟨⟨c4, c5, c6⟩, (hf.cell 1).trans rfl, (hf.cell 2).trans rfl⟩
      have ew : IntKind.u64.wrap (A.ats.length : Int) = (A.ats.length : Int) := by rw [IntKind.wrap_u64]; omega
      by_cases hE : A.ends x
      · have HNX := Lib.hid hE
        by_cases hn : x.n = A.ats.length
        · have hE2 : 0 < A.ats.length ∧ x.life ≠ A.life := by
            rcases hE with h | h
            · exact absurd hn h
            · exact h
          have g1 : ((x.n : Int) != (A.ats.length : Int)) = false := by rw [hn]; simp
          have g2 : decide ((0 : Int) < (A.ats.length : Int)) = true := decide_eq_true (by omega)
          have g3 : decide (0 < A.ats.length) = true := decide_eq_true (by omega)
          have g4 : ((x.life : Int) != (A.life : Int)) = true := by rw [bne_iff_ne]; have := hE2.2; omega
          clear hn hE hE2
          have HL0 := Lib.hid (Later.refl W6)
          have ZF0 : Hid (∀ s, W6.heap.size ≤ s → W6.heap.size ≤ s) := Lib.hid (fun _ h => h)
          have ZS0 : Hid (∀ V, Later W6 V → (Later W6) V) := Lib.hid (fun _ h => h)
          refine walk_start 30 (S := Later W6) (T := Later W6) (by kernel_rfl) (fun r => W6.heap.size ≤ r) (fun _ h => h.size) ZS0.out (closed_later _) (Later.refl _).drew ?_
          refine wt 0 52 ?_ (fun V hV => ?_) ?_
          rotate_left 1
          · (clear hV; go_simp; (try with_reducible rfl))
          try simp only [pa, List.set]
          refine wt 1 53 ?_ (fun V hV => ?_) ?_
          rotate_left 1
          · (clear hV; go_simp; (try with_reducible rfl))
          try simp only [pa, List.set]
          refine wt 2 54 ?_ (fun V hV => ?_) ?_
          rotate_left 1
          · (clear hV; go_simp; (try with_reducible rfl))
          try simp only [pa, List.set]
          refine wt 3 55 ?_ (fun V hV => ?_) ?_
          rotate_left 1
          · (clear hV; go_simp; (try with_reducible rfl))
          try simp only [pa, List.set]
          refine wt 4 56 ?_ (fun V hV => ?_) ?_
          rotate_left 1
          · (obtain ⟨⟨c4, c5, c6⟩, f1, f2⟩ := SF.out V (HL0.out.trans hV); clear hV; go_simp; (try with_reducible rfl))
          try simp only [pa, List.set]
          refine wt 5 57 ?_ (fun V hV => ?_) ?_
          rotate_left 1
          · (clear hV; go_simp; (try with_reducible rfl))
          try simp only [pa, List.set]
          refine wt 6 58 ?_ (fun V hV => ?_) ?_
          rotate_left 1
          · (clear hV; go_simp; (try with_reducible rfl))
          try simp only [pa, List.set]
          refine wt 7 59 ?_ (fun V hV => ?_) ?_
          rotate_left 1
          · (clear hV; go_simp; (try with_reducible rfl))
          try simp only [pa, List.set]
          refine wt 8 60 ?_ (fun V hV => ?_) ?_
          rotate_left 1
          · (obtain ⟨⟨c4, c5, c6⟩, f1, f2⟩ := SF.out V (HL0.out.trans hV); clear hV; go_simp; (try with_reducible rfl))
          try simp only [pa, List.set]
          refine wt 9 61 ?_ (fun V hV => ?_) ?_
          rotate_left 1
          · (clear hV; go_simp; (try with_reducible rfl))
          try simp only [pa, List.set]
          refine wt 10 62 ?_ (fun V hV => ?_) ?_
          rotate_left 1
          · (obtain ⟨⟨c4, c5, c6⟩, f1, f2⟩ := SF.out V (HL0.out.trans hV); clear hV; go_simp; (try with_reducible rfl))
          try simp only [pa, List.set]
          refine wt 11 63 ?_ (fun V hV => ?_) ?_
          rotate_left 1
          · (clear hV; go_simp; (try with_reducible rfl))
          try simp only [pa, List.set]
          refine wt 12 64 ?_ (fun V hV => ?_) ?_
          rotate_left 1
          · (clear hV; go_simp; (try with_reducible rfl))
          try simp only [pa, List.set]
          refine wt 13 65 ?_ (fun V hV => ?_) ?_
          rotate_left 1
          · (clear hV; go_simp; (try with_reducible rfl))
          try simp only [pa, List.set]
          refine wt 14 66 ?_ (fun V hV => ?_) ?_
          rotate_left 1
          · (clear hV; go_simp; (try with_reducible rfl))
          try simp only [pa, List.set]
          refine wt 15 67 ?_ (fun V hV => ?_) ?_
          rotate_left 1
          · (clear hV; go_simp; (try with_reducible rfl))
          try simp only [pa, List.set]
          refine wt 16 68 ?_ (fun V hV => ?_) ?_
          rotate_left 1
          · (clear hV; go_simp; (try with_reducible rfl))
          try simp only [pa, List.set]
          refine wt 17 69 ?_ (fun V hV => ?_) ?_
          rotate_left 1
          · (obtain ⟨⟨c4, c5, c6⟩, f1, f2⟩ := SF.out V (HL0.out.trans hV); clear hV; go_simp; (try with_reducible rfl))
          try simp only [pa, List.set]
          refine wt 18 70 ?_ (fun V hV => ?_) ?_
          rotate_left 1
          · (clear hV; go_simp; (try with_reducible rfl))
          try simp only [pa, List.set]
          refine wt 19 71 ?_ (fun V hV => ?_) ?_
          rotate_left 1
          · (clear hV; go_simp; (try with_reducible rfl))
          try simp only [pa, List.set]
          refine wt 20 72 ?_ (fun V hV => ?_) ?_
          rotate_left 1
          · (clear hV; go_simp; (try with_reducible rfl))
          try simp only [pa, List.set]
          refine wt 21 73 ?_ (fun V hV => ?_) ?_
          rotate_left 1
          · (clear hV; go_simp; (try with_reducible rfl))
          try simp only [pa, List.set]
          refine wt 22 74 ?_ (fun V hV => ?_) ?_
          rotate_left 1
          · (obtain ⟨⟨c4, c5, c6⟩, f1, f2⟩ := SF.out V (HL0.out.trans hV); clear hV; go_simp; (try with_reducible rfl))
          try simp only [pa, List.set]
          refine wt 23 75 ?_ (fun V hV => ?_) ?_
          rotate_left 1
          · (clear hV; go_simp; (try with_reducible rfl))
          try simp only [pa, List.set]
          refine wt 24 76 ?_ (fun V hV => ?_) ?_
          rotate_left 1
          · (clear hV; go_simp; (try with_reducible rfl))
          try simp only [pa, List.set]
          refine wt 25 77 ?_ (fun V hV => ?_) ?_
          rotate_left 1
          · (clear hV; go_simp; (try with_reducible rfl))
          try simp only [pa, List.set]
          refine wt 26 78 ?_ (fun V hV => ?_) ?_
          rotate_left 1
          · (obtain ⟨⟨c4, c5, c6⟩, f1, f2⟩ := SF.out V (HL0.out.trans hV); clear hV; go_simp; (try with_reducible rfl))
          try simp only [pa, List.set]
          refine wt 27 79 ?_ (fun V hV => ?_) ?_
          rotate_left 1
          · (clear hV; go_simp; (try with_reducible rfl))
          try simp only [pa, List.set]
          refine wt 28 80 ?_ (fun V hV => ?_) ?_
          rotate_left 1
          · (clear hV; go_simp; (try with_reducible rfl))
          try simp only [pa, List.set]
          refine wt 29 81 ?_ (fun V hV => ?_) ?_
          rotate_left 1
          · (clear hV; go_simp; (try with_reducible rfl))
          try simp only [pa, List.set]
          refine walk_exit (fun V hV => wpAnyJ_done (by kernel_rfl) ?_ _)
          have hV0 := HL0.out.trans hV
          have HV0 := Lib.hid hV0
          have HBZ : Hid (Below w.heap.size w V) := Lib.hid (HB6.out.trans ((show Below _ _ _ from hV0).mono HB6.out.size))
          have HAZ := Lib.hid (HA6.out.below hV0)
          clear hV hV0
          go_wp2_with fail
          refine bodyPost_ret (v := .tuple #[.pointer (some ⟨w.heap.size, 0, none⟩), .int .i64 0]) (by simp [results, Try.results15, go_sem]) rfl ⟨w.heap.size, rfl, ?_, HBZ.out⟩
          rw [HFIN.out, ← HSC.out, scanA_ends HFX.out HNX.out]
          exact HAZ.out
        · have g1 : ((x.n : Int) != (A.ats.length : Int)) = true := by rw [bne_iff_ne]; omega
          clear hn hE
          have HL0 := Lib.hid (Later.refl W6)
          have ZF0 : Hid (∀ s, W6.heap.size ≤ s → W6.heap.size ≤ s) := Lib.hid (fun _ h => h)
          have ZS0 : Hid (∀ V, Later W6 V → (Later W6) V) := Lib.hid (fun _ h => h)
          refine walk_start 30 (S := Later W6) (T := Later W6) (by kernel_rfl) (fun r => W6.heap.size ≤ r) (fun _ h => h.size) ZS0.out (closed_later _) (Later.refl _).drew ?_
          refine wt 0 52 ?_ (fun V hV => ?_) ?_
          rotate_left 1
          · (clear hV; go_simp; (try with_reducible rfl))
          try simp only [pa, List.set]
          refine wt 1 53 ?_ (fun V hV => ?_) ?_
          rotate_left 1
          · (clear hV; go_simp; (try with_reducible rfl))
          try simp only [pa, List.set]
          refine wt 2 54 ?_ (fun V hV => ?_) ?_
          rotate_left 1
          · (clear hV; go_simp; (try with_reducible rfl))
          try simp only [pa, List.set]
          refine wt 3 55 ?_ (fun V hV => ?_) ?_
          rotate_left 1
          · (clear hV; go_simp; (try with_reducible rfl))
          try simp only [pa, List.set]
          refine wt 4 56 ?_ (fun V hV => ?_) ?_
          rotate_left 1
          · (obtain ⟨⟨c4, c5, c6⟩, f1, f2⟩ := SF.out V (HL0.out.trans hV); clear hV; go_simp; (try with_reducible rfl))
          try simp only [pa, List.set]
          refine wt 5 57 ?_ (fun V hV => ?_) ?_
          rotate_left 1
          · (clear hV; go_simp; (try with_reducible rfl))
          try simp only [pa, List.set]
          refine wt 6 58 ?_ (fun V hV => ?_) ?_
          rotate_left 1
          · (clear hV; go_simp; (try with_reducible rfl))
          try simp only [pa, List.set]
          refine wt 7 59 ?_ (fun V hV => ?_) ?_
          rotate_left 1
          · (clear hV; go_simp; (try with_reducible rfl))
          try simp only [pa, List.set]
          refine wt 8 60 ?_ (fun V hV => ?_) ?_
          rotate_left 1
          · (obtain ⟨⟨c4, c5, c6⟩, f1, f2⟩ := SF.out V (HL0.out.trans hV); clear hV; go_simp; (try with_reducible rfl))
          try simp only [pa, List.set]
          refine wt 9 61 ?_ (fun V hV => ?_) ?_
          rotate_left 1
          · (clear hV; go_simp; (try with_reducible rfl))
          try simp only [pa, List.set]
          refine wt 10 62 ?_ (fun V hV => ?_) ?_
          rotate_left 1
          · (obtain ⟨⟨c4, c5, c6⟩, f1, f2⟩ := SF.out V (HL0.out.trans hV); clear hV; go_simp; (try with_reducible rfl))
          try simp only [pa, List.set]
          refine wt 11 63 ?_ (fun V hV => ?_) ?_
          rotate_left 1
          · (clear hV; go_simp; (try with_reducible rfl))
          try simp only [pa, List.set]
          refine wt 12 64 ?_ (fun V hV => ?_) ?_
          rotate_left 1
          · (clear hV; go_simp; (try with_reducible rfl))
          try simp only [pa, List.set]
          refine wt 13 65 ?_ (fun V hV => ?_) ?_
          rotate_left 1
          · (clear hV; go_simp; (try with_reducible rfl))
          try simp only [pa, List.set]
          refine ws 14 66 ?_
          try simp only [pa, List.set]
          refine ws 15 67 ?_
          try simp only [pa, List.set]
          refine ws 16 68 ?_
          try simp only [pa, List.set]
          refine ws 17 69 ?_
          try simp only [pa, List.set]
          refine ws 18 70 ?_
          try simp only [pa, List.set]
          refine ws 19 71 ?_
          try simp only [pa, List.set]
          refine ws 20 72 ?_
          try simp only [pa, List.set]
          refine ws 21 73 ?_
          try simp only [pa, List.set]
          refine ws 22 74 ?_
          try simp only [pa, List.set]
          refine ws 23 75 ?_
          try simp only [pa, List.set]
          refine ws 24 76 ?_
          try simp only [pa, List.set]
          refine ws 25 77 ?_
          try simp only [pa, List.set]
          refine ws 26 78 ?_
          try simp only [pa, List.set]
          refine ws 27 79 ?_
          try simp only [pa, List.set]
          refine ws 28 80 ?_
          try simp only [pa, List.set]
          refine wt 29 81 ?_ (fun V hV => ?_) ?_
          rotate_left 1
          · (clear hV; go_simp; (try with_reducible rfl))
          try simp only [pa, List.set]
          refine walk_exit (fun V hV => wpAnyJ_done (by kernel_rfl) ?_ _)
          have hV0 := HL0.out.trans hV
          have HV0 := Lib.hid hV0
          have HBZ : Hid (Below w.heap.size w V) := Lib.hid (HB6.out.trans ((show Below _ _ _ from hV0).mono HB6.out.size))
          have HAZ := Lib.hid (HA6.out.below hV0)
          clear hV hV0
          go_wp2_with fail
          refine bodyPost_ret (v := .tuple #[.pointer (some ⟨w.heap.size, 0, none⟩), .int .i64 0]) (by simp [results, Try.results15, go_sem]) rfl ⟨w.heap.size, rfl, ?_, HBZ.out⟩
          rw [HFIN.out, ← HSC.out, scanA_ends HFX.out HNX.out]
          exact HAZ.out
      · have HNX := Lib.hid hE
        have hn : x.n = A.ats.length := Classical.byContradiction fun h => hE (.inl h)
        have g1 : ((x.n : Int) != (A.ats.length : Int)) = false := by rw [hn]; simp
        go_cut [81] (fun cv wx => cv = .bool false ∧ Hid (Later W6 wx))
        case first =>
          by_cases hl0 : A.ats.length = 0
          · have g2 : decide ((0 : Int) < (A.ats.length : Int)) = false := decide_eq_false (by omega)
            have g3 : decide (0 < A.ats.length) = false := decide_eq_false (by omega)
            clear hn hl0 hE
            have HL0 := Lib.hid (Later.refl W6)
            have ZF0 : Hid (∀ s, W6.heap.size ≤ s → W6.heap.size ≤ s) := Lib.hid (fun _ h => h)
            have ZS0 : Hid (∀ V, Later W6 V → (Later W6) V) := Lib.hid (fun _ h => h)
            refine walk_start 30 (S := Later W6) (T := Later W6) (by kernel_rfl) (fun r => W6.heap.size ≤ r) (fun _ h => h.size) ZS0.out (closed_later _) (Later.refl _).drew ?_
            refine wt 0 52 ?_ (fun V hV => ?_) ?_
            rotate_left 1
            · (clear hV; go_simp; (try with_reducible rfl))
            try simp only [pa, List.set]
            refine wt 1 53 ?_ (fun V hV => ?_) ?_
            rotate_left 1
            · (clear hV; go_simp; (try with_reducible rfl))
            try simp only [pa, List.set]
            refine wt 2 54 ?_ (fun V hV => ?_) ?_
            rotate_left 1
            · (clear hV; go_simp; (try with_reducible rfl))
            try simp only [pa, List.set]
            refine wt 3 55 ?_ (fun V hV => ?_) ?_
            rotate_left 1
            · (clear hV; go_simp; (try with_reducible rfl))
            try simp only [pa, List.set]
            refine wt 4 56 ?_ (fun V hV => ?_) ?_
            rotate_left 1
            · (obtain ⟨⟨c4, c5, c6⟩, f1, f2⟩ := SF.out V (HL0.out.trans hV); clear hV; go_simp; (try with_reducible rfl))
            try simp only [pa, List.set]
            refine wt 5 57 ?_ (fun V hV => ?_) ?_
            rotate_left 1
            · (clear hV; go_simp; (try with_reducible rfl))
            try simp only [pa, List.set]
            refine wt 6 58 ?_ (fun V hV => ?_) ?_
            rotate_left 1
            · (clear hV; go_simp; (try with_reducible rfl))
            try simp only [pa, List.set]
            refine wt 7 59 ?_ (fun V hV => ?_) ?_
            rotate_left 1
            · (clear hV; go_simp; (try with_reducible rfl))
            try simp only [pa, List.set]
            refine wt 8 60 ?_ (fun V hV => ?_) ?_
            rotate_left 1
            · (obtain ⟨⟨c4, c5, c6⟩, f1, f2⟩ := SF.out V (HL0.out.trans hV); clear hV; go_simp; (try with_reducible rfl))
            try simp only [pa, List.set]
            refine wt 9 61 ?_ (fun V hV => ?_) ?_
            rotate_left 1
            · (clear hV; go_simp; (try with_reducible rfl))
            try simp only [pa, List.set]
            refine wt 10 62 ?_ (fun V hV => ?_) ?_
            rotate_left 1
            · (obtain ⟨⟨c4, c5, c6⟩, f1, f2⟩ := SF.out V (HL0.out.trans hV); clear hV; go_simp; (try with_reducible rfl))
            try simp only [pa, List.set]
            refine wt 11 63 ?_ (fun V hV => ?_) ?_
            rotate_left 1
            · (clear hV; go_simp; (try with_reducible rfl))
            try simp only [pa, List.set]
            refine wt 12 64 ?_ (fun V hV => ?_) ?_
            rotate_left 1
            · (clear hV; go_simp; (try with_reducible rfl))
            try simp only [pa, List.set]
            refine wt 13 65 ?_ (fun V hV => ?_) ?_
            rotate_left 1
            · (clear hV; go_simp; (try with_reducible rfl))
            try simp only [pa, List.set]
            refine wt 14 66 ?_ (fun V hV => ?_) ?_
            rotate_left 1
            · (clear hV; go_simp; (try with_reducible rfl))
            try simp only [pa, List.set]
            refine wt 15 67 ?_ (fun V hV => ?_) ?_
            rotate_left 1
            · (clear hV; go_simp; (try with_reducible rfl))
            try simp only [pa, List.set]
            refine wt 16 68 ?_ (fun V hV => ?_) ?_
            rotate_left 1
            · (clear hV; go_simp; (try with_reducible rfl))
            try simp only [pa, List.set]
            refine wt 17 69 ?_ (fun V hV => ?_) ?_
            rotate_left 1
            · (obtain ⟨⟨c4, c5, c6⟩, f1, f2⟩ := SF.out V (HL0.out.trans hV); clear hV; go_simp; (try with_reducible rfl))
            try simp only [pa, List.set]
            refine wt 18 70 ?_ (fun V hV => ?_) ?_
            rotate_left 1
            · (clear hV; go_simp; (try with_reducible rfl))
            try simp only [pa, List.set]
            refine wt 19 71 ?_ (fun V hV => ?_) ?_
            rotate_left 1
            · (clear hV; go_simp; (try with_reducible rfl))
            try simp only [pa, List.set]
            refine wt 20 72 ?_ (fun V hV => ?_) ?_
            rotate_left 1
            · (clear hV; go_simp; (try with_reducible rfl))
            try simp only [pa, List.set]
            refine ws 21 73 ?_
            try simp only [pa, List.set]
            refine ws 22 74 ?_
            try simp only [pa, List.set]
            refine ws 23 75 ?_
            try simp only [pa, List.set]
            refine ws 24 76 ?_
            try simp only [pa, List.set]
            refine ws 25 77 ?_
            try simp only [pa, List.set]
            refine ws 26 78 ?_
            try simp only [pa, List.set]
            refine ws 27 79 ?_
            try simp only [pa, List.set]
            refine wt 28 80 ?_ (fun V hV => ?_) ?_
            rotate_left 1
            · (clear hV; go_simp; (try with_reducible rfl))
            try simp only [pa, List.set]
            refine wt 29 81 ?_ (fun V hV => ?_) ?_
            rotate_left 1
            · (clear hV; go_simp; (try with_reducible rfl))
            try simp only [pa, List.set]
            refine walk_exit (fun V hV => wpAnyJ_done (by kernel_rfl) ?_ _)
            have hV0 := HL0.out.trans hV
            have HV0 := Lib.hid hV0
            clear hV hV0
            go_wp2_with fail
            go_meet
            exact ⟨rfl, HV0⟩
          · have g2 : decide ((0 : Int) < (A.ats.length : Int)) = true := decide_eq_true (by omega)
            have g3 : decide (0 < A.ats.length) = true := decide_eq_true (by omega)
            have hlf : x.life = A.life := Classical.byContradiction fun h => hE (.inr ⟨by omega, h⟩)
            have g4 : ((x.life : Int) != (A.life : Int)) = false := by rw [hlf]; simp
            clear hn hl0 hE hlf
            have HL0 := Lib.hid (Later.refl W6)
            have ZF0 : Hid (∀ s, W6.heap.size ≤ s → W6.heap.size ≤ s) := Lib.hid (fun _ h => h)
            have ZS0 : Hid (∀ V, Later W6 V → (Later W6) V) := Lib.hid (fun _ h => h)
            refine walk_start 30 (S := Later W6) (T := Later W6) (by kernel_rfl) (fun r => W6.heap.size ≤ r) (fun _ h => h.size) ZS0.out (closed_later _) (Later.refl _).drew ?_
            refine wt 0 52 ?_ (fun V hV => ?_) ?_
            rotate_left 1
            · (clear hV; go_simp; (try with_reducible rfl))
            try simp only [pa, List.set]
            refine wt 1 53 ?_ (fun V hV => ?_) ?_
            rotate_left 1
            · (clear hV; go_simp; (try with_reducible rfl))
            try simp only [pa, List.set]
            refine wt 2 54 ?_ (fun V hV => ?_) ?_
            rotate_left 1
            · (clear hV; go_simp; (try with_reducible rfl))
            try simp only [pa, List.set]
            refine wt 3 55 ?_ (fun V hV => ?_) ?_
            rotate_left 1
            · (clear hV; go_simp; (try with_reducible rfl))
            try simp only [pa, List.set]
            refine wt 4 56 ?_ (fun V hV => ?_) ?_
            rotate_left 1
            · (obtain ⟨⟨c4, c5, c6⟩, f1, f2⟩ := SF.out V (HL0.out.trans hV); clear hV; go_simp; (try with_reducible rfl))
            try simp only [pa, List.set]
            refine wt 5 57 ?_ (fun V hV => ?_) ?_
            rotate_left 1
            · (clear hV; go_simp; (try with_reducible rfl))
            try simp only [pa, List.set]
            refine wt 6 58 ?_ (fun V hV => ?_) ?_
            rotate_left 1
            · (clear hV; go_simp; (try with_reducible rfl))
            try simp only [pa, List.set]
            refine wt 7 59 ?_ (fun V hV => ?_) ?_
            rotate_left 1
            · (clear hV; go_simp; (try with_reducible rfl))
            try simp only [pa, List.set]
            refine wt 8 60 ?_ (fun V hV => ?_) ?_
            rotate_left 1
            · (obtain ⟨⟨c4, c5, c6⟩, f1, f2⟩ := SF.out V (HL0.out.trans hV); clear hV; go_simp; (try with_reducible rfl))
            try simp only [pa, List.set]
            refine wt 9 61 ?_ (fun V hV => ?_) ?_
            rotate_left 1
            · (clear hV; go_simp; (try with_reducible rfl))
            try simp only [pa, List.set]
            refine wt 10 62 ?_ (fun V hV => ?_) ?_
            rotate_left 1
            · (obtain ⟨⟨c4, c5, c6⟩, f1, f2⟩ := SF.out V (HL0.out.trans hV); clear hV; go_simp; (try with_reducible rfl))
            try simp only [pa, List.set]
            refine wt 11 63 ?_ (fun V hV => ?_) ?_
            rotate_left 1
            · (clear hV; go_simp; (try with_reducible rfl))
            try simp only [pa, List.set]
            refine wt 12 64 ?_ (fun V hV => ?_) ?_
            rotate_left 1
            · (clear hV; go_simp; (try with_reducible rfl))
            try simp only [pa, List.set]
            refine wt 13 65 ?_ (fun V hV => ?_) ?_
            rotate_left 1
            · (clear hV; go_simp; (try with_reducible rfl))
            try simp only [pa, List.set]
            refine wt 14 66 ?_ (fun V hV => ?_) ?_
            rotate_left 1
            · (clear hV; go_simp; (try with_reducible rfl))
            try simp only [pa, List.set]
            refine wt 15 67 ?_ (fun V hV => ?_) ?_
            rotate_left 1
            · (clear hV; go_simp; (try with_reducible rfl))
            try simp only [pa, List.set]
            refine wt 16 68 ?_ (fun V hV => ?_) ?_
            rotate_left 1
            · (clear hV; go_simp; (try with_reducible rfl))
            try simp only [pa, List.set]
            refine wt 17 69 ?_ (fun V hV => ?_) ?_
            rotate_left 1
            · (obtain ⟨⟨c4, c5, c6⟩, f1, f2⟩ := SF.out V (HL0.out.trans hV); clear hV; go_simp; (try with_reducible rfl))
            try simp only [pa, List.set]
            refine wt 18 70 ?_ (fun V hV => ?_) ?_
            rotate_left 1
            · (clear hV; go_simp; (try with_reducible rfl))
            try simp only [pa, List.set]
            refine wt 19 71 ?_ (fun V hV => ?_) ?_
            rotate_left 1
            · (clear hV; go_simp; (try with_reducible rfl))
            try simp only [pa, List.set]
            refine wt 20 72 ?_ (fun V hV => ?_) ?_
            rotate_left 1
            · (clear hV; go_simp; (try with_reducible rfl))
            try simp only [pa, List.set]
            refine wt 21 73 ?_ (fun V hV => ?_) ?_
            rotate_left 1
            · (clear hV; go_simp; (try with_reducible rfl))
            try simp only [pa, List.set]
            refine wt 22 74 ?_ (fun V hV => ?_) ?_
            rotate_left 1
            · (obtain ⟨⟨c4, c5, c6⟩, f1, f2⟩ := SF.out V (HL0.out.trans hV); clear hV; go_simp; (try with_reducible rfl))
            try simp only [pa, List.set]
            refine wt 23 75 ?_ (fun V hV => ?_) ?_
            rotate_left 1
            · (clear hV; go_simp; (try with_reducible rfl))
            try simp only [pa, List.set]
            refine wt 24 76 ?_ (fun V hV => ?_) ?_
            rotate_left 1
            · (clear hV; go_simp; (try with_reducible rfl))
            try simp only [pa, List.set]
            refine wt 25 77 ?_ (fun V hV => ?_) ?_
            rotate_left 1
            · (clear hV; go_simp; (try with_reducible rfl))
            try simp only [pa, List.set]
            refine wt 26 78 ?_ (fun V hV => ?_) ?_
            rotate_left 1
            · (obtain ⟨⟨c4, c5, c6⟩, f1, f2⟩ := SF.out V (HL0.out.trans hV); clear hV; go_simp; (try with_reducible rfl))
            try simp only [pa, List.set]
            refine wt 27 79 ?_ (fun V hV => ?_) ?_
            rotate_left 1
            · (clear hV; go_simp; (try with_reducible rfl))
            try simp only [pa, List.set]
            refine wt 28 80 ?_ (fun V hV => ?_) ?_
            rotate_left 1
            · (clear hV; go_simp; (try with_reducible rfl))
            try simp only [pa, List.set]
            refine wt 29 81 ?_ (fun V hV => ?_) ?_
            rotate_left 1
            · (clear hV; go_simp; (try with_reducible rfl))
            try simp only [pa, List.set]
            refine walk_exit (fun V hV => wpAnyJ_done (by kernel_rfl) ?_ _)
            have hV0 := HL0.out.trans hV
            have HV0 := Lib.hid hV0
            clear hV hV0
            go_wp2_with fail
            go_meet
            exact ⟨rfl, HV0⟩
        case rest =>
        obtain ⟨rfl, H7⟩ := hcut
        obtain ⟨w7, rfl⟩ : ∃ w7 : World, w7 = wc := ⟨_, rfl⟩
        clear hn g1 hE ew
        obtain ⟨⟨c4, c5, c6⟩, f1, f2⟩ := SF.out w7 H7.out
        have hk7 := HK6.out.below H7.out HK6.out.lt
        have fz4 := hk7.frozen 4
        obtain ⟨W8, hW8⟩ : ∃ W8, W8 = w7.setCell ⟨w.heap.size, 4, none⟩ (.int .u64 (x.life : Int)) := ⟨_, rfl⟩
        have hk8 : Blk W8 w.heap.size 97 #[.pointer (some ⟨b, 0, none⟩), .int .i64 A.lives, .int .i64 A.first, .int .i64 A.sectors, .int .u64 x.life, .slice At A.ats.length c, .int .i64 A.used] := by
          have := hk7.set_ 4 (.int .u64 (x.life : Int))
          rw [hW8]
          exact this
        have ho7 : w7.ownsRow w.heap.size 3 1 (.slice At A.ats.length c) A.ats.length (A.ats.map natv) := own_keep HO6.out fun g hg => H7.out.block g (HO6.out.lt g hg).2
        have ho8 : W8.ownsRow w.heap.size 3 1 (.slice At A.ats.length c) A.ats.length (A.ats.map natv) := by rw [hW8]; exact own_far (p := ⟨w.heap.size, 4, none⟩) ho7 (own_blk_ne ho7 hk7 (by decide)) _
        have hb8 : Below w.heap.size w W8 := by rw [hW8]; exact (HB6.out.trans ((show Below _ _ _ from H7.out).mono HB6.out.size)).setCell (p := ⟨w.heap.size, 4, none⟩) (Nat.le_refl _) _
        have hf8 : Blk W8 w5.heap.size 99 #[.int .u8 (x.kind.toNat : Int), .int .u64 (x.life : Int), .int .u64 (x.n : Int), .slice (some ⟨g, 0, none⟩) x.b.length cb] := by rw [hW8]; exact (HF6.out.below H7.out HF6.out.lt).far (p := ⟨w.heap.size, 4, none⟩) (by have := HNE.out; show w5.heap.size ≠ w.heap.size; omega) _
        go_upto_region 10 with fail
        rw [← hW8]
        obtain ⟨-, -, -, -, c4, c5, c6⟩ := area_cells hk8
        have fz5 := hk8.frozen 5
        have c5a : (W8.alloc (.cells #[.int .i64 (A.used : Int)] 3)).cell? ⟨w.heap.size, 5, none⟩ = some (.slice At A.ats.length c) := (World.cell?_alloc_lt W8 _ ⟨w.heap.size, 5, none⟩ (World.block_lt_of_cell? _ _ c5)).trans c5
        obtain ⟨i0, hi0, hz0, hz1, hz2⟩ := info_parts info_int
        have HK8 := Lib.hid hk8
        have HO8 := Lib.hid ho8
        have HB8 := Lib.hid hb8
        have HF8 := Lib.hid hf8
        have hsz8 : w.heap.size ≤ (W8.drew.alloc (.cells #[natv A.used] 3)).heap.size := by have := hb8.size; simp; omega
        clear hW8 hk7 fz4 hk8 ho7 ho8 hb8 hf8 f1 f2
        go_cut [] (fun wx => ∃ A10 c10, Hid (Blk wx w.heap.size 97 #[.pointer (some ⟨b, 0, none⟩), .int .i64 A.lives, .int .i64 A.first, .int .i64 A.sectors, .int .u64 x.life, .slice A10 (A.ats.length + 1) c10, .int .i64 A.used]) ∧ Hid (wx.ownsRow w.heap.size 3 1 (.slice A10 (A.ats.length + 1) c10) (A.ats.length + 1) ((A.ats ++ [A.used]).map natv)) ∧ Hid (Below w.heap.size w wx) ∧ Hid (Blk wx w5.heap.size 99 #[.int .u8 (x.kind.toNat : Int), .int .u64 (x.life : Int), .int .u64 (x.n : Int), .slice (some ⟨g, 0, none⟩) x.b.length cb]))
        case first =>
          go_region_law
            (first
              | (refine step_append_any (W8.drew.alloc (.cells #[natv A.used] 3)) (by rfl) (.tmp 92) (.tmp 97) _ (by rfl) w.heap.size 3 i0 _ 1 8 Try.underlying22 hi0 hz0 hz1 hz2 rfl (by omega) (.slice At A.ats.length c) A.ats.length _ (by rfl) ((show W8.drew.ownsRow w.heap.size 3 1 (.slice At A.ats.length c) A.ats.length (A.ats.map natv) from HO8.out).alloc _) (W8.heap.size + 1) (some ⟨W8.heap.size, 0, none⟩) 1 1 [natv A.used] (by rfl) (int_reads _ _ _) (by simp [Value.oneCell', natv]) (by unfold maxLen; omega) (by omega) hsz8 ?_; intro v10 w10 hown10 hg10 hat10
                 obtain ⟨A10, c10, rfl⟩ := own_shape hown10
                 have ho9 : (W8.drew.alloc (.cells #[natv A.used] 3)).ownsRow w.heap.size 3 1 (.slice At A.ats.length c) A.ats.length (A.ats.map natv) := (show W8.drew.ownsRow w.heap.size 3 1 (.slice At A.ats.length c) A.ats.length (A.ats.map natv) from HO8.out).alloc _
                 have hk9 := HK8.out.drew.alloc (.cells #[natv A.used] 3)
                 have hf9 := HF8.out.drew.alloc (.cells #[natv A.used] 3)
                 have hk10 := hk9.grown hg10 (fun e => own_blk_ne ho9 hk9 (by decide) e.symm)
                 have hf10 := hf9.grown hg10 (fun e => own_blk_ne ho9 hf9 (by decide) e.symm)
                 have hb10 : Below w.heap.size w w10 := (HB8.out.drew.alloc HB8.out.size _).grown hg10 (by have := HB8.out.size; simp; omega) (fun k hk => (ho9.lt k hk).1)
                 have c5' : w10.cell? ⟨w.heap.size, 5, none⟩ = some (.slice At A.ats.length c) := (hk10.cell 5).trans rfl
                 have f5' := hk10.frozen 5
                 have HK10 := Lib.hid hk10
                 have HF10 := Lib.hid hf10
                 have HB10 := Lib.hid hb10
                 have HO10 := Lib.hid hown10
                 clear hown10 hg10 hat10 ho9 hk9 hf9 hk10 hf10 hb10))
          all_goals
            go_wp2_with fail
            go_meet
            refine ⟨A10, c10, Lib.hid ?_, Lib.hid ?_, Lib.hid (HB10.out.setCell (p := ⟨w.heap.size, 5, none⟩) (Nat.le_refl _) _), Lib.hid (HF10.out.far (p := ⟨w.heap.size, 5, none⟩) (by have := HNE.out; show w5.heap.size ≠ w.heap.size; omega) _)⟩
            · have := HK10.out.set_ 5 (.slice A10 (A.ats.length + 1) c10)
              exact this
            · have := own_far (p := ⟨w.heap.size, 5, none⟩) HO10.out (own_blk_ne HO10.out HK10.out (by decide)) (.slice A10 (A.ats.length + 1) c10)
              rw [List.map_append]
              exact this
        case rest =>
        obtain ⟨A10, c10, HK10, HO10, HB10, HF10⟩ := hcut
        obtain ⟨w10, rfl⟩ : ∃ w10 : World, w10 = wc := ⟨_, rfl⟩
        clear c4 c5 c6 fz5 hsz8 c5a
        have hxl := HXL.out
        have hz := fsize_nat hxl.1
        have CZ : Hid (∀ V, Calls Try.prog 17 #[.int .i64 (x.b.length : Int)] V fun e w' => e = .returned (.int .i64 (fsz x.b.length : Int)) ∧ Below V.heap.size V w') := Lib.hid fun V => by
          have := size_any V (x.b.length : Int) (by omega) (by omega)
          rw [hz] at this
          exact this.mono fun e w' h => ⟨h.1, by rw [← h.2]; exact Below.refl _ _⟩
        have SG : Hid (∀ V, Later w10 V → V.cell? ⟨w.heap.size, 6, none⟩ = some (.int .i64 A.used) ∧ V.cell? ⟨w5.heap.size, 3, none⟩ = some (.slice (some ⟨g, 0, none⟩) x.b.length cb)) := Lib.hid fun V hV =>
          ⟨(area_cells (HK10.out.below hV HK10.out.lt)).2.2.2.2.2.2, ((HF10.out.below hV HF10.out.lt).cell 3).trans rfl⟩
        have hsec := HE.out.2.1
        have hlen9 : fsz x.b.length ≤ 17 := fsz_le hxl.1
        have e6 : IntKind.i64.wrap ((A.used : Int) + (fsz x.b.length : Int)) = (A.used : Int) + (fsz x.b.length : Int) := IntWalk.i64_in _ (by omega)
        have hfp := fsz_pos x.b.length
        have HFP : Hid (1 ≤ fsz x.b.length ∧ A.used + fsz x.b.length ≤ sectors) := Lib.hid ⟨hfp, by have := hxl.2.1; omega⟩
        have hbl : x.b.length ≤ 1000 := hxl.1
        clear hz hxl hfp
        generalize hfz : fsz x.b.length = fz at *
        have HFZ := Lib.hid hfz
        clear hfz
        go_upto_region 11 with fail
        have HL0 := Lib.hid (Later.refl w10)
        have ZF0 : Hid (∀ s, w10.heap.size ≤ s → w10.heap.size ≤ s) := Lib.hid (fun _ h => h)
        have ZS0 : Hid (∀ V, Later w10 V → (Later w10) V) := Lib.hid (fun _ h => h)
        refine walk_start 11 (S := Later w10) (T := Later w10) (by kernel_rfl) (fun r => w10.heap.size ≤ r) (fun _ h => h.size) ZS0.out (closed_later _) (Later.refl _).drew ?_
        refine wt 0 101 ?_ (fun V hV => ?_) ?_
        rotate_left 1
        · (clear hV; go_simp; (try with_reducible rfl))
        try simp only [pa, List.set]
        refine wt 1 102 ?_ (fun V hV => ?_) ?_
        rotate_left 1
        · (clear hV; go_simp; (try with_reducible rfl))
        try simp only [pa, List.set]
        refine wt 2 103 ?_ (fun V hV => ?_) ?_
        rotate_left 1
        · (clear hV; go_simp; (try with_reducible rfl))
        try simp only [pa, List.set]
        refine wt 3 104 ?_ (fun V hV => ?_) ?_
        rotate_left 1
        · (obtain ⟨s1, s2⟩ := SG.out V (HL0.out.trans hV); clear hV; go_simp; (try with_reducible rfl))
        try simp only [pa, List.set]
        refine wt 4 105 ?_ (fun V hV => ?_) ?_
        rotate_left 1
        · (clear hV; go_simp; (try with_reducible rfl))
        try simp only [pa, List.set]
        refine wt 5 106 ?_ (fun V hV => ?_) ?_
        rotate_left 1
        · (obtain ⟨s1, s2⟩ := SG.out V (HL0.out.trans hV); clear hV; go_simp; (try with_reducible rfl))
        try simp only [pa, List.set]
        refine wt 6 107 ?_ (fun V hV => ?_) ?_
        rotate_left 1
        · (clear hV; go_simp; (try with_reducible rfl))
        try simp only [pa, List.set]
        refine walk_core 7 rfl (by kernel_rfl) (fun _ _ _ _ _ h => h) (fun V hV K hK => ?_)
        have hV0 := HL0.out.trans hV
        go_simp
        go_at_call 17
        refine (CZ.out V).mono ?_
        rintro e x7 ⟨rfl, hb⟩
        have HT7 := Lib.hid (hV.of hb)
        have HL1 := Lib.hid (hV0.of hb)
        have hsize := hb.size
        have hkeep := fun (r : Nat) (_ : True) (h : r < V.heap.size) => hb.block r h
        have ZF1 : Hid (∀ s, x7.heap.size ≤ s → _) := Lib.hid (fun s h => ZF0.out s (Nat.le_trans hV.size (Nat.le_trans hsize h)))
        refine hK.out _ _ (Later x7) (Later x7) _ (fun r _ h => hkeep r trivial h) (fun _ h _ => h) (fun V' h => (hV.of hb).trans h) (fun _ h => h) (fun V' h => ZF1.out _ h.size) (Later.refl _) (closed_later _) ?_
        clear hK K hV hsize hkeep hV0 hb
        try simp only [pa, List.set]
        refine wt 8 109 ?_ (fun V hV => ?_) ?_
        rotate_left 1
        · (clear hV; go_simp; (try with_reducible rfl))
        try simp only [pa, List.set]
        refine wt 9 110 ?_ (fun V hV => ?_) ?_
        rotate_left 1
        · (clear hV; go_simp; (try with_reducible rfl))
        try simp only [pa, List.set]
        refine wt 10 111 ?_ (fun V hV => ?_) ?_
        rotate_left 1
        · (clear hV; go_simp; (try with_reducible rfl))
        try simp only [pa, List.set]
        refine walk_exit (fun V hV => ?_)
        have hV0 := HL1.out.trans hV
        try simp only [pa, List.set]
        have hk11 := HK10.out.below hV0 HK10.out.lt
        have ho11 : V.ownsRow w.heap.size 3 1 (.slice A10 (A.ats.length + 1) c10) (A.ats.length + 1) ((A.ats ++ [A.used]).map natv) := own_keep HO10.out fun g hg => hV0.block g (HO10.out.lt g hg).2
        have hb11 : Below w.heap.size w V := HB10.out.trans ((show Below _ _ _ from hV0).mono HB10.out.size)
        have c6 : V.cell? ⟨w.heap.size, 6, none⟩ = some (.int .i64 A.used) := (area_cells hk11).2.2.2.2.2.2
        have f6 := hk11.frozen 6
        have HK11 := Lib.hid hk11
        have HO11 := Lib.hid ho11
        have HB11 := Lib.hid hb11
        clear hk11 ho11 hb11 hV hV0
        refine wpAnyJ_one (i := 11) (by kernel_rfl) rfl (fun K hK => ?_)
        simp only [List.getElem_toArray, List.getElem_cons_succ, List.getElem_cons_zero]
        go_simp
        refine hK.out _ _ (fun h _ => absurd rfl h) ?_
        clear hK K
        try simp only [pa, List.set]
        refine wpAnyJ_done (by kernel_rfl) ?_ _
        obtain ⟨W12, hW12⟩ : ∃ W12, W12 = V.setCell ⟨w.heap.size, 6, none⟩ (.int .i64 ((A.used : Int) + (fz : Int))) := ⟨_, rfl⟩
        rw [← hW12]
        have hk12 : Blk W12 w.heap.size 97 #[.pointer (some ⟨b, 0, none⟩), .int .i64 A.lives, .int .i64 A.first, .int .i64 A.sectors, .int .u64 x.life, .slice A10 (A.ats.length + 1) c10, .int .i64 ((A.used + fz : Nat) : Int)] := by
          have := HK11.out.set_ 6 (.int .i64 ((A.used : Int) + (fz : Int)))
          rw [hW12]
          exact this
        have ho12 : W12.ownsRow w.heap.size 3 1 (.slice A10 (A.ats.length + 1) c10) (A.ats.length + 1) ((A.ats ++ [A.used]).map natv) := by rw [hW12]; exact own_far (p := ⟨w.heap.size, 6, none⟩) HO11.out (own_blk_ne HO11.out HK11.out (by decide)) _
        have hb12 : Below w.heap.size w W12 := by rw [hW12]; exact HB11.out.setCell (p := ⟨w.heap.size, 6, none⟩) (Nat.le_refl _) _
        have ha12 : AreaAt W12 w.heap.size w.heap.size b (A.more x) := by
          refine ⟨Nat.le_refl _, A10, c10, ?_, ?_⟩
          · unfold Ar.more
            simp only [List.length_append, List.length_singleton]
            rw [HFZ.out]
            exact hk12
          · unfold Ar.more
            simp only [List.length_append, List.length_singleton]
            exact ho12
        have HB12 := Lib.hid hb12
        have HA12 := Lib.hid ha12
        clear hW12 hk12 ho12 hb12 ha12 c6 f6
        go_wp2_with fail
        go_roundg (sectors + 1 - (A.more x).used)
        case measure => have h1 := HFP.out; have h2 := HM.out; have h3 := HFZ.out; show sectors + 1 - (A.used + fsz x.b.length) < gk; omega
        case rel => exact ⟨A.more x, rfl, by have h1 := HFP.out; have h3 := HFZ.out; show A.used + fsz x.b.length ≤ sectors; omega, Lib.hid ⟨HE.out.1, HE.out.2.1, HE.out.2.2.1, by have h1 := HFP.out; have h3 := HFZ.out; have h4 := HE.out.2.2.2; show (A.ats ++ [A.used]).length ≤ A.used + fsz x.b.length; rw [List.length_append, List.length_singleton]; omega⟩, HA12, Lib.hid (HD.out.below HB12.out), HB12, Lib.hid (by rw [← HSC.out]; exact (scanA_more HFX.out HNX.out).symm)⟩
end
end Go.Proofs.Ytlbikfamjogpnaa
end

/- frame.lay: the sectors of a frame, in memory that is new. Conditions: a slice of bytes that reads, of 1000 at most. -/
section
namespace Go.Proofs.Ytlbikfamjogpnaa
open Go.RowKit
set_option linter.unusedVariables false

/-- A frame's head ahead of its sum. -/
def headB (kind : UInt8) (life n : Nat) (b : List UInt8) : List UInt8 := [72, kind] ++ leB life 8 ++ leB n 4 ++ leB b.length 2
/-- A frame's head. -/
def sealB (kind : UInt8) (life n : Nat) (b : List UInt8) : List UInt8 := headB kind life n b ++ leB (sumOf (headB kind life n b ++ b)) 4
/-- A sector behind the first. -/
def chunkB (b : List UInt8) (j : Nat) : List UInt8 := 67 :: (b.drop (44 + 63 * j)).take 63
/-- A frame's first sectors. -/
def layB (kind : UInt8) (life n : Nat) (b : List UInt8) (k : Nat) : List (List UInt8) := (sealB kind life n b ++ b.take 44) :: (List.range k).map (chunkB b)
theorem layB_more (kind : UInt8) (life n : Nat) (b : List UInt8) (k : Nat) : layB kind life n b (k + 1) = layB kind life n b k ++ [chunkB b k] := by
  unfold layB
  rw [List.range_succ, List.map_append]
  rfl
theorem layB_len (kind : UInt8) (life n : Nat) (b : List UInt8) (k : Nat) : (layB kind life n b k).length = k + 1 := by
  unfold layB
  simp

theorem own_ne {w : World} {B B' s s' n n' : Nat} {e e' : TypeId} {v v' : Value} {xs xs' : List Value} (h : w.ownsRow B e s v n xs) (h' : w.ownsRow B' e' s' v' n' xs') (hne : e ≠ e') {g : Nat} (hg : v.ownBlock = some g) : v'.ownBlock ≠ some g := by
  intro hg'
  rcases h.2 with ⟨rfl, _⟩ | ⟨g1, cap, cur, rfl, _, hh, _⟩
  · simp [Value.ownBlock] at hg
  · have : g1 = g := by simpa [Value.ownBlock] using hg
    subst this
    exact own_blk_ne h' (t := e) (cs := cur) hh (fun e => hne e.symm) hg'

/-- Rows of bytes in memory at B or above, as the elements of a slice there. -/
def RowsV (w : World) (B : Nat) (v : Value) (ls : List (List UInt8)) (vs : List Value) : Prop :=
  w.ownsRow B 36 1 v ls.length vs ∧ vs.length = ls.length ∧ (∀ u ∈ vs, u.oneCell' = true) ∧ ∀ (i : Nat) (l : List UInt8), ls[i]? = some l → ∃ x, vs[i]? = some x ∧ w.ownsRow B 5 1 x l.length (l.map byt)
def Rows (w : World) (B : Nat) (v : Value) (ls : List (List UInt8)) : Prop := ∃ vs, RowsV w B v ls vs
theorem RowsV.below {w w' : World} {B : Nat} {v : Value} {ls : List (List UInt8)} {vs : List Value} (h : RowsV w B v ls vs) (hb : Below w.heap.size w w') : RowsV w' B v ls vs :=
  ⟨own_keep h.1 (fun g hg => hb.block g (h.1.lt g hg).2), h.2.1, h.2.2.1, fun i l hl => by
    obtain ⟨x, hx, ho⟩ := h.2.2.2 i l hl
    exact ⟨x, hx, own_keep ho (fun g hg => hb.block g (ho.lt g hg).2)⟩⟩
theorem Rows.below {w w' : World} {B : Nat} {v : Value} {ls : List (List UInt8)} (h : Rows w B v ls) (hb : Below w.heap.size w w') : Rows w' B v ls := by
  obtain ⟨vs, h⟩ := h
  exact ⟨vs, h.below hb⟩
theorem slice_one {w : World} {B n s : Nat} {e : TypeId} {v : Value} {xs : List Value} (h : w.ownsRow B e s v n xs) : v.oneCell' = true := by
  obtain ⟨A, c, rfl⟩ := own_shape h
  rfl
theorem rows_more {w3 w4 : World} {B : Nat} {v v' x : Value} {ls : List (List UInt8)} {l : List UInt8} {vs : List Value} (h : RowsV w3 B v ls vs) (hx : w3.ownsRow B 5 1 x l.length (l.map byt))
    (hg : w3.grownBy w4 v.ownBlock) (ho : w4.ownsRow B 36 1 v' (ls.length + 1) (vs ++ [x])) : RowsV w4 B v' (ls ++ [l]) (vs ++ [x]) := by
  have hk : ∀ {l : List UInt8} {y : Value}, w3.ownsRow B 5 1 y l.length (l.map byt) → w4.ownsRow B 5 1 y l.length (l.map byt) := fun {l y} hy =>
    own_keep hy fun g hv => hg.block g (hy.lt g hv).2 (fun e => own_ne (e := 5) (e' := 36) hy h.1 (by decide) hv e.symm)
  refine ⟨by simpa using ho, by simp [h.2.1], fun u hu => ?_, fun i l' hl => ?_⟩
  · rcases List.mem_append.1 hu with hu | hu
    · exact h.2.2.1 u hu
    · simp at hu
      subst hu
      exact slice_one hx
  · rcases Nat.lt_or_ge i ls.length with hi | hi
    · rw [List.getElem?_append_left hi] at hl
      obtain ⟨y, hy, hyo⟩ := h.2.2.2 i l' hl
      exact ⟨y, by rw [List.getElem?_append_left (by rw [h.2.1]; exact hi)]; exact hy, hk hyo⟩
    · have : i = ls.length := by
        have := (List.getElem?_eq_some_iff.1 hl).1
        simp at this
        omega
      subst this
      rw [List.getElem?_append_right (Nat.le_refl _)] at hl
      simp at hl
      subst hl
      exact ⟨x, by rw [List.getElem?_append_right (by rw [h.2.1]; exact Nat.le_refl _), h.2.1]; simp, hk hx⟩

theorem rows_one {w : World} {B n c : Nat} {A : Option Addr} {l : List UInt8} (h : w.ownsRow B 5 1 (.slice A n c) l.length (l.map byt)) (hB : B ≤ w.heap.size) (ls : List (List UInt8)) (hls : ls = [l]) :
    RowsV (w.alloc (.cells #[.slice A n c] 36)) B (.slice (some ⟨w.heap.size, 0, none⟩) 1 1) ls [.slice A n c] := by
  subst hls
  refine ⟨World.ownsRow_lit w #[.slice A n c] 1 hB (by unfold maxLen; omega) rfl, rfl, fun u hu => ?_, fun i l' hl => ?_⟩
  · simp at hu
    subst hu
    rfl
  · match i, hl with
    | 0, hl =>
      simp at hl
      subst hl
      exact ⟨_, rfl, own_keep h fun g hg => ((Below.refl _ _).alloc (Nat.le_refl _) _).block g (h.lt g hg).2⟩

section
variable {w : World} {A : Option Addr} {n c : Nat} {b : List UInt8}
set_option maxRecDepth 100000 in
set_option maxHeartbeats 4000000 in
theorem lay_any (kind : UInt8) (life num : Nat) (h : Bts w A n c b) (hn : n ≤ 1000) (hnum : num ≤ 1000000) :
    Calls Try.prog 59 #[.int .u8 (kind.toNat : Int), .int .u64 (life : Int), .int .i64 (num : Int), .slice A n c] w fun e w' => ∃ v, e = .returned v ∧ Rows w' w.heap.size v (layB kind life num b (fsz n - 1)) ∧ Below w.heap.size w w' := by
  have hln := h.2.2.2.2
  have HB := Lib.hid h
  have HL := Lib.hid hln
  have en : IntKind.u64.wrap (num : Int) = (num : Int) := by rw [IntKind.wrap_u64]; omega
  have en2 : IntKind.u64.wrap (n : Int) = (n : Int) := by rw [IntKind.wrap_u64]; omega
  have hkind := kind.toNat_lt
  clear h hln
  obtain ⟨i0, hi0, hz0, hz1, hz2⟩ := info_parts info_u8
  obtain ⟨j0, hj0, hy0, hy1, hy2⟩ := info_parts info_bytes
  go_enter Try.func59, Try.ntmps59
  go_wp2_with fail
  have C1 := low_any (w := w.alloc (.cells #[.int .u8 72, .int .u8 (kind.toNat : Int)] 5)) (B := w.heap.size) (n := 2) (l := [72, kind]) life 8 (World.ownsRow_lit w #[.int .u8 72, .int .u8 (kind.toNat : Int)] 2 (Nat.le_refl _) (by unfold maxLen; omega) rfl) (by simp) (by omega) (by omega)
  refine C1.mono ?_
  rintro e w1 ⟨v1, rfl, ho1, hb1⟩
  clear C1
  have hb1 : Below w.heap.size w w1 := ((Below.refl w.heap.size w).alloc (Nat.le_refl _) _).trans hb1
  go_wp2_with fail
  have C2 := low_any num 4 ho1 hb1.size (by omega) (by omega)
  refine C2.mono ?_
  rintro e w2 ⟨v2, rfl, ho2, hb2⟩
  clear C2
  have hb2 := hb1.trans hb2
  go_wp2_with fail
  have C3 := low_any n 2 ho2 hb2.size (by omega) (by omega)
  refine C3.mono ?_
  rintro e w3 ⟨v3, rfl, ho3, hb3⟩
  clear C3
  have hb3 := hb2.trans hb3
  have hh : w3.ownsRow w.heap.size 5 1 v3 16 ((headB kind life num b).map byt) := by
    have := ho3
    rw [← HL.out] at this
    exact this
  have hHl : (headB kind life num b).length = 16 := by have := hh.1; simpa using this
  clear ho1 ho2 ho3 hb1 hb2
  obtain ⟨A3, c3, e3⟩ := own_shape hh
  subst e3
  have hbt3 := own_bts hh
  have HH := Lib.hid hh
  have HB3 := Lib.hid hb3
  have HHL := Lib.hid hHl
  have CC := Lib.hid (clone_any hbt3 (by omega))
  clear hh hb3 hHl hbt3
  go_wp2_with fail
  refine CC.out.mono ?_
  rintro e w4 ⟨v4, rfl, ho4, hb4⟩
  clear CC
  rw [HHL.out] at ho4
  have hbt4 : Hid (Bts w4 A n c b) := Lib.hid (HB.out.below (HB3.out.trans (hb4.mono HB3.out.size)))
  go_wp2_with (at_builtin; go_must (refine wpList_append_any _ rfl (.tmp 27) (.tmp 28) _ rfl w3.heap.size 5 i0 _ 1 1 Try.underlying36 hi0 hz0 hz1 hz2 rfl (by omega) v4 16 _ rfl ho4 w4.heap.size A n c (b.map byt) rfl hbt4.out.2.1 (byt_one _) (by unfold maxLen; omega) (by omega) hb4.size ?_); intro v5 w5 ho5 hg5 hat5)
  obtain ⟨A5, c5, e5⟩ := own_shape ho5
  subst e5
  rw [← List.map_append] at ho5
  have CS := sum_any (own_bts ho5)
  refine CS.mono ?_
  rintro e w6 ⟨rfl, rfl⟩
  clear CS
  have hb5 : Below w3.heap.size w3 w5 := hb4.grown hg5 hb4.size (fun k hk => (ho4.lt k hk).1)
  have hs32 : sumOf (headB kind life num b ++ b) < 4294967296 := by unfold sumOf; omega
  have es : IntKind.u64.wrap (sumOf (headB kind life num b ++ b) : Int) = (sumOf (headB kind life num b ++ b) : Int) := by rw [IntKind.wrap_u64]; omega
  have ho6 := Lib.hid (own_keep HH.out (fun g hg => hb5.block g (HH.out.lt g hg).2))
  have HB5 := Lib.hid (HB3.out.trans (hb5.mono HB3.out.size))
  clear hs32 hb5 hb4 ho4 ho5 hg5 hat5 hbt4 HH HB3
  have HSM : Hid (sealB kind life num b = headB kind life num b ++ leB (sumOf (headB kind life num b ++ b)) 4) := Lib.hid rfl
  generalize sumOf (headB kind life num b ++ b) = sm at *
  go_wp2_with fail
  have C7 := low_any sm 4 ho6.out HB5.out.size (by omega) (by omega)
  refine C7.mono ?_
  rintro e w7 ⟨v7, rfl, ho7, hb7⟩
  clear C7
  rw [← HSM.out] at ho7
  have HO7 := Lib.hid ho7
  have HB7 := Lib.hid (HB5.out.trans hb7)
  clear ho7 hb7 ho6 HB5 hb1 hb2 hb3
  obtain ⟨A7, c7, e7⟩ := own_shape HO7.out
  subst e7
  have HBW := Lib.hid (HB.out.below HB7.out)
  have hcm := HB.out.2.2.2.1
  have hnc := HB.out.2.2.1
  unfold maxLen at hcm
  clear HHL HSM hkind en en2
  -- WALK
  by_cases h44 : (44 : Int) < (n : Int)
  · cases A with
    | none => have := (HB.out.1 rfl).1; omega
    | some ad =>
    have hrd : Hid (Reads w7 w7.heap.size 1 (some ad) 44 ((b.take 44).map byt)) := Lib.hid (by
      have := HBW.out.2.1.take_ (k := 44) (by omega)
      rw [← List.map_take] at this
      exact this)
    have h44c : (44 : Int) ≤ (c : Int) := by omega
    go_wp2_with (at_builtin; go_must (refine wpList_append_any _ rfl (.tmp 36) (.tmp 39) _ rfl w.heap.size 5 i0 _ 1 1 Try.underlying36 hi0 hz0 hz1 hz2 rfl (by omega) (.slice A7 (16 + 4) c7) (16 + 4) _ rfl HO7.out w7.heap.size (some ad) 44 c ((b.take 44).map byt) rfl hrd.out (byt_one _) (by unfold maxLen; omega) (by omega) HB7.out.size ?_); intro v8 w8 ho8 hg8 hat8; obtain ⟨A8, c8, e8⟩ := own_shape ho8; subst e8)
    have h8 : w8.ownsRow w.heap.size 5 1 (.slice A8 (16 + 4 + 44) c8) (sealB kind life num b ++ b.take 44).length ((sealB kind life num b ++ b.take 44).map byt) := by
      rw [← List.map_append] at ho8
      have hl := ho8.1
      rw [List.length_map] at hl
      rw [hl, Nat.mul_one]
      exact ho8
    have hb8 : Below w.heap.size w w8 := HB7.out.grown hg8 HB7.out.size (fun k hk => (HO7.out.lt k hk).1)
    have HR := Lib.hid (rows_one h8 hb8.size (layB kind life num b 0) rfl)
    have HB8 := Lib.hid (hb8.alloc hb8.size (.cells #[.slice A8 (16 + 4 + 44) c8] 36))
    clear ho8 hg8 hat8 h8 hb8 hrd HBW HO7 HB7
    go_loopg [10, 11] (fsz n - 1) (fun m kv ov wr => ∃ (j : Nat) (vs : List Value), j + m = fsz n - 1 ∧ kv = .int .i64 ((min n (44 + 63 * j) : Nat) : Int) ∧ RowsV wr w.heap.size ov (layB kind life num b j) vs ∧ Below w.heap.size w wr)
    case atStart => exact ⟨0, _, by omega, by congr 1; omega, HR.out, HB8.out⟩
    case round =>
      obtain ⟨j, vs, hj, rfl, hrows, hbel⟩ := hrel
      have hfz : fsz n = 1 + (n + 18) / 63 := by unfold fsz; rw [if_neg (by omega)]
      have HBR := Lib.hid hbel
      have HRR := Lib.hid hrows
      have HFZ := Lib.hid hfz
      have HJ := Lib.hid hj
      clear hbel hrows
      by_cases hlt : j < fsz n - 1
      · obtain ⟨k, hk⟩ : ∃ k, k = 44 + 63 * j := ⟨_, rfl⟩
        have hkn : k < n := by omega
        have hmin : min n (44 + 63 * j) = k := by omega
        have HK := Lib.hid hk
        rw [hmin]
        have ew : IntKind.i64.wrap ((k : Int) + 63) = (k : Int) + 63 := IntWalk.i64_in _ (by omega)
        have hkn' : (k : Int) < (n : Int) := by omega
        have hk0 : (0 : Int) ≤ (k : Int) := by omega
        have hck : (c = k) = False := eq_false (by omega)
        clear hmin hk hfz hj HR HB8
        by_cases h63 : (n : Int) < (k : Int) + 63
        · have hnk : n - k ≤ 63 := by omega
          have hpr0 : Reads w w.heap.size 1 (some (ad.add k)) (n - k) ((b.drop k).map byt) := by
            have := HB.out.2.1.cut (k := k) (cap := c) (by omega) (by omega)
            rw [if_neg (by omega), Nat.mul_one, ← List.map_drop] at this
            exact this
          have hpr1 : Reads w w.heap.size 1 (some (ad.add k)) (n - k) (((b.drop k).take 63).map byt) := by
            have h := hpr0.take_ (k := n - k) (by omega)
            rw [← List.map_take] at h
            rw [show (b.drop k).take 63 = (b.drop k).take (n - k) by rw [List.take_of_length_le (by rw [List.length_drop, HL.out]; omega), List.take_of_length_le (by rw [List.length_drop, HL.out]; omega)]]
            exact h
          have HPR := Lib.hid ((hpr1.below HBR.out).more HBR.out.size)
          have HCH : Hid ((chunkB b j).length = 1 + (n - k) ∧ (chunkB b j).map byt = [.int .u8 67] ++ ((b.drop k).take 63).map byt) := Lib.hid (by
            unfold chunkB
            rw [← HK.out]
            refine ⟨?_, rfl⟩
            rw [List.length_cons, List.length_take, List.length_drop, HL.out]
            omega)
          have hjl : (layB kind life num b j).length = j + 1 := layB_len _ _ _ _ _
          have hj20 : j ≤ 1000 := by have := HFZ.out; omega
          have HJL := Lib.hid hjl
          clear hpr0 hpr1 hjl
          go_wp2_with
            (first
              | (at_builtin; refine wpList_append_any _ rfl (.tmp 52) (.tmp 56) _ rfl w.heap.size 5 i0 _ 1 1 Try.underlying36 hi0 hz0 hz1 hz2 rfl (by omega) (.slice (some ⟨wr.heap.size, 0, none⟩) 1 1) 1 [.int .u8 67] rfl (World.ownsRow_lit wr #[.int .u8 67] 1 HBR.out.size (by unfold maxLen; omega) rfl) wr.heap.size (some (ad.add k)) (n - k) (c - k) (((b.drop k).take 63).map byt) rfl (HPR.out.alloc (Nat.le_refl _) _) (byt_one _) (by unfold maxLen; omega) (by omega) (by have := HBR.out.size; simp; omega) ?_; intro vx w2 hox hg2 hat2
                 obtain ⟨Ax, cx, ex⟩ := own_shape hox
                 subst ex
                 have hb2 : Below wr.heap.size wr w2 := ((Below.refl wr.heap.size wr).alloc (Nat.le_refl _) _).grown hg2 (by simp) (fun k hk => by simp [Value.ownBlock] at hk; omega)
                 have hox2 : w2.ownsRow w.heap.size 5 1 (.slice Ax (1 + (n - k)) cx) (chunkB b j).length ((chunkB b j).map byt) := by rw [HCH.out.1, HCH.out.2]; exact hox
                 have HOX := Lib.hid (own_keep hox2 (fun g hg => ((Below.refl w2.heap.size w2).alloc (Nat.le_refl _) (.cells #[.slice Ax (1 + (n - k)) cx] 36)).block g (hox2.lt g hg).2))
                 have HR2 := Lib.hid (HRR.out.below (hb2.alloc hb2.size (.cells #[.slice Ax (1 + (n - k)) cx] 36)))
                 have HB2 := Lib.hid (HBR.out.trans ((hb2.alloc hb2.size (.cells #[.slice Ax (1 + (n - k)) cx] 36)).mono HBR.out.size))
                 clear hox hox2 hg2 hat2 hb2 HPR)
              | (at_builtin; refine wpList_append_any _ rfl (.tmp 51) (.tmp 58) _ rfl w.heap.size 36 j0 _ 1 24 Try.underlying62 hj0 hy0 hy1 hy2 rfl (by omega) u11 (layB kind life num b j).length vs rfl HR2.out.1 (w2.heap.size + 1) (some ⟨w2.heap.size, 0, none⟩) 1 1 [.slice Ax (1 + (n - k)) cx] rfl (int_reads w2 _ _) (by intro u hu; simp at hu; subst hu; rfl) (by rw [HJL.out]; unfold maxLen; omega) (by rw [HJL.out]; omega) HB2.out.size ?_; intro v9 w9 ho9 hg9 hat9))
          go_roundg (fsz n - 1 - (j + 1))
          case measure => have := HJ.out; omega
          case rel =>
            refine ⟨j + 1, vs ++ [.slice Ax (1 + (n - k)) cx], by have := HJ.out; omega, ?_, ?_, HB2.out.grown hg9 HB2.out.size (fun k hk => (HR2.out.1.lt k hk).1)⟩
            · rw [show min n (44 + 63 * (j + 1)) = n by have := HK.out; omega]
            · rw [layB_more]
              exact rows_more HR2.out HOX.out hg9 ho9
        · have hk63 : k + 63 ≤ c := by omega
          have hk63' : (k : Int) + 63 ≤ (c : Int) := by omega
          have hkk : (k : Int) ≤ (k : Int) + 63 := by omega
          have hkd : ((k : Int) + 63).toNat - k = 63 := by omega
          have hk00 : (0 : Int) ≤ (k : Int) + 63 := by omega
          have hkd2 : k + 63 - k = 63 := by omega
          have hpr0 : Reads w w.heap.size 1 (some (ad.add k)) (n - k) ((b.drop k).map byt) := by
            have := HB.out.2.1.cut (k := k) (cap := c) (by omega) (by omega)
            rw [if_neg (by omega), Nat.mul_one, ← List.map_drop] at this
            exact this
          have hpr1 : Reads w w.heap.size 1 (some (ad.add k)) (63) (((b.drop k).take 63).map byt) := by
            have h := hpr0.take_ (k := 63) (by omega)
            rw [← List.map_take] at h
            rw [show (b.drop k).take 63 = (b.drop k).take (63) by rfl]
            exact h
          have HPR := Lib.hid ((hpr1.below HBR.out).more HBR.out.size)
          have HCH : Hid ((chunkB b j).length = 1 + (63) ∧ (chunkB b j).map byt = [.int .u8 67] ++ ((b.drop k).take 63).map byt) := Lib.hid (by
            unfold chunkB
            rw [← HK.out]
            refine ⟨?_, rfl⟩
            rw [List.length_cons, List.length_take, List.length_drop, HL.out]
            omega)
          have hjl : (layB kind life num b j).length = j + 1 := layB_len _ _ _ _ _
          have hj20 : j ≤ 1000 := by have := HFZ.out; omega
          have HJL := Lib.hid hjl
          clear hpr0 hpr1 hjl
          go_wp2_with
            (first
              | (at_builtin; refine wpList_append_any _ rfl (.tmp 52) (.tmp 56) _ rfl w.heap.size 5 i0 _ 1 1 Try.underlying36 hi0 hz0 hz1 hz2 rfl (by omega) (.slice (some ⟨wr.heap.size, 0, none⟩) 1 1) 1 [.int .u8 67] rfl (World.ownsRow_lit wr #[.int .u8 67] 1 HBR.out.size (by unfold maxLen; omega) rfl) wr.heap.size (some (ad.add k)) (63) (c - k) (((b.drop k).take 63).map byt) rfl (HPR.out.alloc (Nat.le_refl _) _) (byt_one _) (by unfold maxLen; omega) (by omega) (by have := HBR.out.size; simp; omega) ?_; intro vx w2 hox hg2 hat2
                 obtain ⟨Ax, cx, ex⟩ := own_shape hox
                 subst ex
                 have hb2 : Below wr.heap.size wr w2 := ((Below.refl wr.heap.size wr).alloc (Nat.le_refl _) _).grown hg2 (by simp) (fun k hk => by simp [Value.ownBlock] at hk; omega)
                 have hox2 : w2.ownsRow w.heap.size 5 1 (.slice Ax (1 + (63)) cx) (chunkB b j).length ((chunkB b j).map byt) := by rw [HCH.out.1, HCH.out.2]; exact hox
                 have HOX := Lib.hid (own_keep hox2 (fun g hg => ((Below.refl w2.heap.size w2).alloc (Nat.le_refl _) (.cells #[.slice Ax (1 + (63)) cx] 36)).block g (hox2.lt g hg).2))
                 have HR2 := Lib.hid (HRR.out.below (hb2.alloc hb2.size (.cells #[.slice Ax (1 + (63)) cx] 36)))
                 have HB2 := Lib.hid (HBR.out.trans ((hb2.alloc hb2.size (.cells #[.slice Ax (1 + (63)) cx] 36)).mono HBR.out.size))
                 clear hox hox2 hg2 hat2 hb2 HPR)
              | (at_builtin; refine wpList_append_any _ rfl (.tmp 51) (.tmp 58) _ rfl w.heap.size 36 j0 _ 1 24 Try.underlying62 hj0 hy0 hy1 hy2 rfl (by omega) u11 (layB kind life num b j).length vs rfl HR2.out.1 (w2.heap.size + 1) (some ⟨w2.heap.size, 0, none⟩) 1 1 [.slice Ax (1 + (63)) cx] rfl (int_reads w2 _ _) (by intro u hu; simp at hu; subst hu; rfl) (by rw [HJL.out]; unfold maxLen; omega) (by rw [HJL.out]; omega) HB2.out.size ?_; intro v9 w9 ho9 hg9 hat9))
          go_roundg (fsz n - 1 - (j + 1))
          case measure => have := HJ.out; omega
          case rel =>
            refine ⟨j + 1, vs ++ [.slice Ax (1 + (63)) cx], by have := HJ.out; omega, ?_, ?_, HB2.out.grown hg9 HB2.out.size (fun k hk => (HR2.out.1.lt k hk).1)⟩
            · rw [show min n (44 + 63 * (j + 1)) = k + 63 by have := HK.out; omega]; rfl
            · rw [layB_more]
              exact rows_more HR2.out HOX.out hg9 ho9
      · have : ¬ ((min n (44 + 63 * j) : Nat) : Int) < (n : Int) := by omega
        have hje : j = fsz n - 1 := by omega
        clear hfz
        go_wp2
        go_ret
        exact ⟨_, rfl, ⟨_, hje ▸ HRR.out⟩, HBR.out⟩
  · have hrd : Hid (Reads w7 w7.heap.size 1 A n ((b.take 44).map byt)) := Lib.hid (by
      rw [List.take_of_length_le (by rw [HL.out]; omega)]
      exact HBW.out.2.1)
    have hnc' : (n : Int) ≤ (c : Int) := by omega
    have hn0 : (0 : Int) ≤ (n : Int) := by omega
    cases A with
    | none =>
      obtain ⟨hn0, hc0⟩ := HB.out.1 rfl
      subst hn0 hc0
      go_wp2_with (at_builtin; go_must (refine wpList_append_any _ rfl (.tmp 36) (.tmp 39) _ rfl w.heap.size 5 i0 _ 1 1 Try.underlying36 hi0 hz0 hz1 hz2 rfl (by omega) (.slice A7 (16 + 4) c7) (16 + 4) _ rfl HO7.out w7.heap.size (none) 0 0 ((b.take 44).map byt) rfl hrd.out (byt_one _) (by unfold maxLen; omega) (by omega) HB7.out.size ?_); intro v8 w8 ho8 hg8 hat8; obtain ⟨A8, c8, e8⟩ := own_shape ho8; subst e8)
      have h8 : w8.ownsRow w.heap.size 5 1 (.slice A8 (16 + 4 + 0) c8) (sealB kind life num b ++ b.take 44).length ((sealB kind life num b ++ b.take 44).map byt) := by
        rw [← List.map_append] at ho8
        have hl := ho8.1
        rw [List.length_map] at hl
        rw [hl, Nat.mul_one]
        exact ho8
      have hb8 : Below w.heap.size w w8 := HB7.out.grown hg8 HB7.out.size (fun k hk => (HO7.out.lt k hk).1)
      have HR := Lib.hid (rows_one h8 hb8.size (layB kind life num b 0) rfl)
      have HB8 := Lib.hid (hb8.alloc hb8.size (.cells #[.slice A8 (16 + 4 + 0) c8] 36))
      clear ho8 hg8 hat8 h8 hb8 hrd HBW HO7 HB7
      have hf1 : fsz 0 = 1 := by unfold fsz; rw [if_pos (by omega)]
      have HF1 := Lib.hid hf1
      clear hf1
      go_loopg [10, 11] 0 (fun m kv ov wr => kv = .int .i64 ((0 : Nat) : Int) ∧ RowsV wr w.heap.size ov (layB kind life num b 0) [.slice A8 (16 + 4 + 0) c8] ∧ Below w.heap.size w wr)
      case atStart => exact ⟨rfl, HR.out, HB8.out⟩
      case round =>
        obtain ⟨rfl, hrows, hbel⟩ := hrel
        have HBR := Lib.hid hbel
        have HRR := Lib.hid hrows
        clear hbel hrows HR HB8
        have hnn : ¬ ((0 : Nat) : Int) < ((0 : Nat) : Int) := by omega
        go_wp2
        go_ret
        exact ⟨_, rfl, ⟨_, by rw [HF1.out]; exact HRR.out⟩, HBR.out⟩
    | some ad =>
      go_wp2_with (at_builtin; go_must (refine wpList_append_any _ rfl (.tmp 36) (.tmp 39) _ rfl w.heap.size 5 i0 _ 1 1 Try.underlying36 hi0 hz0 hz1 hz2 rfl (by omega) (.slice A7 (16 + 4) c7) (16 + 4) _ rfl HO7.out w7.heap.size (some ad) n c ((b.take 44).map byt) rfl hrd.out (byt_one _) (by unfold maxLen; omega) (by omega) HB7.out.size ?_); intro v8 w8 ho8 hg8 hat8; obtain ⟨A8, c8, e8⟩ := own_shape ho8; subst e8)
      have h8 : w8.ownsRow w.heap.size 5 1 (.slice A8 (16 + 4 + n) c8) (sealB kind life num b ++ b.take 44).length ((sealB kind life num b ++ b.take 44).map byt) := by
        rw [← List.map_append] at ho8
        have hl := ho8.1
        rw [List.length_map] at hl
        rw [hl, Nat.mul_one]
        exact ho8
      have hb8 : Below w.heap.size w w8 := HB7.out.grown hg8 HB7.out.size (fun k hk => (HO7.out.lt k hk).1)
      have HR := Lib.hid (rows_one h8 hb8.size (layB kind life num b 0) rfl)
      have HB8 := Lib.hid (hb8.alloc hb8.size (.cells #[.slice A8 (16 + 4 + n) c8] 36))
      clear ho8 hg8 hat8 h8 hb8 hrd HBW HO7 HB7
      have hf1 : fsz n = 1 := by unfold fsz; rw [if_pos (by omega)]
      have HF1 := Lib.hid hf1
      clear hf1
      go_loopg [10, 11] 0 (fun m kv ov wr => kv = .int .i64 (n : Int) ∧ RowsV wr w.heap.size ov (layB kind life num b 0) [.slice A8 (16 + 4 + n) c8] ∧ Below w.heap.size w wr)
      case atStart => exact ⟨rfl, HR.out, HB8.out⟩
      case round =>
        obtain ⟨rfl, hrows, hbel⟩ := hrel
        have HBR := Lib.hid hbel
        have HRR := Lib.hid hrows
        clear hbel hrows HR HB8
        have hnn : ¬ (n : Int) < (n : Int) := by omega
        go_wp2
        go_ret
        exact ⟨_, rfl, ⟨_, by rw [HF1.out]; exact HRR.out⟩, HBR.out⟩
end
end Go.Proofs.Ytlbikfamjogpnaa
end

/- slices.Backward at [][]byte: what its iterator does for every loop body that keeps the slice's own memory. Conditions: an owned row of 4096 elements at most. -/
section
namespace Go.Proofs.Ytlbikfamjogpnaa
open Go.RowKit Go.Shelf
set_option linter.unusedVariables false
attribute [local go_sem] Oper.semAt_some

/-- An index that a loop over a slice hands out. -/
abbrev BIx := { x : Nat // x < 4096 }
/-- What has come when k rounds are over: the indices from the last one down. -/
def downs (n : Nat) (hn : n ≤ 4096) (k : Nat) : List BIx := (List.range k).map fun j => ⟨n - 1 - j, by omega⟩
theorem downs_succ (n : Nat) (hn : n ≤ 4096) (k : Nat) : downs n hn (k + 1) = downs n hn k ++ [⟨n - 1 - k, by omega⟩] := by simp [downs, List.range_succ]
theorem downs_len (n : Nat) (hn : n ≤ 4096) (k : Nat) : (downs n hn k).length = k := by simp [downs]
/-- A round keeps the slice's own box and its row. -/
def KpB (Bs g : Nat) (W W' : World) : Prop := W'.heap[Bs]? = W.heap[Bs]? ∧ W'.heap[g]? = W.heap[g]?

set_option maxRecDepth 100000 in
set_option maxHeartbeats 2000000 in
theorem back1_in (F : Fence) (n : Nat) (h97 : F.fn 97) (hro : F.round = none) (hn : 1 ≤ n) (l Bs g B len cap : Nat) (vs : List Value) (hlen : len ≤ 4096) (J Jx : List BIx → World → Prop)
    (hY : ∀ pre x W, J pre W → pre.length < len → YieldAt F (n - 1) Try.prog l #[.int .i64 (x.1 : Int), vs[x.1]?.getD (.slice none 0 0)] W fun e W' =>
      (e = .returned (.bool true) ∧ J (pre ++ [x]) W' ∧ KpB Bs g W W') ∨ (e = .returned (.bool false) ∧ Jx (pre ++ [x]) W'))
    (W : World) (hBs : Blk W Bs 62 #[.slice (some ⟨g, 0, none⟩) len cap]) (ho : W.ownsRow B 36 1 (.slice (some ⟨g, 0, none⟩) len cap) len vs) (h0 : J [] W) :
    CallsIn F n Try.prog 97 #[.func (.yield l) #[] #[], .pointer (some ⟨Bs, 0, none⟩)] W fun e W' => (∃ v, e = .returned v) ∧
      ((∃ ys, ys = downs len hlen len ∧ J ys W') ∨ (∃ pre, (∃ k, k ≤ len ∧ pre = downs len hlen k) ∧ Jx pre W')) := by
  have hvl : vs.length = len := by have := ho.1; simpa using this
  have hbc : W.cell? ⟨Bs, 0, none⟩ = some (.slice (some ⟨g, 0, none⟩) len cap) := (hBs.cell 0).trans rfl
  have HL := Lib.hid hlen
  have e1 : IntKind.i64.wrap ((len : Int) - 1) = (len : Int) - 1 := IntWalk.i64_in _ (by omega)
  refine callsIn_of_wp Try.func97 rfl h97 ?_ hro
  simp only [Try.ntmps97, List.size_toArray, List.length_cons, List.length_nil, Nat.reduceAdd, Nat.reduceSub, Array.replicate_succ, Array.replicate_zero, List.push_toArray, List.append_toArray, List.nil_append, List.cons_append]
  gi_wp2
  gi_loopw [3] (fun i wr => ∃ k : Nat, k ≤ len ∧ i = .int .i64 ((len : Int) - 1 - (k : Int)) ∧ J (downs len hlen k) wr ∧ KpB Bs g W wr)
    (fun i _ => (intOf i + 1).toNat)
  case atStart => exact ⟨0, Nat.zero_le _, by congr 1; omega, h0, rfl, rfl⟩
  case round =>
    obtain ⟨k, hk, rfl, hJs, hkp⟩ := hrel
    by_cases hlt : k < len
    · obtain ⟨i, hi⟩ : ∃ i, i = len - 1 - k := ⟨_, rfl⟩
      have hil : i < len := by omega
      have ei : (len : Int) - 1 - (k : Int) = (i : Int) := by omega
      have HI := Lib.hid hi
      rw [ei]
      have hbc' : wr.cell? ⟨Bs, 0, none⟩ = some (.slice (some ⟨g, 0, none⟩) len cap) := ((show Blk wr Bs _ _ from hkp.1.trans hBs).cell 0).trans rfl
      have ho' : wr.ownsRow B 36 1 (.slice (some ⟨g, 0, none⟩) len cap) len vs := own_keep ho (fun g' hg' => by
        have : g = g' := by simpa [Value.ownBlock] using hg'
        subst this
        exact hkp.2)
      obtain ⟨vi, hvi⟩ : ∃ vi, vs[i]? = some vi := ⟨_, List.getElem?_eq_getElem (by omega)⟩
      have hci : wr.cell? ⟨g, i, none⟩ = some vi := by rw [ho'.cellAt i (by omega), hvi]
      have hi4 : i < 4096 := by omega
      obtain ⟨fn, tmps, assign, body, hy, hR⟩ := hY _ ⟨i, hi4⟩ wr hJs (by rw [downs_len]; exact hlt)
      dsimp only at hy
      rw [hvi, Option.getD_some] at hy
      have hi0 : (0 : Int) ≤ (i : Int) := by omega
      have hilt : (i : Int) < (len : Int) := by omega
      have ew : IntKind.i64.wrap ((i : Int) - 1) = (i : Int) - 1 := IntWalk.i64_in _ (by omega)
      have HKP := Lib.hid hkp
      have HKL := Lib.hid hk
      clear hi hkp hk ho' hvi
      have hdx : downs len hlen k ++ [⟨i, hi4⟩] = downs len hlen (k + 1) := by rw [downs_succ]; congr 2; exact Subtype.ext HI.out
      rw [hdx] at hR
      clear hdx
      gi_wp2
      refine hR.mono ?_
      rintro e W3 (⟨rfl, hJ3, hk3⟩ | ⟨rfl, hJx3⟩)
      · gi_wp2
        go_roundw
        case rel => exact ⟨k + 1, by omega, by congr 1; have := HI.out; omega, hJ3, hk3.1.trans HKP.out.1, hk3.2.trans HKP.out.2⟩
        case measure => simp [intOf]
      · gi_wp2
        refine bodyPost_ret (results_none rfl _ _ _) rfl ?_
        exact ⟨⟨_, rfl⟩, .inr ⟨_, ⟨k + 1, by omega, rfl⟩, hJx3⟩⟩
    · obtain rfl : k = len := by omega
      have hneg : ¬ (0 : Int) ≤ (k : Int) - 1 - (k : Int) := by omega
      gi_wp2
      go_end0
      exact ⟨⟨_, rfl⟩, .inl hJs⟩

theorem back_in (w : World) (A : Option Addr) (n c : Nat) :
    Calls Try.prog 60 #[.slice A n c] w fun e w' => e = .returned (.func (.func 97) #[] #[.pointer (some ⟨w.heap.size, 0, none⟩)]) ∧ w' = w.alloc (.cells #[.slice A n c] 62) := by
  go_enter Try.func60, Try.ntmps60
  go_wp2
  go_ret
  exact ⟨rfl, rfl⟩

theorem back_stops (F : Fence) (n : Nat) (h97 : F.fn 97) (hro : F.round = none) (hn : 1 ≤ n) (Bs g B len cap : Nat) (vs : List Value) (hlen : len ≤ 4096) (w : World)
    (hBs : Blk w Bs 62 #[.slice (some ⟨g, 0, none⟩) len cap]) (ho : w.ownsRow B 36 1 (.slice (some ⟨g, 0, none⟩) len cap) len vs) :
    SeqStopsK F n Try.prog 97 #[.pointer (some ⟨Bs, 0, none⟩)] (fun x : BIx => #[.int .i64 (x.1 : Int), vs[x.1]?.getD (.slice none 0 0)]) (KpB Bs g) (fun ys => ys = downs len hlen len) (fun pre => ∃ k, k ≤ len ∧ pre = downs len hlen k) len w :=
  fun l J Jx W hW _ _ hY h0 => back1_in F n h97 hro hn l Bs g B len cap vs hlen J Jx hY W (hBs.below hW hBs.lt) (own_keep ho (fun g' hg' => hW.block g' (ho.lt g' hg').2)) h0
end Go.Proofs.Ytlbikfamjogpnaa
end

/- A region that draws its order, within a round of a loop over a function: what goes outside goes there. No program here. Conditions: no operation defers; nothing is let out. -/
section
namespace Go.Proofs.Ytlbikfamjogpnaa
open Go.RowKit
/-- An exit that no panic comes to. -/
def calm (Q : Exit → Act → World → Prop) : Exit → Act → World → Prop
  | .panic _, _, _ => False
  | e, a, w => Q e a w
theorem calm_le (Q : Exit → Act → World → Prop) : ∀ e a w, calm Q e a w → Q e a w := by
  intro e a w h
  cases e <;> first | exact h | exact False.elim h
theorem calm_n {Q : Exit → Act → World → Prop} {a : Act} {w : World} (h : Q .normal a w) : calm Q .normal a w := h
/-- The law of a loop over a function, its first assignment told by the frame ahead. -/
theorem rangeFunc_mk {F : Fence} {n : Nat} {P : Program} {α : Type} {g : Operand} {ps : Array Tmp} {assign body : Code} {Q : Exit → Act → World → Prop} {a : Act} {w : World} (mk : Act → α → Act)
    (hro : F.round = none) (h1 : 1 ≤ n) {gf : Nat} {lb : Array Value} (hg : a.eval g = .func (.func gf) #[] lb) (hFg : F.fn gf) (eg : ∀ args w, (callFunc gf args).run P w = .ok (.enter gf args) w)
    {encs : α → Array Value} {Kp : World → World → Prop} {S Sp : List α → Prop} {N : Nat} {w0 : World} (hseq : SeqStopsK F (n - 1) P gf lb encs Kp S Sp N w0)
    (hKt : ∀ {A B C : World}, Kp A B → Kp B C → Kp A C) (hKb : ∀ (W : World) (l : Nat) (o o' : Obj), w.heap.size ≤ l → W.heap[l]? = some o → o.isCells = false → o.isWalk = false → Kp W (W.putObj l o')) (hb0 : Below w0.heap.size w0 w) (hps : ∀ x, (encs x).size = ps.size)
    (I : List α → World → Prop) (Ix : Code → List α → World → Prop) (hI : OwnFrom w.heap.size I) (hIx : ∀ c, OwnFrom w.heap.size (Ix c)) (h0 : I [] w)
    (hassign : ∀ (l : Nat) (x : α) (W : World) (K : Act → World → Prop), K (mk a x) W →
      assign.wpIn (F.inRound l) (n - 1 - 1) P (Exit.then K (fun _ _ _ => False)) { tmps := (ps.zip (encs x)).foldl (fun t (p, v) => t.setIfInBounds p v) a.tmps, defers := [] } W)
    (hbody : ∀ (l : Nat) (pre : List α) (x : α) (W : World), I pre W → pre.length < N → body.wpIn (F.inRound l) (n - 1 - 1) P (ownPostG w.heap.size Kp I Ix (pre ++ [x]) W) (mk a x) W)
    (hdone : ∀ (D : Nat) (xs : List α) (W : World), w.heap.size ≤ D → S xs → I xs W → W.heap[D]? = some (.deferred (some [])) → Q .normal { a with defers := { target := .collected D, args := #[] } :: a.defers } W)
    (hstop : ∀ (D : Nat) (c : Code) (pre : List α) (W : World), w.heap.size ≤ D → Sp pre → Ix c pre W → W.heap[D]? = some (.deferred (some [])) → c.wpIn F n P Q { a with defers := { target := .collected D, args := #[] } :: a.defers } W) :
    (Code.rangeFunc g ps assign body).wpIn F n P Q a w := wpIn_rangeFunc_ownG hro h1 hg hFg eg hseq hKt hKb hb0 hps I Ix hI hIx h0 (mk a) hassign hbody hdone hstop
/-- A region by itself: what it leaves in the frame is told by a function of the frame ahead and one value. -/
theorem region_then {P : Program} {c : Code} {Q : Exit → Act → World → Prop} {a : Act} {w : World} (mk : Act → Value → Act) (R : Value → World → Prop)
    (h1 : c.wp P (calm (fun e a' w' => e = .normal ∧ ∃ v, a' = mk a v ∧ R v w')) a w) (h2 : ∀ v w', R v w' → Q .normal (mk a v) w') : c.wp P Q a w :=
  wp_mono (wp_mono h1 (calm_le _)) (by rintro e a' w' ⟨rfl, v, rfl, h⟩; exact h2 v w' h)
section
variable {P : Program} {ops : Array Oper} {Q : Exit → Act → World → Prop} {l n : Nat}
theorem oper_round {o : Oper} {a : Act} {w : World} {K : Act → World → Prop} (hd : ∀ c, o.op ≠ .defer c) (h : o.wp P a w K Q) : o.wpIn (Fence.wide.inRound l) n P a w K Q := by
  unfold Oper.wp at h
  refine ⟨fun _ _ => trivial, ?_⟩
  rw [Oper.semAt_eq _ _ _ hd]
  generalize (execOp a.eval o).run P w = r at *
  cases r with
  | ok x w' =>
    cases x <;> simp only [Oper.upon, Oper.uponIn] at h ⊢ <;>
      first
        | exact h
        | exact ⟨fun h => by simp [Fence.wide] at h, CallsIn.inRound l (callsIn_wide.2 h)⟩
        | exact ⟨fun h => by simp [Fence.wide] at h, fun c cs _ => by
            obtain ⟨v, w'', hv, hs⟩ := h c cs
            exact ⟨v, w'', hv, (stepsIn_wide (P := P)).2 hs⟩⟩
  | halt x w' => cases x <;> simp only [Oper.upon, Oper.uponIn] at h ⊢ <;> exact h
theorem wpOp_round (hd : ∀ (i : Nat) (o : Oper), ops[i]? = some o → ∀ c, o.op ≠ .defer c) (hQ : ¬ LetsOut Q) {i : Nat} {K : Act → World → Prop} {a : Act} {w : World} (h : wpOp P ops Q i K a w) : wpOpIn (Fence.wide.inRound l) n P ops Q i K a w := by
  unfold wpOp at h
  unfold wpOpIn
  cases ho : ops[i]? with
  | none => rw [ho] at h; exact h
  | some o =>
    rw [ho] at h
    simp only [] at h ⊢
    split
    · rename_i hw
      rw [if_pos hw] at h
      exact oper_round (hd i o ho) (h.resolve_right fun h => hQ h.2)
    · rename_i hw
      rw [if_neg hw] at h
      exact ⟨fun _ _ => trivial, h⟩
theorem wpAny_round (hd : ∀ (i : Nat) (o : Oper), ops[i]? = some o → ∀ c, o.op ≠ .defer c) (hQ : ¬ LetsOut Q) {md : Region.Mode} : ∀ (fuel : Nat) (listed : Array Bool) (a : Act) (w : World), wpAny P md ops Q fuel listed a w → wpAnyIn (Fence.wide.inRound l) n P md ops Q fuel listed a w
  | 0, _, _, _, h => h
  | fuel + 1, _, _, _, h => ⟨h.1, fun i hi => wpOp_round hd hQ (wpOp_mono (fun a' w' h' => wpAny_round hd hQ fuel _ a' w' h') (h.2 i hi))⟩
theorem round_region {id : Nat} {a : Act} {w : World} (hm : P.follows .mixedOrders = true) (hd : ∀ (i : Nat) (o : Oper), ops[i]? = some o → ∀ c, o.op ≠ .defer c) (hQ : ¬ LetsOut Q)
    (h : wpAny P .any ops Q ops.size (Array.replicate ops.size false) a w.drew) : (Code.region id ops true).wpIn (Fence.wide.inRound l) n P Q a w :=
  wpIn_region_any hm (wpAny_round hd hQ _ _ _ _ h)
def noDefer (ops : Array Oper) : Bool := ops.all fun o => match o.op with | .defer _ => false | _ => true
theorem noDefer_at (h : noDefer ops = true) (i : Nat) (o : Oper) (ho : ops[i]? = some o) (c) : o.op ≠ .defer c := by
  intro e
  unfold noDefer at h
  rw [Array.all_eq_true_iff_forall_mem] at h
  have := h o (Array.mem_of_getElem? ho)
  rw [e] at this
  cases this
theorem walk_startR {id : Nat} (j0 : Nat) {a : Act} {w : World} {S T : World → Prop} (hm : P.follows .mixedOrders = true) (F : Nat → Prop) (hB : ∀ W, T W → F W.heap.size) (hST : ∀ W, T W → S W) (hc : Closed T) (hT : T w.drew) (hd : noDefer ops = true) (hQ : ¬ LetsOut Q) (h : WalkS P .any ops Q j0 F ops.size [] (Array.replicate ops.size false) a S T) : (Code.region id ops true).wpIn (Fence.wide.inRound l) n P Q a w :=
  round_region hm (noDefer_at hd) hQ (wpAny_of_J (j0 := j0) (S := S) _ _ _ _ (
    h hB hST hc (fun _ h => (by cases h)) [] [] w.drew (List.Perm.refl _) hT ⟨(fun _ h => by cases h), List.nodup_nil⟩))
end
end Go.Proofs.Ytlbikfamjogpnaa
end

/- frame's Add. Conditions: an area and its disk lie in memory; the area lies on the disk; a slice of bytes that reads. -/
section
namespace Go.Proofs.Ytlbikfamjogpnaa
open Go.RowKit Go.Shelf
set_option linter.unusedVariables false
set_option linter.unusedSimpArgs false
attribute [local go_sem] Oper.semAt_some

/-- Writes of rows at their places, one by one, till one is refused. -/
def wrun (base : Nat) (rows : List (List UInt8)) : Dk → List BIx → Dk × Int
  | d, [] => (d, 0)
  | d, x :: l => if (d.write ((base + x.1 : Nat) : Int) (rows[x.1]?.getD [])).2 = 0 then wrun base rows (d.write ((base + x.1 : Nat) : Int) (rows[x.1]?.getD [])).1 l else d.write ((base + x.1 : Nat) : Int) (rows[x.1]?.getD [])
theorem wrun_app (base : Nat) (rows : List (List UInt8)) (l : List BIx) : ∀ (d : Dk) (m : List BIx), wrun base rows d (l ++ m) = if (wrun base rows d l).2 = 0 then wrun base rows (wrun base rows d l).1 m else wrun base rows d l := by
  induction l with
  | nil => intro d m; simp [wrun]
  | cons x l ih =>
    intro d m
    rw [List.cons_append, wrun, wrun]
    by_cases h : (d.write ((base + x.1 : Nat) : Int) (rows[x.1]?.getD [])).2 = 0
    · rw [if_pos h, if_pos h, ih]
    · rw [if_neg h, if_neg h, if_neg h]

/-- The blocks of an area: its own, and that of its row. -/
def AB (w : World) (p : Nat) (k : Nat) : Prop := k = p ∨ ∃ n c, w.cell? ⟨p, 5, none⟩ = some (.slice (some ⟨k, 0, none⟩) n c)

/-- What Add does. -/
def AddPost (w : World) (B p b a : Nat) (A : Ar) (d : Dk) (kind : UInt8) (bs : List UInt8) (e : Ending) (w' : World) : Prop :=
  if 1000 < bs.length then e = .returned (.tuple #[.int .i64 0, .int .i64 2]) ∧ AreaAt w' B p b A ∧ DiskAt w' b a d ∧ Below w.heap.size w w'
  else if A.lives ≠ d.lives then e = .returned (.tuple #[.int .i64 0, .int .i64 4]) ∧ AreaAt w' B p b A ∧ DiskAt w' b a d ∧ Below w.heap.size w w'
  else if A.sectors < A.used + fsz bs.length then e = .returned (.tuple #[.int .i64 0, .int .i64 6]) ∧ AreaAt w' B p b A ∧ DiskAt w' b a d ∧ Below w.heap.size w w'
  else ∃ hl : fsz bs.length ≤ 4096, ∃ r, r = wrun (A.first + A.used) (layB kind A.life A.ats.length bs (fsz bs.length - 1)) d (downs (fsz bs.length) hl (fsz bs.length)) ∧
    e = .returned (.tuple #[.int .i64 (if r.2 = 0 then (A.used : Int) else 0), .int .i64 r.2]) ∧ DiskAt w' b a r.1 ∧
    AreaAt w' B p b (if r.2 = 0 then { A with ats := A.ats ++ [A.used], used := A.used + fsz bs.length } else A) ∧ DKept (fun k => DS b a k ∨ AB w p k) w w'
theorem ad_long {w w' : World} {B p b a : Nat} {A : Ar} {d : Dk} {kind : UInt8} {bs : List UInt8} {e : Ending} (h : 1000 < bs.length) (he : e = .returned (.tuple #[.int .i64 0, .int .i64 2]) ∧ AreaAt w' B p b A ∧ DiskAt w' b a d ∧ Below w.heap.size w w') : AddPost w B p b a A d kind bs e w' := by
  unfold AddPost
  rw [if_pos h]
  exact he
theorem ad_off {w w' : World} {B p b a : Nat} {A : Ar} {d : Dk} {kind : UInt8} {bs : List UInt8} {e : Ending} (h : ¬ 1000 < bs.length) (h2 : A.lives ≠ d.lives) (he : e = .returned (.tuple #[.int .i64 0, .int .i64 4]) ∧ AreaAt w' B p b A ∧ DiskAt w' b a d ∧ Below w.heap.size w w') : AddPost w B p b a A d kind bs e w' := by
  unfold AddPost
  rw [if_neg h, if_pos h2]
  exact he
theorem ad_full {w w' : World} {B p b a : Nat} {A : Ar} {d : Dk} {kind : UInt8} {bs : List UInt8} {e : Ending} (h : ¬ 1000 < bs.length) (h2 : A.lives = d.lives) (h3 : A.sectors < A.used + fsz bs.length) (he : e = .returned (.tuple #[.int .i64 0, .int .i64 6]) ∧ AreaAt w' B p b A ∧ DiskAt w' b a d ∧ Below w.heap.size w w') : AddPost w B p b a A d kind bs e w' := by
  unfold AddPost
  rw [if_neg h, if_neg (fun h => h h2), if_pos h3]
  exact he

theorem own_base {w : World} {B B' n s : Nat} {e : TypeId} {v : Value} {xs : List Value} (h : w.ownsRow B e s v n xs) (hB : B' ≤ B) : w.ownsRow B' e s v n xs := by
  refine ⟨h.1, ?_⟩
  rcases h.2 with h2 | ⟨g, cap, cur, hv, hg, r⟩
  · exact .inl h2
  · exact .inr ⟨g, cap, cur, hv, Nat.le_trans hB hg, r⟩
theorem Rows.base {w : World} {B B' : Nat} {v : Value} {ls : List (List UInt8)} (h : Rows w B v ls) (hB : B' ≤ B) : Rows w B' v ls := by
  obtain ⟨vs, h1, h2, h3, h4⟩ := h
  refine ⟨vs, own_base h1 hB, h2, h3, fun i l hl => ?_⟩
  obtain ⟨x, hx, ho⟩ := h4 i l hl
  exact ⟨x, hx, own_base ho hB⟩
theorem RowsV.kept {w w' : World} {B : Nat} {v : Value} {ls : List (List UInt8)} {vs : List Value} {S : Nat → Prop} (h : RowsV w B v ls vs) (hk : DKept S w w') (hS : ∀ k, S k → k < B) : RowsV w' B v ls vs :=
  ⟨own_keep h.1 (fun g hg => hk.block g (h.1.lt g hg).2 (fun hs => by have := hS g hs; have := (h.1.lt g hg).1; omega)), h.2.1, h.2.2.1, fun i l hl => by
    obtain ⟨x, hx, ho⟩ := h.2.2.2 i l hl
    exact ⟨x, hx, own_keep ho (fun g hg => hk.block g (ho.lt g hg).2 (fun hs => by have := hS g hs; have := (ho.lt g hg).1; omega))⟩⟩
theorem row_bts {W : World} {B : Nat} {v : Value} {ls : List (List UInt8)} {vs : List Value} (h : RowsV W B v ls vs) (x : Nat) : ∃ A n c, vs[x]?.getD (.slice none 0 0) = .slice A n c ∧ Bts W A n c (ls[x]?.getD []) := by
  cases hl : ls[x]? with
  | none =>
    have : vs[x]? = none := by rw [List.getElem?_eq_none_iff, h.2.1]; exact List.getElem?_eq_none_iff.1 hl
    rw [this]
    exact ⟨none, 0, 0, rfl, fun _ => ⟨rfl, rfl⟩, Reads.none_, Nat.le_refl _, Nat.zero_le _, rfl⟩
  | some l =>
    obtain ⟨y, hy, ho⟩ := h.2.2.2 x l hl
    obtain ⟨A, c, e⟩ := own_shape ho
    rw [hy]
    subst e
    exact ⟨A, _, c, rfl, own_bts ho⟩
theorem wrun_snoc {base : Nat} {rows : List (List UInt8)} {d : Dk} {pre : List BIx} {x : BIx} (h : (wrun base rows d pre).2 = 0) :
    wrun base rows d (pre ++ [x]) = (wrun base rows d pre).1.write ((base + x.1 : Nat) : Int) (rows[x.1]?.getD []) := by
  rw [wrun_app, if_pos h, wrun]
  split
  · rename_i h0
    rw [wrun]
    exact Prod.ext rfl h0.symm
  · rfl
theorem DiskAt.apart97 {w : World} {b a g : Nat} {d : Dk} {cs : Array Value} (h : DiskAt w b a d) (hg : Blk w g 97 cs) : ¬ DS b a g := by
  obtain ⟨c, arr, hb, ha, _⟩ := h
  rintro (e | e)
  · subst e; exact hg.ne_ hb (by decide) rfl
  · subst e; exact hg.ne_ ha (by decide) rfl
theorem disk_two {V : World} {b a q : Nat} {d : Dk} {u1 u2 v1 v2 : Value} (h : DiskAt V b a d) (h1 : Blk V (q + 1) 3 #[u1]) (h2 : Blk V (q + 1 + 1) 25 #[u2]) : DiskAt ((V.setCell ⟨q + 1, 0, none⟩ v1).setCell ⟨q + 1 + 1, 0, none⟩ v2) b a d := by
  have hk : DKept (fun k => k = q + 1 ∨ k = q + 1 + 1) V ((V.setCell ⟨q + 1, 0, none⟩ v1).setCell ⟨q + 1 + 1, 0, none⟩ v2) := DKept.set (DKept.set DKept.refl (.inl rfl)) (.inr rfl)
  obtain ⟨c, arr, hb, ha, _⟩ := id h
  exact h.keep (hk.block b hb.lt (fun e => by rcases e with e | e; exact hb.ne_ h1 (by decide) e; exact hb.ne_ h2 (by decide) e))
    (hk.block a ha.lt (fun e => by rcases e with e | e; exact ha.ne_ h1 (by decide) e; exact ha.ne_ h2 (by decide) e))
    (fun g cs hg => hk.blk hg (fun e => by rcases e with e | e; exact hg.ne_ h1 (by decide) e; exact hg.ne_ h2 (by decide) e))
theorem DiskAt.apartI {w : World} {b a B n g : Nat} {d : Dk} {v : Value} {xs : List Value} (h : DiskAt w b a d) (ho : w.ownsRow B 3 1 v n xs) (hg : v.ownBlock = some g) : ¬ DS b a g := by
  obtain ⟨c, arr, hb, ha, _⟩ := h
  rintro (e | e)
  · subst e; exact own_blk_ne ho hb (by decide) hg
  · subst e; exact own_blk_ne ho ha (by decide) hg
theorem blk_row {W : World} {g : Nat} {t : TypeId} {cs : Array Value} {row : Option Nat} (h : Blk W g t cs) (hr : ∀ r, row = some r → ∃ o : Obj, W.heap[r]? = some o ∧ o.isCells = false) : some g ≠ row := by
  intro e
  obtain ⟨o, ho, hc⟩ := hr g e.symm
  unfold Blk at h
  rw [h] at ho
  injection ho with ho
  subst ho
  cases hc
theorem disk_grown {W W' : World} {b a : Nat} {d : Dk} {row : Option Nat} (h : DiskAt W b a d) (hg : W.grownBy W' row) (hr : ∀ r, row = some r → ∃ o : Obj, W.heap[r]? = some o ∧ o.isCells = false) : DiskAt W' b a d := by
  obtain ⟨c, arr, h1, h2, _⟩ := id h
  exact h.keep (hg.block b h1.lt (blk_row h1 hr)) (hg.block a h2.lt (blk_row h2 hr)) (fun _ _ hk => hk.grown hg (blk_row hk hr))
theorem below_drewN {B : Nat} {w w' : World} (h : Below B w w') : ∀ m, Below B w (w'.drewN m) := fun _ => ⟨h.os, h.tape, h.output, h.size, h.block⟩
theorem ad_run {w w' : World} {B p b a : Nat} {A : Ar} {d : Dk} {kind : UInt8} {bs : List UInt8} {e : Ending} (h : ¬ 1000 < bs.length) (h2 : A.lives = d.lives) (h3 : A.used + fsz bs.length ≤ A.sectors) (hl : fsz bs.length ≤ 4096) (r : Dk × Int)
    (hr : r = wrun (A.first + A.used) (layB kind A.life A.ats.length bs (fsz bs.length - 1)) d (downs (fsz bs.length) hl (fsz bs.length)))
    (he : e = .returned (.tuple #[.int .i64 (if r.2 = 0 then (A.used : Int) else 0), .int .i64 r.2])) (hd : DiskAt w' b a r.1)
    (ha : AreaAt w' B p b (if r.2 = 0 then { A with ats := A.ats ++ [A.used], used := A.used + fsz bs.length } else A)) (hk : DKept (fun k => DS b a k ∨ AB w p k) w w') : AddPost w B p b a A d kind bs e w' := by
  unfold AddPost
  rw [if_neg h, if_neg (fun h => h h2), if_neg (by omega)]
  exact ⟨hl, r, hr, he, hd, ha, hk⟩
theorem downs_split (n : Nat) (hn : n ≤ 4096) {k : Nat} (hk : k ≤ n) : ∃ m, downs n hn n = downs n hn k ++ m := by
  refine ⟨(downs n hn n).drop k, ?_⟩
  have : downs n hn k = (downs n hn n).take k := by
    unfold downs
    rw [← List.map_take, List.take_range, Nat.min_eq_left hk]
  rw [this, List.take_append_drop]
theorem wrun_stop {base : Nat} {rows : List (List UInt8)} {d : Dk} {n : Nat} {hn : n ≤ 4096} {k : Nat} (hk : k ≤ n) (h : (wrun base rows d (downs n hn k)).2 ≠ 0) : wrun base rows d (downs n hn n) = wrun base rows d (downs n hn k) := by
  obtain ⟨m, e⟩ := downs_split n hn hk
  rw [e, wrun_app, if_neg h]
theorem results_cc (tmps : Array Value) (W : World) (g1 g2 : Nat) (x y : Int) (h6 : tmps.getD 6 undef = .pointer (some ⟨g1, 0, none⟩)) (h7 : tmps.getD 7 undef = .pointer (some ⟨g2, 0, none⟩))
    (c1 : W.cell? ⟨g1, 0, none⟩ = some (.int .i64 x)) (c2 : W.cell? ⟨g2, 0, none⟩ = some (.int .i64 y)) : (results Try.f18 tmps).run Try.prog W = .ok (.tuple #[.int .i64 x, .int .i64 y]) W := by
  have h6' : tmps[6]?.getD undef = .pointer (some ⟨g1, 0, none⟩) := by simpa using h6
  have h7' : tmps[7]?.getD undef = .pointer (some ⟨g2, 0, none⟩) := by simpa using h7
  simp [results, Try.f18, go_sem, h6', h7', c1, c2]
theorem cell_two (W : World) (q : Nat) (t1 t2 : TypeId) (u1 u2 v1 v2 : Value) (h1 : Blk W (q + 1) t1 #[u1]) (h2 : Blk W (q + 1 + 1) t2 #[u2]) :
    ((W.setCell ⟨q + 1, 0, none⟩ v1).setCell ⟨q + 1 + 1, 0, none⟩ v2).cell? ⟨q + 1, 0, none⟩ = some v1 ∧ ((W.setCell ⟨q + 1, 0, none⟩ v1).setCell ⟨q + 1 + 1, 0, none⟩ v2).cell? ⟨q + 1 + 1, 0, none⟩ = some v2 := by
  have k1 : Blk (W.setCell ⟨q + 1, 0, none⟩ v1) (q + 1) t1 #[v1] := by have := h1.set_ 0 v1; simpa using this
  have k2 : Blk (W.setCell ⟨q + 1, 0, none⟩ v1) (q + 1 + 1) t2 #[u2] := h2.far (p := ⟨q + 1, 0, none⟩) (by show q + 1 + 1 ≠ q + 1; omega) v1
  have k3 : Blk ((W.setCell ⟨q + 1, 0, none⟩ v1).setCell ⟨q + 1 + 1, 0, none⟩ v2) (q + 1 + 1) t2 #[v2] := by have := k2.set_ 0 v2; simpa using this
  have k4 := k1.far (p := ⟨q + 1 + 1, 0, none⟩) (by show q + 1 ≠ q + 1 + 1; omega) v2
  exact ⟨(k4.cell 0).trans rfl, (k3.cell 0).trans rfl⟩

section
variable {w : World} {B p b a : Nat} {A : Ar} {Ab : Option Addr} {n c : Nat} {bs : List UInt8}
set_option maxRecDepth 100000 in
set_option maxHeartbeats 4000000 in
theorem add_any (d : Dk) (kind : UInt8) (h : AreaAt w B p b A) (hd : DiskAt w b a d) (hfit : A.first + A.sectors ≤ d.S.length) (hused : A.used ≤ A.sectors) (hats : A.ats.length ≤ A.used) (hb : Bts w Ab n c bs) (hn : n ≤ 100000) :
    Calls Try.prog 18 #[.pointer (some ⟨p, 0, none⟩), .int .u8 (kind.toNat : Int), .slice Ab n c] w (AddPost w B p b a A d kind bs) := by
  have hln := hb.2.2.2.2
  have hl : d.S.length ≤ 4096 := (disk_len hd).1
  have hp : p < w.heap.size := by obtain ⟨_, _, _, hk, _⟩ := h; exact hk.lt
  have HA := Lib.hid h
  have HD := Lib.hid hd
  have HBS := Lib.hid hb
  have HLN := Lib.hid hln
  have CZ := Lib.hid (fun V : World => size_any V (n : Int) (by omega) (by omega))
  have CD := Lib.hid (fun V (hV : Later w V) => done_any d (h.below hV) (hd.below hV))
  have HFIT := Lib.hid hfit
  have HUS := Lib.hid hused
  have HATS := Lib.hid hats
  have HP := Lib.hid hp
  have HL := Lib.hid hl
  clear h hd hb hln hfit hused hats hp hl
  refine (callsIn_wide (n := 5)).1 ?_
  refine callsIn_of_wp_marks Try.func18 rfl trivial ?_ rfl
  refine wpIn_wide.2 ?_
  simp only [Try.ntmps18, List.size_toArray, List.length_cons, List.length_nil, Nat.reduceAdd, Nat.reduceSub, Array.replicate_succ, Array.replicate_zero, List.push_toArray, List.append_toArray, List.nil_append, List.cons_append]
  go_wp2_with fail
  refine (CZ.out _).mono ?_
  rintro e w' ⟨rfl, rfl⟩
  obtain ⟨W0, hW0⟩ : ∃ W0, W0 = ((w.alloc (.cells #[.pointer (some ⟨p, 0, none⟩)] 28)).alloc (.cells #[.int .i64 0] 3)).alloc (.cells #[.int .i64 0] 25) := ⟨_, rfl⟩
  rw [← hW0]
  have hb0 : Below w.heap.size w W0 := by rw [hW0]; exact (((Below.refl _ _).alloc (Nat.le_refl _) _).alloc (by simp) _).alloc (by simp; omega) _
  have hk3 : Blk W0 w.heap.size 28 #[.pointer (some ⟨p, 0, none⟩)] := by rw [hW0]; exact ((Blk.new _ _ _).alloc _).alloc _
  have hk6 : Blk W0 (w.heap.size + 1) 3 #[.int .i64 0] := by rw [hW0]; have := (Blk.new (w.alloc (.cells #[.pointer (some ⟨p, 0, none⟩)] 28)) 3 #[.int .i64 0]).alloc (.cells #[.int .i64 0] 25); rw [World.size_alloc] at this; exact this
  have hk7 : Blk W0 (w.heap.size + 1 + 1) 25 #[.int .i64 0] := by rw [hW0]; have := Blk.new ((w.alloc (.cells #[.pointer (some ⟨p, 0, none⟩)] 28)).alloc (.cells #[.int .i64 0] 3)) 25 #[.int .i64 0]; rw [World.size_alloc, World.size_alloc] at this; exact this
  clear hW0
  have HB0 := Lib.hid hb0
  have HK3 := Lib.hid hk3
  have HK6 := Lib.hid hk6
  have HK7 := Lib.hid hk7
  have c3 : W0.cell? ⟨w.heap.size, 0, none⟩ = some (.pointer (some ⟨p, 0, none⟩)) := (hk3.cell 0).trans rfl
  have z6 : W0.cell? ⟨w.heap.size + 1, 0, none⟩ = some (.int .i64 0) := (hk6.cell 0).trans rfl
  have z7 : W0.cell? ⟨w.heap.size + 1 + 1, 0, none⟩ = some (.int .i64 0) := (hk7.cell 0).trans rfl
  have f6 : W0.frozen? ⟨w.heap.size + 1, 0, none⟩ = false := hk6.frozen 0
  have f7 : W0.frozen? ⟨w.heap.size + 1 + 1, 0, none⟩ = false := hk7.frozen 0
  clear hb0 hk3 hk6 hk7
  by_cases hbig : 1000 < n
  · have e0 : fsize (n : Int) = 0 := by unfold fsize; rw [if_pos (by omega)]
    rw [e0]
    go_wp2_with fail
    have hx := cell_two W0 w.heap.size _ _ _ _ (.int .i64 0) (.int .i64 2) HK6.out HK7.out
    have hbz : Below w.heap.size w ((W0.setCell ⟨w.heap.size + 1, 0, none⟩ (.int .i64 0)).setCell ⟨w.heap.size + 1 + 1, 0, none⟩ (.int .i64 2)) := (HB0.out.setCell (p := ⟨w.heap.size + 1, 0, none⟩) (by simp) _).setCell (p := ⟨w.heap.size + 1 + 1, 0, none⟩) (by simp; omega) _
    exact ⟨_, results_cc _ _ _ _ _ _ rfl rfl hx.1 hx.2, ad_long (by rw [HLN.out]; exact hbig) ⟨rfl, HA.out.below hbz, HD.out.below hbz, hbz⟩⟩
  have efz : fsize (n : Int) = (fsz n : Int) := fsize_nat (by omega)
  rw [efz]
  clear efz
  have hfp := fsz_pos n
  have hf17 := fsz_le (n := n) (by omega)
  obtain ⟨fz, hfz⟩ : ∃ fz, fz = fsz n := ⟨_, rfl⟩
  rw [← hfz] at hfp hf17 ⊢
  have HFZ := Lib.hid hfz
  clear hfz
  have g0 : ((fz : Int) == 0) = false := beq_eq_false_iff_ne.2 (by omega)
  have CD0 := Lib.hid (CD.out W0 HB0.out)
  clear CZ CD
  go_wp2_with fail
  refine CD0.out.mono ?_
  rintro e w' ⟨rfl, m, rfl⟩
  clear CD0
  by_cases hlv : A.lives = d.lives
  · have e1 : (A.lives != d.lives) = false := by rw [hlv]; simp
    rw [e1]
    clear e1
    have HLV := Lib.hid hlv
    clear hlv
    obtain ⟨W1, hW1⟩ : ∃ W1, W1 = W0.drewN m := ⟨_, rfl⟩
    rw [← hW1]
    have HB1 : Hid (Below w.heap.size w W1) := Lib.hid (by rw [hW1]; exact below_drewN HB0.out m)
    have hk3 : Blk W1 w.heap.size 28 #[.pointer (some ⟨p, 0, none⟩)] := by rw [hW1]; exact HK3.out
    have hk6 : Blk W1 (w.heap.size + 1) 3 #[.int .i64 0] := by rw [hW1]; exact HK6.out
    have hk7 : Blk W1 (w.heap.size + 1 + 1) 25 #[.int .i64 0] := by rw [hW1]; exact HK7.out
    clear HB0 HK3 HK6 HK7 c3 z6 z7 f6 f7 hW1
    obtain ⟨W0, rfl⟩ : ∃ V : World, V = W0 := ⟨_, rfl⟩
    have HK3 := Lib.hid hk3
    have HK6 := Lib.hid hk6
    have HK7 := Lib.hid hk7
    have SF : Hid (∃ At cA, w.ownsRow B 3 1 (.slice At A.ats.length cA) A.ats.length (A.ats.map natv) ∧ Blk w p 97 #[.pointer (some ⟨b, 0, none⟩), .int .i64 A.lives, .int .i64 A.first, .int .i64 A.sectors, .int .u64 A.life, .slice At A.ats.length cA, .int .i64 A.used] ∧ ∀ V, Later W1 V → V.cell? ⟨w.heap.size, 0, none⟩ = some (.pointer (some ⟨p, 0, none⟩)) ∧ V.cell? ⟨p, 0, none⟩ = some (.pointer (some ⟨b, 0, none⟩)) ∧ V.cell? ⟨p, 2, none⟩ = some (.int .i64 A.first) ∧ V.cell? ⟨p, 3, none⟩ = some (.int .i64 A.sectors) ∧ V.cell? ⟨p, 4, none⟩ = some (.int .u64 A.life) ∧ V.cell? ⟨p, 5, none⟩ = some (.slice At A.ats.length cA) ∧ V.cell? ⟨p, 6, none⟩ = some (.int .i64 A.used)) := Lib.hid (by
      obtain ⟨_, At, cA, hk, ho⟩ := HA.out
      refine ⟨At, cA, ho, hk, fun V hV => ?_⟩
      obtain ⟨x0, x1, x2, x3, x4, x5, x6⟩ := area_cells ((hk.below HB1.out hk.lt).below hV (hk.below HB1.out hk.lt).lt)
      exact ⟨((HK3.out.below hV HK3.out.lt).cell 0).trans rfl, x0, x2, x3, x4, x5, x6⟩)
    obtain ⟨At, cA, hoA, hkA, SF⟩ := SF.out
    have HOA := Lib.hid hoA
    have HKA := Lib.hid hkA
    have SF := Lib.hid SF
    have es : IntKind.i64.wrap ((A.sectors : Int) - (A.used : Int)) = (A.sectors : Int) - (A.used : Int) := IntWalk.i64_in _ (by have := HFIT.out; have := HUS.out; have := HL.out; omega)
    clear hk3 hk6 hk7 hoA hkA
    by_cases hroom : A.sectors < A.used + fz
    · have g5 : decide ((A.sectors : Int) - (A.used : Int) < (fz : Int)) = true := decide_eq_true (by omega)
      have HRM := Lib.hid hroom
      clear hroom
      go_upto_region 6 with fail
      refine wp_mono (h := ?_) (calm_le _)
      have HL0 := Lib.hid (Later.refl W1)
      have ZF0 : Hid (∀ s, W1.heap.size ≤ s → W1.heap.size ≤ s) := Lib.hid (fun _ h => h)
      have ZS0 : Hid (∀ V, Later W1 V → (Later W1) V) := Lib.hid (fun _ h => h)
      refine walk_start 12 (S := Later W1) (T := Later W1) (by kernel_rfl) (fun r => W1.heap.size ≤ r) (fun _ h => h.size) ZS0.out (closed_later _) (Later.refl _).drew ?_
      refine wt 0 24 ?_ (fun V hV => ?_) ?_
      rotate_left 1
      · (clear hV; go_simp; (try with_reducible rfl))
      try simp only [pa, List.set]
      refine wt 1 25 ?_ (fun V hV => ?_) ?_
      rotate_left 1
      · (obtain ⟨c3, a0, a2, a3, a4, a5, a6⟩ := SF.out V (HL0.out.trans hV); clear hV; go_simp; (try with_reducible rfl))
      try simp only [pa, List.set]
      refine wt 2 26 ?_ (fun V hV => ?_) ?_
      rotate_left 1
      · (clear hV; go_simp; (try with_reducible rfl))
      try simp only [pa, List.set]
      refine wt 3 27 ?_ (fun V hV => ?_) ?_
      rotate_left 1
      · (clear hV; go_simp; (try with_reducible rfl))
      try simp only [pa, List.set]
      refine wt 4 28 ?_ (fun V hV => ?_) ?_
      rotate_left 1
      · (obtain ⟨c3, a0, a2, a3, a4, a5, a6⟩ := SF.out V (HL0.out.trans hV); clear hV; go_simp; (try with_reducible rfl))
      try simp only [pa, List.set]
      refine wt 5 29 ?_ (fun V hV => ?_) ?_
      rotate_left 1
      · (obtain ⟨c3, a0, a2, a3, a4, a5, a6⟩ := SF.out V (HL0.out.trans hV); clear hV; go_simp; (try with_reducible rfl))
      try simp only [pa, List.set]
      refine wt 6 30 ?_ (fun V hV => ?_) ?_
      rotate_left 1
      · (clear hV; go_simp; (try with_reducible rfl))
      try simp only [pa, List.set]
      refine wt 7 31 ?_ (fun V hV => ?_) ?_
      rotate_left 1
      · (clear hV; go_simp; (try with_reducible rfl))
      try simp only [pa, List.set]
      refine wt 8 32 ?_ (fun V hV => ?_) ?_
      rotate_left 1
      · (obtain ⟨c3, a0, a2, a3, a4, a5, a6⟩ := SF.out V (HL0.out.trans hV); clear hV; go_simp; (try with_reducible rfl))
      try simp only [pa, List.set]
      refine wt 9 33 ?_ (fun V hV => ?_) ?_
      rotate_left 1
      · (clear hV; go_simp; (try with_reducible rfl))
      try simp only [pa, List.set]
      refine wt 10 34 ?_ (fun V hV => ?_) ?_
      rotate_left 1
      · (clear hV; go_simp; (try with_reducible rfl))
      try simp only [pa, List.set]
      refine wt 11 23 ?_ (fun V hV => ?_) ?_
      rotate_left 1
      · (clear hV; go_simp; (try with_reducible rfl))
      try simp only [pa, List.set]
      refine walk_exit (fun V hV => wpAnyJ_done (by kernel_rfl) ?_ _)
      have hV0 := HL0.out.trans hV
      refine calm_n ?_
      have HV0 := Lib.hid hV0
      have hb6 := HK6.out.below hV0 HK6.out.lt
      have hb7 := HK7.out.below hV0 HK7.out.lt
      have HB6 := Lib.hid hb6
      have HB7 := Lib.hid hb7
      have z6 : V.cell? ⟨w.heap.size + 1, 0, none⟩ = some (.int .i64 0) := (hb6.cell 0).trans rfl
      have z7 : V.cell? ⟨w.heap.size + 1 + 1, 0, none⟩ = some (.int .i64 0) := (hb7.cell 0).trans rfl
      have f6 : V.frozen? ⟨w.heap.size + 1, 0, none⟩ = false := hb6.frozen 0
      have f7 : V.frozen? ⟨w.heap.size + 1 + 1, 0, none⟩ = false := hb7.frozen 0
      clear hV hV0 hb6 hb7
      go_wp2_with fail
      have hx := cell_two V w.heap.size _ _ _ _ (.int .i64 0) (.int .i64 6) HB6.out HB7.out
      have hbz : Below w.heap.size w ((V.setCell ⟨w.heap.size + 1, 0, none⟩ (.int .i64 0)).setCell ⟨w.heap.size + 1 + 1, 0, none⟩ (.int .i64 6)) := ((HB1.out.trans ((show Below _ _ _ from HV0.out).mono HB1.out.size)).setCell (p := ⟨w.heap.size + 1, 0, none⟩) (by simp) _).setCell (p := ⟨w.heap.size + 1 + 1, 0, none⟩) (by simp; omega) _
      exact ⟨_, results_cc _ _ _ _ _ _ rfl rfl hx.1 hx.2, ad_full (by rw [HLN.out]; exact hbig) HLV.out (by rw [HLN.out, ← HFZ.out]; exact HRM.out) ⟨rfl, HA.out.below hbz, HD.out.below hbz, hbz⟩⟩
    have g5 : decide ((A.sectors : Int) - (A.used : Int) < (fz : Int)) = false := decide_eq_false (by omega)
    go_upto_region 6 with fail
    refine wp_mono (h := ?_) (calm_le _)
    have HL0 := Lib.hid (Later.refl W1)
    have ZF0 : Hid (∀ s, W1.heap.size ≤ s → W1.heap.size ≤ s) := Lib.hid (fun _ h => h)
    have ZS0 : Hid (∀ V, Later W1 V → (Later W1) V) := Lib.hid (fun _ h => h)
    refine walk_start 12 (S := Later W1) (T := Later W1) (by kernel_rfl) (fun r => W1.heap.size ≤ r) (fun _ h => h.size) ZS0.out (closed_later _) (Later.refl _).drew ?_
    refine wt 0 24 ?_ (fun V hV => ?_) ?_
    rotate_left 1
    · (clear hV; go_simp; (try with_reducible rfl))
    try simp only [pa, List.set]
    refine wt 1 25 ?_ (fun V hV => ?_) ?_
    rotate_left 1
    · (obtain ⟨c3, a0, a2, a3, a4, a5, a6⟩ := SF.out V (HL0.out.trans hV); clear hV; go_simp; (try with_reducible rfl))
    try simp only [pa, List.set]
    refine wt 2 26 ?_ (fun V hV => ?_) ?_
    rotate_left 1
    · (clear hV; go_simp; (try with_reducible rfl))
    try simp only [pa, List.set]
    refine wt 3 27 ?_ (fun V hV => ?_) ?_
    rotate_left 1
    · (clear hV; go_simp; (try with_reducible rfl))
    try simp only [pa, List.set]
    refine wt 4 28 ?_ (fun V hV => ?_) ?_
    rotate_left 1
    · (obtain ⟨c3, a0, a2, a3, a4, a5, a6⟩ := SF.out V (HL0.out.trans hV); clear hV; go_simp; (try with_reducible rfl))
    try simp only [pa, List.set]
    refine wt 5 29 ?_ (fun V hV => ?_) ?_
    rotate_left 1
    · (obtain ⟨c3, a0, a2, a3, a4, a5, a6⟩ := SF.out V (HL0.out.trans hV); clear hV; go_simp; (try with_reducible rfl))
    try simp only [pa, List.set]
    refine wt 6 30 ?_ (fun V hV => ?_) ?_
    rotate_left 1
    · (clear hV; go_simp; (try with_reducible rfl))
    try simp only [pa, List.set]
    refine wt 7 31 ?_ (fun V hV => ?_) ?_
    rotate_left 1
    · (clear hV; go_simp; (try with_reducible rfl))
    try simp only [pa, List.set]
    refine wt 8 32 ?_ (fun V hV => ?_) ?_
    rotate_left 1
    · (obtain ⟨c3, a0, a2, a3, a4, a5, a6⟩ := SF.out V (HL0.out.trans hV); clear hV; go_simp; (try with_reducible rfl))
    try simp only [pa, List.set]
    refine wt 9 33 ?_ (fun V hV => ?_) ?_
    rotate_left 1
    · (clear hV; go_simp; (try with_reducible rfl))
    try simp only [pa, List.set]
    refine wt 10 34 ?_ (fun V hV => ?_) ?_
    rotate_left 1
    · (clear hV; go_simp; (try with_reducible rfl))
    try simp only [pa, List.set]
    refine wt 11 23 ?_ (fun V hV => ?_) ?_
    rotate_left 1
    · (clear hV; go_simp; (try with_reducible rfl))
    try simp only [pa, List.set]
    refine walk_exit (fun V hV => wpAnyJ_done (by kernel_rfl) ?_ _)
    have hV0 := HL0.out.trans hV
    refine calm_n ?_
    obtain ⟨W2, rfl⟩ : ∃ W2 : World, W2 = V := ⟨_, rfl⟩
    have H2 := Lib.hid hV0
    have HRM := Lib.hid (Nat.le_of_not_lt hroom)
    clear hV hV0 hroom g5 es g0
    have CL : Hid (∀ V, Later W1 V → Calls Try.prog 59 #[.int .u8 (kind.toNat : Int), .int .u64 (A.life : Int), .int .i64 (A.ats.length : Int), .slice Ab n c] V fun e w' => ∃ v, e = .returned v ∧ Rows w' V.heap.size v (layB kind A.life A.ats.length bs (fz - 1)) ∧ Below V.heap.size V w') := Lib.hid fun V hV => by
      rw [HFZ.out]
      exact lay_any kind A.life A.ats.length (HBS.out.below (HB1.out.trans ((show Below _ _ _ from hV).mono HB1.out.size))) (by omega) (by have := HATS.out; have := HUS.out; have := HFIT.out; have := HL.out; omega)
    go_wp2_with fail
    go_upto_region 8 with fail
    refine wp_mono (h := ?_) (calm_le _)
    have HL0 := Lib.hid (Later.refl W2)
    have ZF0 : Hid (∀ s, W2.heap.size ≤ s → W2.heap.size ≤ s) := Lib.hid (fun _ h => h)
    have ZS0 : Hid (∀ V, Later W2 V → (Later W2) V) := Lib.hid (fun _ h => h)
    refine walk_start 13 (S := Later W2) (T := Later W2) (by kernel_rfl) (fun r => W2.heap.size ≤ r) (fun _ h => h.size) ZS0.out (closed_later _) (Later.refl _).drew ?_
    refine wt 0 35 ?_ (fun V hV => ?_) ?_
    rotate_left 1
    · (clear hV; go_simp; (try with_reducible rfl))
    try simp only [pa, List.set]
    refine wt 1 36 ?_ (fun V hV => ?_) ?_
    rotate_left 1
    · (obtain ⟨c3, a0, a2, a3, a4, a5, a6⟩ := SF.out V (H2.out.trans (HL0.out.trans hV)); clear hV; go_simp; (try with_reducible rfl))
    try simp only [pa, List.set]
    refine wt 2 37 ?_ (fun V hV => ?_) ?_
    rotate_left 1
    · (clear hV; go_simp; (try with_reducible rfl))
    try simp only [pa, List.set]
    refine wt 3 38 ?_ (fun V hV => ?_) ?_
    rotate_left 1
    · (clear hV; go_simp; (try with_reducible rfl))
    try simp only [pa, List.set]
    refine wt 4 39 ?_ (fun V hV => ?_) ?_
    rotate_left 1
    · (obtain ⟨c3, a0, a2, a3, a4, a5, a6⟩ := SF.out V (H2.out.trans (HL0.out.trans hV)); clear hV; go_simp; (try with_reducible rfl))
    try simp only [pa, List.set]
    refine wt 5 40 ?_ (fun V hV => ?_) ?_
    rotate_left 1
    · (obtain ⟨c3, a0, a2, a3, a4, a5, a6⟩ := SF.out V (H2.out.trans (HL0.out.trans hV)); clear hV; go_simp; (try with_reducible rfl))
    try simp only [pa, List.set]
    refine wt 6 41 ?_ (fun V hV => ?_) ?_
    rotate_left 1
    · (clear hV; go_simp; (try with_reducible rfl))
    try simp only [pa, List.set]
    refine wt 7 42 ?_ (fun V hV => ?_) ?_
    rotate_left 1
    · (clear hV; go_simp; (try with_reducible rfl))
    try simp only [pa, List.set]
    refine wt 8 43 ?_ (fun V hV => ?_) ?_
    rotate_left 1
    · (obtain ⟨c3, a0, a2, a3, a4, a5, a6⟩ := SF.out V (H2.out.trans (HL0.out.trans hV)); clear hV; go_simp; (try with_reducible rfl))
    try simp only [pa, List.set]
    refine wt 9 44 ?_ (fun V hV => ?_) ?_
    rotate_left 1
    · (clear hV; go_simp; (try with_reducible rfl))
    try simp only [pa, List.set]
    refine wt 10 45 ?_ (fun V hV => ?_) ?_
    rotate_left 1
    · (clear hV; go_simp; (try with_reducible rfl))
    try simp only [pa, List.set]
    refine walk_core 11 rfl (by kernel_rfl) (fun _ _ _ _ _ h => h) (fun V hV K hK => ?_)
    have hV0 := HL0.out.trans hV
    go_simp
    go_at_call 59
    go_must (refine (CL.out V (H2.out.trans hV0)).mono ?_)
    rintro e x11 ⟨v, rfl, hrows, hb⟩
    have HV11 := Lib.hid hV0
    have HROWS := Lib.hid (hrows.base (show w.heap.size ≤ V.heap.size from Nat.le_trans HB1.out.size (H2.out.trans hV0).size))
    clear hrows
    have HT11 := Lib.hid (hV.of hb)
    have HL1 := Lib.hid (hV0.of hb)
    have hsize := hb.size
    have hkeep := fun (r : Nat) (_ : True) (h : r < V.heap.size) => hb.block r h
    have ZF1 : Hid (∀ s, x11.heap.size ≤ s → _) := Lib.hid (fun s h => ZF0.out s (Nat.le_trans hV.size (Nat.le_trans hsize h)))
    refine hK.out _ _ (Later x11) (Later x11) _ (fun r _ h => hkeep r trivial h) (fun _ h _ => h) (fun V' h => (hV.of hb).trans h) (fun _ h => h) (fun V' h => ZF1.out _ h.size) (Later.refl _) (closed_later _) ?_
    clear hK K hV hsize hkeep hV0 hb
    try simp only [pa, List.set]
    refine wt 12 9 ?_ (fun V hV => ?_) ?_
    rotate_left 1
    · (clear hV; go_simp; (try with_reducible rfl))
    try simp only [pa, List.set]
    refine walk_exit (fun V hV => wpAnyJ_done (by kernel_rfl) ?_ _)
    have hV0 := HL1.out.trans hV
    refine calm_n ?_
    obtain ⟨W3, rfl⟩ : ∃ W3 : World, W3 = V := ⟨_, rfl⟩
    have H3 := Lib.hid (H2.out.trans hV0)
    obtain ⟨vs, hrows⟩ := HROWS.out.below hV
    have hlay : (layB kind A.life A.ats.length bs (fz - 1)).length = fz := by rw [layB_len]; omega
    obtain ⟨rows, hrw⟩ : ∃ rows, rows = layB kind A.life A.ats.length bs (fz - 1) := ⟨_, rfl⟩
    rw [← hrw] at hrows hlay
    have HLAY := Lib.hid hlay
    have HRW := Lib.hid hrw
    clear hV hV0 HROWS CL hrw
    obtain ⟨g, cap, hv⟩ : ∃ g cap, v = .slice (some ⟨g, 0, none⟩) fz cap := by
      rcases hrows.1.2 with ⟨_, h0⟩ | ⟨g, cap, cur, hv, _⟩
      · rw [hlay] at h0; omega
      · exact ⟨g, cap, by rw [hv, hlay]⟩
    subst hv
    have hgw : w.heap.size ≤ g ∧ g < W3.heap.size := hrows.1.lt g rfl
    have HR := Lib.hid hrows
    have HG := Lib.hid hgw
    clear hrows hlay hgw
    go_wp2_with fail
    refine (back_in _ _ _ _).mono ?_
    rintro e w' ⟨rfl, rfl⟩
    go_wp2_with fail
    obtain ⟨W4, hW4⟩ : ∃ W4, W4 = W3.alloc (.cells #[.slice (some ⟨g, 0, none⟩) fz cap] 62) := ⟨_, rfl⟩
    rw [← hW4]
    have hsz4 : W4.heap.size = W3.heap.size + 1 := by rw [hW4, World.size_alloc]
    have hb34 : Below W3.heap.size W3 W4 := by rw [hW4]; exact (Below.refl _ _).alloc (Nat.le_refl _) _
    have hbx : Blk W4 W3.heap.size 62 #[.slice (some ⟨g, 0, none⟩) fz cap] := by rw [hW4]; exact Blk.new _ _ _
    have HR4 := Lib.hid (HR.out.below hb34)
    have H4 := Lib.hid (H3.out.trans hb34)
    have HB4 := Lib.hid (HB1.out.trans ((show Below _ _ _ from H4.out).mono HB1.out.size))
    have HBX := Lib.hid hbx
    have HS4 := Lib.hid hsz4
    have hf17' : fz ≤ 4096 := by omega
    clear hW4 hb34 hbx hsz4 HR
    refine (wpIn_wide (n := 5)).1 ?_
    refine rangeFunc_mk (F := Fence.wide) (fun a' x => { tmps := (((a'.tmps.setIfInBounds 49 (.int .i64 (x.1 : Int))).setIfInBounds 50 (vs[x.1]?.getD (.slice none 0 0))).setIfInBounds 10 (.int .i64 (x.1 : Int))).setIfInBounds 11 (vs[x.1]?.getD (.slice none 0 0)), defers := [] }) rfl (by omega)
      (gf := 97) (lb := #[.pointer (some ⟨W3.heap.size, 0, none⟩)]) rfl trivial (enters_of Try.func97 (by kernel_rfl) rfl)
      (back_stops Fence.wide (5 - 1) trivial rfl (by omega) W3.heap.size g w.heap.size fz cap vs hf17' W4 HBX.out (by have := HR4.out.1; rw [HLAY.out] at this; exact this))
      (fun h k => ⟨k.1.trans h.1, k.2.trans h.2⟩)
      (fun W l o o' hl _ _ _ => ⟨World.putObj_heap_other (by have := HS4.out; omega), World.putObj_heap_other (by have := HS4.out; have := HG.out.2; omega)⟩)
      (Below.refl _ _) (fun _ => rfl)
      (fun pre W => (wrun (A.first + A.used) rows d pre).2 = 0 ∧ DiskAt W b a (wrun (A.first + A.used) rows d pre).1 ∧ DKept (DS b a) W4 W)
      (fun c pre W => c = .ret ∧ ∃ er, (wrun (A.first + A.used) rows d pre).2 = er ∧ er ≠ 0 ∧ DiskAt W b a (wrun (A.first + A.used) rows d pre).1 ∧ W.cell? ⟨w.heap.size + 1, 0, none⟩ = some (.int .i64 0) ∧ W.cell? ⟨w.heap.size + 1 + 1, 0, none⟩ = some (.int .i64 er) ∧ DKept (fun k => DS b a k ∨ w.heap.size ≤ k) W4 W)
      (fun s X Y row hs hg hr => ⟨hs.1, disk_grown hs.2.1 hg (fun r e => (hr r e).2), hs.2.2.grown hg (fun k e => .inr (hr k e).1)⟩)
      (fun cc s X Y row hs hg hr => by
        obtain ⟨h1, er, h2, h3, h4, h5, h6, h7⟩ := hs
        exact ⟨h1, er, h2, h3, disk_grown h4 hg (fun r e => (hr r e).2), cell_kept h5 hg (fun r e => (hr r e).2), cell_kept h6 hg (fun r e => (hr r e).2), h7.grown hg (fun k e => .inr (hr k e).1)⟩)
      ⟨rfl, HD.out.below HB4.out, DKept.refl⟩ ?assign ?body ?done ?stop
    case assign =>
      intro l x W K hK
      gi_wp2
      exact hK
    case body =>
      rintro l pre x W ⟨hok, hdk, hkp⟩ _
      have hx := x.2
      have HOK := Lib.hid hok
      have HDK := Lib.hid hdk
      have HKP := Lib.hid hkp
      have HNE := Lib.hid (HD.out.apart97 HKA.out)
      have HDS : Hid (∀ k, DS b a k → k < w.heap.size) := Lib.hid (by rintro k (rfl | rfl); exact HD.out.ltb; exact HD.out.lta)
      obtain ⟨Ax, nx, cx, hvx, hbx⟩ := row_bts (HR4.out.kept hkp HDS.out) x.1
      have hk3 : Blk W w.heap.size 28 #[.pointer (some ⟨p, 0, none⟩)] := hkp.blk (HK3.out.below H4.out HK3.out.lt) (fun h => by have := HDS.out _ h; omega)
      have hk6 : Blk W (w.heap.size + 1) 3 #[.int .i64 0] := hkp.blk (HK6.out.below H4.out HK6.out.lt) (fun h => by have := HDS.out _ h; omega)
      have hk7 : Blk W (w.heap.size + 1 + 1) 25 #[.int .i64 0] := hkp.blk (HK7.out.below H4.out HK7.out.lt) (fun h => by have := HDS.out _ h; omega)
      have hka := hkp.blk (HKA.out.below HB4.out HKA.out.lt) HNE.out
      have HW6 := Lib.hid hk6
      have HWA := Lib.hid hka
      have HW3 := Lib.hid hk3
      have HW7 := Lib.hid hk7
      have SX : Hid (∀ V, Later W V → V.cell? ⟨w.heap.size, 0, none⟩ = some (.pointer (some ⟨p, 0, none⟩)) ∧ V.cell? ⟨p, 0, none⟩ = some (.pointer (some ⟨b, 0, none⟩)) ∧ V.cell? ⟨p, 2, none⟩ = some (.int .i64 A.first) ∧ V.cell? ⟨p, 6, none⟩ = some (.int .i64 A.used)) := Lib.hid (fun V hV => by
        obtain ⟨x0, x1, x2, x3, x4, x5, x6⟩ := area_cells (hka.below hV hka.lt)
        exact ⟨((hk3.below hV hk3.lt).cell 0).trans rfl, x0, x2, x6⟩)
      have CW : Hid (∀ V, Later W V → Calls Try.prog 31 #[.pointer (some ⟨b, 0, none⟩), .int .i64 ((A.first : Int) + (A.used : Int) + (x.1 : Int)), .slice Ax nx cx] V fun e w' => e = .returned (.int .i64 (wrun (A.first + A.used) rows d (pre ++ [x])).2) ∧ DiskAt w' b a (wrun (A.first + A.used) rows d (pre ++ [x])).1 ∧ DKept (DS b a) V w') := Lib.hid (fun V hV => by
        rw [wrun_snoc HOK.out, Int.natCast_add, Int.natCast_add]
        exact write_any _ _ _ (HDK.out.below hV) (hbx.below hV))
      have e1 : IntKind.i64.wrap ((A.first : Int) + (A.used : Int)) = (A.first : Int) + (A.used : Int) := IntWalk.i64_in _ (by have := HFIT.out; have := HUS.out; have := HL.out; omega)
      have e2 : IntKind.i64.wrap ((A.first : Int) + (A.used : Int) + (x.1 : Int)) = (A.first : Int) + (A.used : Int) + (x.1 : Int) := IntWalk.i64_in _ (by have := HFIT.out; have := HUS.out; have := HL.out; omega)
      rw [hvx]
      generalize hxx : x.1 = xx at *
      obtain ⟨r, hr⟩ : ∃ r, r = wrun (A.first + A.used) rows d (pre ++ [x]) := ⟨_, rfl⟩
      rw [← hr] at CW
      have HRR := Lib.hid hr
      clear hok hdk hkp hbx hk3 hk6 hk7 hka hr hxx hvx
      simp only [List.setIfInBounds_toArray, List.set_cons_succ, List.set_cons_zero]
      refine wpIn_block ?_
      refine wpIn_seq ?_
      obtain ⟨SP, hSP⟩ : ∃ SP : World → Prop, ∀ V, SP V ↔ (V.cell? ⟨w.heap.size, 0, none⟩ = some (.pointer (some ⟨p, 0, none⟩)) ∧ V.cell? ⟨p, 0, none⟩ = some (.pointer (some ⟨b, 0, none⟩)) ∧ V.cell? ⟨p, 2, none⟩ = some (.int .i64 A.first) ∧ V.cell? ⟨p, 6, none⟩ = some (.int .i64 A.used)) := ⟨_, fun _ => Iff.rfl⟩
      have SK : Hid (∀ V x', Later W V → DKept (DS b a) V x' → ∀ V', Later x' V' → SP V') := Lib.hid (fun V x' hV hk V' hV' => (hSP V').2 (by
        have hq : ¬ DS b a w.heap.size := fun h => by have := HDS.out _ h; omega
        have k1 := hk.blk (HWA.out.below hV HWA.out.lt) HNE.out
        have k2 := hk.blk (HW3.out.below hV HW3.out.lt) hq
        obtain ⟨x0, x1, x2, x3, x4, x5, x6⟩ := area_cells (k1.below hV' k1.lt)
        exact ⟨((k2.below hV' k2.lt).cell 0).trans rfl, x0, x2, x6⟩))
      have HSP := Lib.hid hSP
      have HWW : Hid (w.heap.size ≤ W.heap.size) := Lib.hid (by have := HW6.out.lt; omega)
      clear hSP
      have HL0 := Lib.hid (Later.refl W)
      have ZF0 : Hid (∀ s, W.heap.size ≤ s → W.heap.size ≤ s) := Lib.hid (fun _ h => h)
      have ZS0 : Hid (∀ V, Later W V → (SP) V) := Lib.hid (fun V hV => (HSP.out V).2 (SX.out V hV))
      refine walk_startR 18 (S := SP) (T := Later W) (by kernel_rfl) (fun r => W.heap.size ≤ r) (fun _ h => h.size) ZS0.out (closed_later _) (Later.refl _).drew (by kernel_rfl) (by rintro ⟨_, _, h⟩; exact h) ?_
      refine wt 0 51 ?_ (fun V hV => ?_) ?_
      rotate_left 1
      · (obtain ⟨c3, a0, a2, a6⟩ := (HSP.out _).1 hV; clear hV; go_simp; (try with_reducible rfl))
      try simp only [pa, List.set]
      refine wt 1 52 ?_ (fun V hV => ?_) ?_
      rotate_left 1
      · (clear hV; go_simp; (try with_reducible rfl))
      try simp only [pa, List.set]
      refine wt 2 53 ?_ (fun V hV => ?_) ?_
      rotate_left 1
      · (clear hV; go_simp; (try with_reducible rfl))
      try simp only [pa, List.set]
      refine wt 3 54 ?_ (fun V hV => ?_) ?_
      rotate_left 1
      · (obtain ⟨c3, a0, a2, a6⟩ := (HSP.out _).1 hV; clear hV; go_simp; (try with_reducible rfl))
      try simp only [pa, List.set]
      refine wt 4 55 ?_ (fun V hV => ?_) ?_
      rotate_left 1
      · (obtain ⟨c3, a0, a2, a6⟩ := (HSP.out _).1 hV; clear hV; go_simp; (try with_reducible rfl))
      try simp only [pa, List.set]
      refine wt 5 56 ?_ (fun V hV => ?_) ?_
      rotate_left 1
      · (clear hV; go_simp; (try with_reducible rfl))
      try simp only [pa, List.set]
      refine wt 6 57 ?_ (fun V hV => ?_) ?_
      rotate_left 1
      · (clear hV; go_simp; (try with_reducible rfl))
      try simp only [pa, List.set]
      refine wt 7 58 ?_ (fun V hV => ?_) ?_
      rotate_left 1
      · (obtain ⟨c3, a0, a2, a6⟩ := (HSP.out _).1 hV; clear hV; go_simp; (try with_reducible rfl))
      try simp only [pa, List.set]
      refine wt 8 59 ?_ (fun V hV => ?_) ?_
      rotate_left 1
      · (obtain ⟨c3, a0, a2, a6⟩ := (HSP.out _).1 hV; clear hV; go_simp; (try with_reducible rfl))
      try simp only [pa, List.set]
      refine wt 9 60 ?_ (fun V hV => ?_) ?_
      rotate_left 1
      · (clear hV; go_simp; (try with_reducible rfl))
      try simp only [pa, List.set]
      refine wt 10 61 ?_ (fun V hV => ?_) ?_
      rotate_left 1
      · (clear hV; go_simp; (try with_reducible rfl))
      try simp only [pa, List.set]
      refine wt 11 62 ?_ (fun V hV => ?_) ?_
      rotate_left 1
      · (obtain ⟨c3, a0, a2, a6⟩ := (HSP.out _).1 hV; clear hV; go_simp; (try with_reducible rfl))
      try simp only [pa, List.set]
      refine wt 12 63 ?_ (fun V hV => ?_) ?_
      rotate_left 1
      · (clear hV; go_simp; (try with_reducible rfl))
      try simp only [pa, List.set]
      refine wt 13 64 ?_ (fun V hV => ?_) ?_
      rotate_left 1
      · (clear hV; go_simp; (try with_reducible rfl))
      try simp only [pa, List.set]
      refine wt 14 65 ?_ (fun V hV => ?_) ?_
      rotate_left 1
      · (clear hV; go_simp; (try with_reducible rfl))
      try simp only [pa, List.set]
      refine wt 15 66 ?_ (fun V hV => ?_) ?_
      rotate_left 1
      · (clear hV; go_simp; (try with_reducible rfl))
      try simp only [pa, List.set]
      refine walk_core 16 rfl (by kernel_rfl) (fun _ _ _ _ _ h => h) (fun V hV K hK => ?_)
      have hV0 := HL0.out.trans hV
      have hSV := ZS0.out V hV
      go_simp
      go_at_call 31
      go_must (refine (CW.out V hV0).mono ?_)
      rintro e x16 ⟨rfl, hd9, hk9⟩
      have HD9 := Lib.hid hd9
      have HK9 := Lib.hid ((DKept.of_below (S := DS b a) (show Below _ _ _ from hV0)).trans hk9 (fun _ _ h => h))
      have hsize := hk9.size
      have hkeep := fun (r : Nat) (hF : W.heap.size ≤ r) (hl : r < V.heap.size) => hk9.block r hl (fun hs => by have := HDS.out _ hs; have := HWW.out; omega)
      have hS := fun V' (h : Later x16 V') => SK.out V x16 hV0 hk9 V' h
      clear hd9 hk9
      have ZF1 : Hid (∀ s, x16.heap.size ≤ s → _) := Lib.hid (fun s h => ZF0.out s (Nat.le_trans hV.size (Nat.le_trans hsize h)))
      have ZS1 : Hid (∀ V, Later x16 V → (SP) V) := Lib.hid hS
      refine hK.out _ _ (SP) (Later x16) _ hkeep (fun _ h _ => h) (fun _ h => h) ZS1.out (fun V' h => ZF1.out _ h.size) (Later.refl _) (closed_later _) ?_
      clear hK K hV hsize hkeep hV0 hSV hS
      try simp only [pa, List.set]
      refine wt 17 12 ?_ (fun V hV => ?_) ?_
      rotate_left 1
      · (clear hV; go_simp; (try with_reducible rfl))
      try simp only [pa, List.set]
      refine walk_exit (fun V hV => wpAnyJ_done (by kernel_rfl) ?_ _)
      have HDV := Lib.hid (HD9.out.below hV)
      have HKV := Lib.hid (HK9.out.trans (DKept.of_below (S := DS b a) (show Below _ _ _ from hV)) (fun _ _ h => h))
      clear hV
      have hkf : KeepsFrom W4.heap.size W V := ⟨HKV.out.size, fun k o hB hk _ => (HKV.out.block k (Array.getElem?_eq_some_iff.1 hk).1 (fun hs => by have := HDS.out _ hs; have := HB4.out.size; omega)).trans hk⟩
      have HKF := Lib.hid hkf
      clear hkf
      have hkw : DKept (DS b a) W4 V := HKP.out.trans HKV.out (fun _ _ h => h)
      have HKW := Lib.hid hkw
      have h6 := HKV.out.blk HW6.out (fun h => by have := HDS.out _ h; omega)
      have h7 := HKV.out.blk HW7.out (fun h => by have := HDS.out _ h; omega)
      have HV6 := Lib.hid h6
      have HV7 := Lib.hid h7
      by_cases h0 : r.2 = 0
      · clear h6 h7 hkw
        rw [h0]
        gi_wp2
        exact ⟨HKF.out, ⟨HKV.out.block _ (by have := HKP.out.size; have := HS4.out; omega) (fun h => by have := HDS.out _ h; have := HB1.out.size; have := (show Below _ _ _ from H3.out).size; omega), HKV.out.block _ (by have := HKP.out.size; have := HS4.out; have := HG.out.2; omega) (fun h => by have := HDS.out _ h; have := HG.out.1; omega)⟩, by rw [← HRR.out]; exact h0, by rw [← HRR.out]; exact HDV.out, HKW.out⟩
      · have b0 : (r.2 != 0) = true := by rw [bne_iff_ne]; exact h0
        have z6 : V.cell? ⟨w.heap.size + 1, 0, none⟩ = some (.int .i64 0) := (h6.cell 0).trans rfl
        have z7 : V.cell? ⟨w.heap.size + 1 + 1, 0, none⟩ = some (.int .i64 0) := (h7.cell 0).trans rfl
        have f6 : V.frozen? ⟨w.heap.size + 1, 0, none⟩ = false := h6.frozen 0
        have f7 : V.frozen? ⟨w.heap.size + 1 + 1, 0, none⟩ = false := h7.frozen 0
        have H0 := Lib.hid h0
        clear h6 h7 hkw h0
        gi_wp2
        have hx2 := cell_two V w.heap.size _ _ _ _ (.int .i64 0) (.int .i64 r.2) HV6.out HV7.out
        refine ⟨HKF.out.trans (((KeepsOthers.setCell V ⟨w.heap.size + 1, 0, none⟩ (.int .i64 0)).trans (KeepsOthers.setCell _ ⟨w.heap.size + 1 + 1, 0, none⟩ (.int .i64 r.2))).from _), rfl, r.2, by rw [← HRR.out], H0.out, ?_, hx2.1, hx2.2, ?_⟩
        · rw [← HRR.out]
          exact disk_two HDV.out HV6.out HV7.out
        · exact (DKept.set (DKept.set ((DKept.refl (S := fun k => DS b a k ∨ w.heap.size ≤ k)).trans HKW.out (fun _ _ h => .inl h)) (.inr (by omega))) (.inr (by omega)))
    case done =>
      rintro D ys W hD rfl ⟨hok, hdk, hkp⟩ hK
      have HDS : Hid (∀ k, DS b a k → k < w.heap.size) := Lib.hid (by rintro k (rfl | rfl); exact HD.out.ltb; exact HD.out.lta)
      have hkw0 : DKept (DS b a) w W := (DKept.of_below (S := DS b a) HB4.out).trans hkp (fun _ _ h => h)
      have hk3 : Blk W w.heap.size 28 #[.pointer (some ⟨p, 0, none⟩)] := hkp.blk (HK3.out.below H4.out HK3.out.lt) (fun h => by have := HDS.out _ h; omega)
      have hk6 : Blk W (w.heap.size + 1) 3 #[.int .i64 0] := hkp.blk (HK6.out.below H4.out HK6.out.lt) (fun h => by have := HDS.out _ h; omega)
      have hk7 : Blk W (w.heap.size + 1 + 1) 25 #[.int .i64 0] := hkp.blk (HK7.out.below H4.out HK7.out.lt) (fun h => by have := HDS.out _ h; omega)
      have hka := hkw0.blk HKA.out (HD.out.apart97 HKA.out)
      have hoa := own_keep HOA.out (fun g' hg' => hkw0.block g' (HOA.out.lt g' hg').2 (HD.out.apartI HOA.out hg'))
      obtain ⟨-, -, -, -, -, c5, c6⟩ := area_cells hka
      have c3 : W.cell? ⟨w.heap.size, 0, none⟩ = some (.pointer (some ⟨p, 0, none⟩)) := (hk3.cell 0).trans rfl
      have HOK := Lib.hid hok
      have HDK := Lib.hid hdk
      have HKW0 := Lib.hid hkw0
      have HW3 := Lib.hid hk3
      have HW6 := Lib.hid hk6
      have HW7 := Lib.hid hk7
      have HWA := Lib.hid hka
      have HWO := Lib.hid hoa
      have HDD := Lib.hid hK
      clear hok hdk hkp hkw0 hk3 hk6 hk7 hka hoa hK
      go_wp2_with fail
      go_upto_region 16 with fail
      obtain ⟨i0, hi0, hz0, hz1, hz2⟩ := info_parts info_int
      have f5 := HWA.out.frozen 5
      have c5a : (W.alloc (.cells #[.int .i64 (A.used : Int)] 3)).cell? ⟨p, 5, none⟩ = some (.slice At A.ats.length cA) := (World.cell?_alloc_lt W _ ⟨p, 5, none⟩ (World.block_lt_of_cell? _ _ c5)).trans c5
      have c3a : (W.alloc (.cells #[.int .i64 (A.used : Int)] 3)).cell? ⟨w.heap.size, 0, none⟩ = some (.pointer (some ⟨p, 0, none⟩)) := (World.cell?_alloc_lt W _ ⟨w.heap.size, 0, none⟩ (World.block_lt_of_cell? _ _ c3)).trans c3
      have hBp := HA.out.1
      have hsz8 : B ≤ (W.drew.alloc (.cells #[natv A.used] 3)).heap.size := by have := HKW0.out.size; have := HP.out; simp; omega
      have hmax : A.ats.length ≤ 100000 := by have := HATS.out; have := HUS.out; have := HFIT.out; have := HL.out; omega
      refine region_then (fun a' v => { tmps := ((((((((((a'.tmps.setIfInBounds 75 (.pointer (some ⟨p, 0, none⟩))).setIfInBounds 76 (.pointer (some ⟨p, 0, none⟩))).setIfInBounds 77 (.pointer (some ⟨p, 0, none⟩))).setIfInBounds 78 (.pointer (some ⟨p, 5, none⟩))).setIfInBounds 79 (.slice At A.ats.length cA)).setIfInBounds 80 (.int .i64 (A.used : Int))).setIfInBounds 81 (.slice (some ⟨W.heap.size, 0, none⟩) 1 1)).setIfInBounds 82 v).setIfInBounds 83 (.pointer (some ⟨p, 0, none⟩))).setIfInBounds 84 (.pointer (some ⟨p, 5, none⟩))), defers := a'.defers })
        (fun v wx => ∃ A10 c10, v = .slice A10 (A.ats.length + 1) c10 ∧ Hid (Blk wx p 97 #[.pointer (some ⟨b, 0, none⟩), .int .i64 A.lives, .int .i64 A.first, .int .i64 A.sectors, .int .u64 A.life, .slice A10 (A.ats.length + 1) c10, .int .i64 A.used]) ∧ Hid (wx.ownsRow B 3 1 (.slice A10 (A.ats.length + 1) c10) (A.ats.length + 1) ((A.ats ++ [A.used]).map natv)) ∧ Hid (DKept (fun k => (Value.slice At A.ats.length cA).ownBlock = some k ∨ k = p) W wx) ∧ Hid (∀ k, (Value.slice A10 (A.ats.length + 1) c10).ownBlock = some k → k < w.heap.size ∨ W.heap.size ≤ k)) ?_ ?_
      ·
       go_region_law
        (first
          | (refine step_append_any (W.drew.alloc (.cells #[natv A.used] 3)) (by rfl) (.tmp 79) (.tmp 81) _ (by rfl) B 3 i0 _ 1 8 Try.underlying22 hi0 hz0 hz1 hz2 rfl (by omega) (.slice At A.ats.length cA) A.ats.length _ (by rfl) ((show W.drew.ownsRow B 3 1 (.slice At A.ats.length cA) A.ats.length (A.ats.map natv) from HWO.out).alloc _) (W.heap.size + 1) (some ⟨W.heap.size, 0, none⟩) 1 1 [natv A.used] (by rfl) (int_reads _ _ _) (by simp [Value.oneCell', natv]) (by unfold maxLen; omega) (by omega) hsz8 ?_; intro v10 w10 hown10 hg10 hat10
             obtain ⟨A10, c10, rfl⟩ := own_shape hown10
             have ho9 : (W.drew.alloc (.cells #[natv A.used] 3)).ownsRow B 3 1 (.slice At A.ats.length cA) A.ats.length (A.ats.map natv) := (show W.drew.ownsRow B 3 1 (.slice At A.ats.length cA) A.ats.length (A.ats.map natv) from HWO.out).alloc _
             have hk9 := HWA.out.drew.alloc (.cells #[natv A.used] 3)
             have hk10 := hk9.grown hg10 (fun e => own_blk_ne ho9 hk9 (by decide) e.symm)
             have hk39 := HW3.out.drew.alloc (.cells #[natv A.used] 3)
             have hk310 := hk39.grown hg10 (fun e => own_blk_ne ho9 hk39 (by decide) e.symm)
             have c5' : w10.cell? ⟨p, 5, none⟩ = some (.slice At A.ats.length cA) := (hk10.cell 5).trans rfl
             have c3' : w10.cell? ⟨w.heap.size, 0, none⟩ = some (.pointer (some ⟨p, 0, none⟩)) := (hk310.cell 0).trans rfl
             have f5' := hk10.frozen 5
             have HK10 := Lib.hid hk10
             have HO10 := Lib.hid hown10
             have HG10 := Lib.hid hg10
             have HAT10 := Lib.hid hat10
             clear hown10 hg10 hat10 ho9 hk9 hk10 hk39 hk310))
       all_goals
        refine calm_n ⟨rfl, .slice A10 (A.ats.length + 1) c10, by simp only [List.setIfInBounds_toArray, List.set_cons_succ, List.set_cons_zero], A10, c10, rfl, Lib.hid ?_, Lib.hid ?_, Lib.hid ?_, Lib.hid ?_⟩
        · have := HK10.out.set_ 5 (.slice A10 (A.ats.length + 1) c10)
          exact this
        · have := own_far (p := ⟨p, 5, none⟩) HO10.out (own_blk_ne HO10.out HK10.out (by decide)) (.slice A10 (A.ats.length + 1) c10)
          rw [List.map_append]
          exact this
        · exact DKept.set (((DKept.refl (S := fun k => (Value.slice At A.ats.length cA).ownBlock = some k ∨ k = p)).drew.alloc _).grown HG10.out (fun k e => .inl (.inl e))) (.inr rfl)
        · intro k hk
          rcases HAT10.out with e | e
          · exact .inl (HOA.out.lt k (e ▸ hk)).2
          · have e2 := e.symm.trans hk
            injection e2 with e2
            exact .inr (by rw [← e2, World.size_alloc]; exact Nat.le_succ _)
      rintro v w10 ⟨A10, c10, rfl, HK10, HO10, HX, HAT⟩
      simp only [List.setIfInBounds_toArray, List.set_cons_succ, List.set_cons_zero]
      clear c3 c5 c6 f5 c5a c3a
      have hlow : ∀ k, ((Value.slice At A.ats.length cA).ownBlock = some k ∨ k = p) → k < w.heap.size := by
        rintro k (h | rfl)
        · exact (HOA.out.lt k h).2
        · exact HP.out
      have HLOW := Lib.hid hlow
      have hk3 := HX.out.blk HW3.out (fun h => by have := hlow _ h; omega)
      have hk6 := HX.out.blk HW6.out (fun h => by have := hlow _ h; omega)
      have hk7 := HX.out.blk HW7.out (fun h => by have := hlow _ h; omega)
      have hdd : w10.heap[D]? = some (.deferred (some [])) := (HX.out.block D (Array.getElem?_eq_some_iff.1 HDD.out).1 (fun h => by have := hlow _ h; have := HB4.out.size; omega)).trans HDD.out
      have hdk : DiskAt w10 b a (wrun (A.first + A.used) rows d (downs fz hf17' fz)).1 := by
        have hn : ∀ k, DS b a k → ¬ ((Value.slice At A.ats.length cA).ownBlock = some k ∨ k = p) := by
          rintro k hk (h | rfl)
          · exact HD.out.apartI HOA.out h hk
          · exact HD.out.apart97 HKA.out hk
        refine HDK.out.keep (HX.out.block b HDK.out.ltb (hn b (.inl rfl))) (HX.out.block a HDK.out.lta (hn a (.inr rfl))) (fun g cs hg => HX.out.blk hg ?_)
        rintro (h | rfl)
        · exact own_blk_ne HWO.out hg (by decide) h
        · exact hg.ne_ HWA.out (by decide) rfl
      have hkk : DKept (fun k => DS b a k ∨ AB w p k) w w10 := ((DKept.refl (S := fun k => DS b a k ∨ AB w p k)).trans HKW0.out (fun _ _ h => .inl h)).trans HX.out (by
        rintro k hk (h | h)
        · obtain ⟨c', e, _⟩ := own_form HOA.out h
          exact .inr (.inr ⟨_, c', by rw [← e]; exact (HKA.out.cell 5).trans rfl⟩)
        · exact .inr (.inl h))
      obtain ⟨-, -, -, -, -, -, c6⟩ := area_cells HK10.out
      have c3 : w10.cell? ⟨w.heap.size, 0, none⟩ = some (.pointer (some ⟨p, 0, none⟩)) := (hk3.cell 0).trans rfl
      have fz6 := HK10.out.frozen 6
      have es : IntKind.i64.wrap ((A.used : Int) + (fz : Int)) = (A.used : Int) + (fz : Int) := IntWalk.i64_in _ (by have := HRM.out; have := HFIT.out; have := HL.out; omega)
      have HDK2 := Lib.hid hdk
      have HKK := Lib.hid hkk
      have HX6 := Lib.hid hk6
      have HX7 := Lib.hid hk7
      have HDD2 := Lib.hid hdd
      have z6 : w10.cell? ⟨w.heap.size + 1, 0, none⟩ = some (.int .i64 0) := (hk6.cell 0).trans rfl
      have z7 : w10.cell? ⟨w.heap.size + 1 + 1, 0, none⟩ = some (.int .i64 0) := (hk7.cell 0).trans rfl
      have f6 : w10.frozen? ⟨w.heap.size + 1, 0, none⟩ = false := hk6.frozen 0
      have f7 : w10.frozen? ⟨w.heap.size + 1 + 1, 0, none⟩ = false := hk7.frozen 0
      clear hk3 hk6 hk7 hdd hdk hkk hlow
      go_wp2_with fail
      have hX : DKept (fun k => k = p ∨ k = w.heap.size + 1 ∨ k = w.heap.size + 1 + 1) w10 (((w10.setCell ⟨p, 6, none⟩ (.int .i64 ((A.used : Int) + (fz : Int)))).setCell ⟨w.heap.size + 1, 0, none⟩ (.int .i64 (A.used : Int))).setCell ⟨w.heap.size + 1 + 1, 0, none⟩ (.int .i64 0)) :=
        DKept.set (DKept.set (DKept.set DKept.refl (.inl rfl)) (.inr (.inl rfl))) (.inr (.inr rfl))
      have hDlt := (Array.getElem?_eq_some_iff.1 HDD2.out).1
      have hDn : ¬ (D = p ∨ D = w.heap.size + 1 ∨ D = w.heap.size + 1 + 1) := by have := HP.out; have := HS4.out; have := HG.out; have := HB4.out.size; have := HKW0.out.size; have := HK7.out.lt; have := (show Below _ _ _ from H4.out).size; omega
      have hdX := (hX.block D hDlt hDn).trans HDD2.out
      have hxc := cell_two (w10.setCell ⟨p, 6, none⟩ (.int .i64 ((A.used : Int) + (fz : Int)))) w.heap.size _ _ _ _ (.int .i64 (A.used : Int)) (.int .i64 0) (HX6.out.far (p := ⟨p, 6, none⟩) (by show w.heap.size + 1 ≠ p; have := HP.out; omega) _) (HX7.out.far (p := ⟨p, 6, none⟩) (by show w.heap.size + 1 + 1 ≠ p; have := HP.out; omega) _)
      have hdk2 : DiskAt (w10.setCell ⟨p, 6, none⟩ (.int .i64 ((A.used : Int) + (fz : Int)))) b a (wrun (A.first + A.used) rows d (downs fz hf17' fz)).1 := by
        have hk1 : DKept (fun k => k = p) w10 (w10.setCell ⟨p, 6, none⟩ (.int .i64 ((A.used : Int) + (fz : Int)))) := DKept.set DKept.refl rfl
        refine HDK2.out.keep (hk1.block b HDK2.out.ltb ?_) (hk1.block a HDK2.out.lta ?_) (fun g cs hg => hk1.blk hg ?_)
        · exact fun e => HDK2.out.apart97 HK10.out (.inl e.symm)
        · exact fun e => HDK2.out.apart97 HK10.out (.inr e.symm)
        · exact fun e => hg.ne_ HK10.out (by decide) e
      have hdk3 := disk_two hdk2 (HX6.out.far (p := ⟨p, 6, none⟩) (by show w.heap.size + 1 ≠ p; have := HP.out; omega) _) (HX7.out.far (p := ⟨p, 6, none⟩) (by show w.heap.size + 1 + 1 ≠ p; have := HP.out; omega) _) (v1 := .int .i64 (A.used : Int)) (v2 := .int .i64 0)
      have hk3 : Blk (((w10.setCell ⟨p, 6, none⟩ (.int .i64 ((A.used : Int) + (fz : Int)))).setCell ⟨w.heap.size + 1, 0, none⟩ (.int .i64 (A.used : Int))).setCell ⟨w.heap.size + 1 + 1, 0, none⟩ (.int .i64 0)) p 97 #[.pointer (some ⟨b, 0, none⟩), .int .i64 A.lives, .int .i64 A.first, .int .i64 A.sectors, .int .u64 A.life, .slice A10 (A.ats.length + 1) c10, .int .i64 ((A.used : Int) + (fz : Int))] := by
        have h1 := HK10.out.set_ 6 (.int .i64 ((A.used : Int) + (fz : Int)))
        have h2 := h1.far (p := ⟨w.heap.size + 1, 0, none⟩) (by show p ≠ w.heap.size + 1; have := HP.out; omega) (.int .i64 (A.used : Int))
        exact h2.far (p := ⟨w.heap.size + 1 + 1, 0, none⟩) (by show p ≠ w.heap.size + 1 + 1; have := HP.out; omega) (.int .i64 0)
      have ho3 := own_keep HO10.out (w' := ((w10.setCell ⟨p, 6, none⟩ (.int .i64 ((A.used : Int) + (fz : Int)))).setCell ⟨w.heap.size + 1, 0, none⟩ (.int .i64 (A.used : Int))).setCell ⟨w.heap.size + 1 + 1, 0, none⟩ (.int .i64 0)) (fun g' hg' => hX.block g' (HO10.out.lt g' hg').2 (by
        rintro (e | e | e)
        · exact own_blk_ne HO10.out HK10.out (by decide) (e ▸ hg')
        · have := HAT.out g' hg'
          have := HW7.out.lt
          have := HKW0.out.size
          have := HB4.out.size
          have := (show Below _ _ _ from H4.out).size
          omega
        · exact own_blk_ne HO10.out HX7.out (by decide) (e ▸ hg')))
      have hkw : DKept (fun k => DS b a k ∨ AB w p k) w (((w10.setCell ⟨p, 6, none⟩ (.int .i64 ((A.used : Int) + (fz : Int)))).setCell ⟨w.heap.size + 1, 0, none⟩ (.int .i64 (A.used : Int))).setCell ⟨w.heap.size + 1 + 1, 0, none⟩ (.int .i64 0)) :=
        DKept.set_new (DKept.set_new (DKept.set HKK.out (.inr (.inl rfl))) (by omega)) (by omega)
      have HHX := Lib.hid hdX
      have HXC := Lib.hid hxc
      have HDK3 := Lib.hid hdk3
      have HK3' := Lib.hid hk3
      have HO3 := Lib.hid ho3
      have HKW3 := Lib.hid hkw
      clear hX hdX hxc hdk2 hdk3 hk3 ho3 hkw
      generalize (((w10.setCell ⟨p, 6, none⟩ (.int .i64 ((A.used : Int) + (fz : Int)))).setCell ⟨w.heap.size + 1, 0, none⟩ (.int .i64 (A.used : Int))).setCell ⟨w.heap.size + 1 + 1, 0, none⟩ (.int .i64 0)) = X at *
      refine ⟨by simp, .inl ⟨_, _, rfl, run_takeDeferred HHX.out, ?_⟩⟩
      have hg := grownBy_putObj' X D (.deferred none)
      have hr : ∀ r, some D = some r → ∃ o : Obj, X.heap[r]? = some o ∧ o.isCells = false := fun r e => by cases e; exact ⟨_, HHX.out, rfl⟩
      refine ⟨_, results_cc _ _ _ _ (A.used : Int) 0 rfl rfl (cell_kept HXC.out.1 hg hr) (cell_kept HXC.out.2 hg hr), ?_⟩
      have hlen : fsz bs.length = fz := by rw [HLN.out, HFZ.out]
      subst hlen
      refine ad_run (by rw [HLN.out]; exact hbig) HLV.out HRM.out hf17' (wrun (A.first + A.used) rows d (downs (fsz bs.length) hf17' (fsz bs.length))) (by rw [← HRW.out]) ?_ (disk_grown HDK3.out hg hr) ?_ (HKW3.out.grown hg (fun k e => .inr (by cases e; have := HB4.out.size; omega)))
      · rw [HOK.out, if_pos rfl]
      · rw [HOK.out, if_pos rfl]
        refine ⟨HA.out.1, A10, c10, ?_, ?_⟩
        · have := HK3'.out.grown hg (blk_row HK3'.out hr)
          rw [List.length_append]
          exact this
        · have := own_keep HO3.out (w' := X.putObj D (.deferred none)) (fun g' hg' => hg.block g' (HO3.out.lt g' hg').2 (by
            intro e
            have hlt := HO3.out.lt g' hg'
            rcases HO3.out.2 with ⟨e0, _⟩ | ⟨g1, cap1, cur1, e0, _, hh, _⟩
            · rw [e0] at hg'; cases hg'
            · rw [e0] at hg'
              injection hg' with hg'
              subst hg'
              exact blk_row (g := g1) hh hr e))
          rw [List.length_append]
          exact this
    case stop =>
      rintro D cc pre W hD ⟨k, hk, rfl⟩ ⟨rfl, er, h2, h3, h4, h5, h6, h7⟩ hK
      have hst := wrun_stop hk (by rw [h2]; exact h3)
      have HST := Lib.hid hst
      have HER := Lib.hid h2
      have HE0 := Lib.hid h3
      have HD4 := Lib.hid h4
      have HK7' := Lib.hid h7
      clear hst h2 h3 h4 h7
      gi_wp2
      refine ⟨by simp, .inl ⟨_, _, rfl, run_takeDeferred hK, ?_⟩⟩
      have hg := grownBy_putObj' W D (.deferred none)
      have hr : ∀ r, some D = some r → ∃ o : Obj, W.heap[r]? = some o ∧ o.isCells = false := fun r e => by cases e; exact ⟨_, hK, rfl⟩
      have hkw : DKept (fun k => DS b a k ∨ w.heap.size ≤ k) w (W.putObj D (.deferred none)) := ((DKept.of_below (S := fun k => DS b a k ∨ w.heap.size ≤ k) (HB4.out.mono (Nat.le_refl _))).trans HK7'.out (fun _ _ h => h)).grown hg (fun k e => .inl (.inr (by cases e; have := HB4.out.size; omega)))
      have hkw2 : DKept (DS b a) w (W.putObj D (.deferred none)) := ⟨hkw.os, hkw.tape, hkw.output, hkw.size, fun k hk hs => hkw.block k hk (fun h => h.elim hs (fun h => by omega))⟩
      have hka := hkw2.blk HKA.out (HD.out.apart97 HKA.out)
      have hoa := own_keep HOA.out (fun g' hg' => hkw2.block g' (HOA.out.lt g' hg').2 (HD.out.apartI HOA.out hg'))
      refine ⟨_, results_cc _ _ _ _ 0 er rfl rfl (cell_kept h5 hg hr) (cell_kept h6 hg hr), ?_⟩
      have hlen : fsz bs.length = fz := by rw [HLN.out, HFZ.out]
      subst hlen
      refine ad_run (by rw [HLN.out]; exact hbig) HLV.out HRM.out hf17' (wrun (A.first + A.used) rows d (downs (fsz bs.length) hf17' k)) (by rw [← HRW.out, HST.out]) ?_ (disk_grown HD4.out hg hr) ?_ ⟨hkw2.os, hkw2.tape, hkw2.output, hkw2.size, fun k hk hs => hkw2.block k hk (fun h => hs (.inl h))⟩
      · rw [HER.out, if_neg HE0.out]
      · rw [HER.out, if_neg HE0.out]
        exact ⟨HA.out.1, At, cA, hka, hoa⟩
  · have e1 : (A.lives != d.lives) = true := by rw [bne_iff_ne]; exact hlv
    rw [e1]
    go_wp2_with fail
    have hx := cell_two (W0.drewN m) w.heap.size _ _ _ _ (.int .i64 0) (.int .i64 4) HK6.out HK7.out
    have hbz : Below w.heap.size w (((W0.drewN m).setCell ⟨w.heap.size + 1, 0, none⟩ (.int .i64 0)).setCell ⟨w.heap.size + 1 + 1, 0, none⟩ (.int .i64 4)) := ((below_drewN HB0.out m).setCell (p := ⟨w.heap.size + 1, 0, none⟩) (by simp) _).setCell (p := ⟨w.heap.size + 1 + 1, 0, none⟩) (by simp; omega) _
    exact ⟨_, results_cc _ _ _ _ _ _ rfl rfl hx.1 hx.2, ad_off (by rw [HLN.out]; exact hbig) hlv ⟨rfl, HA.out.below hbz, HD.out.below hbz, hbz⟩⟩
end
end Go.Proofs.Ytlbikfamjogpnaa
end

/- A search by halves, in plain Lean: where it ends. Conditions: none. -/
section
namespace Go.Proofs.Ytlbikfamjogpnaa
/-- Where a search by halves ends. -/
def bs (p : Nat → Bool) (lo hi : Nat) : Nat :=
  if lo < hi then (if p ((lo + hi) / 2) then bs p lo ((lo + hi) / 2) else bs p ((lo + hi) / 2 + 1) hi) else lo
termination_by hi - lo
theorem bs_end (p : Nat → Bool) {lo hi : Nat} (h : ¬ lo < hi) : bs p lo hi = lo := by rw [bs, if_neg h]
theorem bs_yes (p : Nat → Bool) {lo hi : Nat} (h : lo < hi) (hp : p ((lo + hi) / 2) = true) : bs p lo hi = bs p lo ((lo + hi) / 2) := by rw [bs, if_pos h, if_pos hp]
theorem bs_no (p : Nat → Bool) {lo hi : Nat} (h : lo < hi) (hp : p ((lo + hi) / 2) = false) : bs p lo hi = bs p ((lo + hi) / 2 + 1) hi := by rw [bs, if_pos h, if_neg (by rw [hp]; simp)]

/-- It stops at the first place that says yes, if those behind it say yes too. -/
theorem bs_first (p : Nat → Bool) (k n : Nat) (h1 : ∀ i, i < k → p i = false) (h2 : ∀ i, k ≤ i → i < n → p i = true) (d : Nat) : ∀ lo hi, hi - lo ≤ d → lo ≤ k → k ≤ hi → hi ≤ n → bs p lo hi = k := by
  induction d with
  | zero => intro lo hi hd a b c; rw [bs_end p (by omega)]; omega
  | succ d ih =>
    intro lo hi hd a b c
    by_cases h : lo < hi
    · cases hp : p ((lo + hi) / 2) with
      | true =>
        rw [bs_yes p h hp]
        have : k ≤ (lo + hi) / 2 := by
          rcases Nat.lt_or_ge ((lo + hi) / 2) k with hk | hk
          · rw [h1 _ hk] at hp; cases hp
          · exact hk
        exact ih _ _ (by omega) a this (by omega)
      | false =>
        rw [bs_no p h hp]
        have : (lo + hi) / 2 < k := by
          rcases Nat.lt_or_ge ((lo + hi) / 2) k with hk | hk
          · exact hk
          · rw [h2 _ hk (by omega)] at hp; cases hp
        exact ih _ _ (by omega) (by omega) b c
    · rw [bs_end p h]; omega

end Go.Proofs.Ytlbikfamjogpnaa
end

/- slices.Clone and BinarySearch at []int; frame's All; Open that is refused. Conditions: the slices read; the disk lies in memory. -/
section
namespace Go.Proofs.Ytlbikfamjogpnaa
open Go.RowKit
set_option linter.unusedVariables false
set_option linter.unusedSimpArgs false
section
variable {w : World} {B p b a : Nat} {A : Ar}
set_option maxHeartbeats 400000 in
theorem clone_ints_some (ad : Addr) (n c : Nat) (xs : List Value) (w : World) (hr : Reads w w.heap.size 1 (some ad) n xs) (h1 : ∀ u ∈ xs, u.oneCell' = true) (hn : n ≤ 1000000) :
    Calls Try.prog 61 #[.slice (some ad) n c] w fun e w' => ∃ v, e = .returned v ∧ w'.ownsRow w.heap.size 3 1 v n xs ∧ Below w.heap.size w w' := by
  obtain ⟨i0, hi0, hz0, hz1, hz2⟩ := info_parts info_int
  have q := fun (w : World) => Lib.run_eql_slice_nil (P := Try.prog) w 22 3 (some ad) n c 0 0 Try.underlying22
  go_enter Try.func61, Try.ntmps61
  go_wp2_with (at_builtin; refine wpList_append_any _ rfl (.tmp 5) (.tmp 6) _ rfl w.heap.size 3 i0 _ 1 8 Try.underlying22 hi0 hz0 hz1 hz2 rfl (by omega) (.slice (some ⟨w.heap.size, 0, none⟩) 0 0) 0 [] rfl (World.ownsRow_lit w #[] 0 (Nat.le_refl _) (by unfold maxLen; omega) rfl) w.heap.size (some ad) n c xs rfl (hr.alloc (Nat.le_refl _) _) h1 (by simp only [maxLen]; omega) (by omega) (by simp) ?_; intro v1 w1 hown1 hg1 hat1)
  go_ret
  exact ⟨v1, rfl, by simpa using hown1, ((Below.refl _ _).alloc (Nat.le_refl _) _).grown hg1 (by simp) (fun k hk => by simp [Value.ownBlock] at hk; omega)⟩
theorem clone_ints_nil (w : World) :
    Calls Try.prog 61 #[.slice none 0 0] w fun e w' => e = .returned (.slice none 0 0) ∧ w = w' := by
  have q := fun (w : World) => Lib.run_eql_slice_nil (P := Try.prog) w 22 3 none 0 0 0 0 Try.underlying22
  go_enter Try.func61, Try.ntmps61
  go_wp2
  go_ret
  exact ⟨rfl, rfl⟩
theorem natv_one (l : List Nat) : ∀ u ∈ l.map natv, u.oneCell' = true := fun u hu => by
  obtain ⟨x, _, rfl⟩ := List.mem_map.1 hu
  rfl
theorem all_any (h : AreaAt w B p b A) (hn : A.ats.length ≤ 1000000) : Calls Try.prog 21 #[.pointer (some ⟨p, 0, none⟩)] w fun e w' => ∃ A9 c9, e = .returned (.slice A9 A.ats.length c9) ∧ w'.ownsRow w.heap.size 3 1 (.slice A9 A.ats.length c9) A.ats.length (A.ats.map natv) ∧ Below w.heap.size w w' := by
  obtain ⟨h0, At, c, hk, ho⟩ := h
  obtain ⟨-, -, -, -, -, c5, -⟩ := area_cells hk
  have CC : Calls Try.prog 61 #[.slice At A.ats.length c] w fun e w' => ∃ v, e = .returned v ∧ w'.ownsRow w.heap.size 3 1 v A.ats.length (A.ats.map natv) ∧ Below w.heap.size w w' := by
    cases At with
    | none =>
      have hnil : A.ats.length = 0 ∧ c = 0 := by
        rcases ho.2 with ⟨e, _⟩ | ⟨g, cap, cur, e, _⟩
        · injection e with _ e1 e2; exact ⟨e1, e2⟩
        · cases e
      rw [hnil.1, hnil.2, List.eq_nil_of_length_eq_zero hnil.1]
      refine (clone_ints_nil w).mono ?_
      rintro e w' ⟨rfl, rfl⟩
      exact ⟨_, rfl, own_nil_row _ _ _, Below.refl _ _⟩
    | some ad => exact clone_ints_some ad A.ats.length c _ w (Reads.of_own ho) (natv_one _) hn
  generalize A.ats.length = n at *
  generalize A.ats.map natv = xs at *
  clear hk ho
  go_enter Try.func21, Try.ntmps21
  go_wp2_with fail
  refine CC.mono ?_
  rintro e w' ⟨v, rfl, ho, hb⟩
  obtain ⟨A9, c9, rfl⟩ := own_shape ho
  go_wp2_with fail
  go_ret
  exact ⟨A9, c9, rfl, ho, hb⟩

theorem open_arg (d : Dk) (first sectors : Int) (hd : DiskAt w b a d) (h1 : -9223372036854775808 ≤ sectors) (h2 : sectors ≤ 9223372036854775807) (h3 : first ≤ 9223372036854775807) (hno : first < 0 ∨ sectors < 1 ∨ d.S.length < first ∨ d.S.length - first < sectors) :
    Calls Try.prog 15 #[.pointer (some ⟨b, 0, none⟩), .int .i64 first, .int .i64 sectors] w fun e w' => e = .returned (.tuple #[.pointer none, .int .i64 1]) ∧ w = w' := by
  have hl := (disk_len hd).1
  have CS := Lib.hid (sectors_any d hd)
  clear hd
  have fin : ∀ (c1 c2 c3 c4 : Bool), decide (first < 0) = c1 → decide (sectors < 1) = c2 → decide ((d.S.length : Int) < first) = c3 → True := fun _ _ _ _ _ _ _ => trivial
  clear fin
  by_cases g1 : first < 0
  · have g1' : decide (first < 0) = true := decide_eq_true g1
    clear hno
    go_enter Try.func15, Try.ntmps15
    go_wp2_with fail
    exact bodyPost_ret (v := .tuple #[.pointer none, .int .i64 1]) (by simp [results, Try.results15, go_sem]) rfl ⟨rfl, rfl⟩
  have g1' : decide (first < 0) = false := decide_eq_false g1
  by_cases g2 : sectors < 1
  · have g2' : decide (sectors < 1) = true := decide_eq_true g2
    clear hno
    go_enter Try.func15, Try.ntmps15
    go_wp2_with fail
    exact bodyPost_ret (v := .tuple #[.pointer none, .int .i64 1]) (by simp [results, Try.results15, go_sem]) rfl ⟨rfl, rfl⟩
  have g2' : decide (sectors < 1) = false := decide_eq_false g2
  by_cases g3 : (d.S.length : Int) < first
  · have g3' : decide ((d.S.length : Int) < first) = true := decide_eq_true g3
    clear hno
    go_enter Try.func15, Try.ntmps15
    go_wp2_with (go_at_call 54; refine CS.out.mono ?_; rintro e w' ⟨rfl, rfl⟩)
    exact bodyPost_ret (v := .tuple #[.pointer none, .int .i64 1]) (by simp [results, Try.results15, go_sem]) rfl ⟨rfl, rfl⟩
  have g3' : decide ((d.S.length : Int) < first) = false := decide_eq_false g3
  have g4 : (d.S.length : Int) - first < sectors := by omega
  have g4' : decide ((d.S.length : Int) - first < sectors) = true := decide_eq_true g4
  have e1 : IntKind.i64.wrap ((d.S.length : Int) - first) = (d.S.length : Int) - first := IntWalk.i64_in _ (by omega)
  clear hno
  go_enter Try.func15, Try.ntmps15
  go_wp2_with (go_at_call 54; refine CS.out.mono ?_; rintro e w' ⟨rfl, rfl⟩)
  exact bodyPost_ret (v := .tuple #[.pointer none, .int .i64 1]) (by simp [results, Try.results15, go_sem]) rfl ⟨rfl, rfl⟩
theorem open_off (d : Dk) (first sectors : Nat) (hd : DiskAt w b a d) (h1 : 1 ≤ sectors) (hfit : first + sectors ≤ d.S.length) (hoff : d.off = true) :
    Calls Try.prog 15 #[.pointer (some ⟨b, 0, none⟩), .int .i64 (first : Int), .int .i64 (sectors : Int)] w fun e w' => e = .returned (.tuple #[.pointer none, .int .i64 4]) ∧ w = w' := by
  have hl := (disk_len hd).1
  have CS := Lib.hid (sectors_any d hd)
  have CP : Hid (Calls Try.prog 55 #[.pointer (some ⟨b, 0, none⟩)] w fun e w' => e = .returned (.bool false) ∧ w = w') := Lib.hid (by have := power_any d hd; rw [hoff] at this; exact this)
  have g1 : decide ((first : Int) < 0) = false := decide_eq_false (by omega)
  have g2 : decide ((sectors : Int) < 1) = false := decide_eq_false (by omega)
  have g3 : decide ((d.S.length : Int) < (first : Int)) = false := decide_eq_false (by omega)
  have e1 : IntKind.i64.wrap ((d.S.length : Int) - (first : Int)) = (d.S.length : Int) - (first : Int) := IntWalk.i64_in _ (by omega)
  have g4 : decide ((d.S.length : Int) - (first : Int) < (sectors : Int)) = false := decide_eq_false (by omega)
  clear hd
  go_enter Try.func15, Try.ntmps15
  go_wp2_with (first
    | (go_at_call 54; refine CS.out.mono ?_; rintro e w' ⟨rfl, rfl⟩)
    | (go_at_call 55; refine CP.out.mono ?_; rintro e w' ⟨rfl, rfl⟩))
  exact bodyPost_ret (v := .tuple #[.pointer none, .int .i64 4]) (by simp [results, Try.results15, go_sem]) rfl ⟨rfl, rfl⟩
end
end Go.Proofs.Ytlbikfamjogpnaa
end

/- slices.BinarySearch at []int. Conditions: the slice reads; it is not long. -/
section
namespace Go.Proofs.Ytlbikfamjogpnaa
open Go.RowKit
set_option linter.unusedVariables false
set_option linter.unusedSimpArgs false
theorem nan_any (x : Int) (w : World) : Calls Try.prog 112 #[.int .i64 x] w fun e w' => e = .returned (.bool false) ∧ w = w' := by
  go_enter Try.func112, Try.ntmps112
  go_wp2
  go_ret
  exact ⟨by simp, rfl⟩
theorem snan_any (x : Int) (w : World) : Calls Try.prog 99 #[.int .i64 x] w fun e w' => e = .returned (.bool false) ∧ w = w' := by
  go_enter Try.func99, Try.ntmps99
  go_wp2
  go_ret
  exact ⟨by simp, rfl⟩
theorem less_any (x y : Int) (w : World) : Calls Try.prog 98 #[.int .i64 x, .int .i64 y] w fun e w' => e = .returned (.bool (decide (x < y))) ∧ w = w' := by
  go_enter Try.func98, Try.ntmps98
  go_wp2_with (go_at_call 112; refine (nan_any _ _).mono ?_; rintro e w' ⟨rfl, rfl⟩)
  go_ret
  exact ⟨by simp, rfl⟩
/-- Where a number stands in numbers that rise, or would. -/
def posN (L : List Nat) (t : Int) : Nat := bs (fun k => !decide ((L.getD k 0 : Int) < t)) 0 L.length
def hasN (L : List Nat) (t : Int) : Bool := decide (posN L t < L.length) && ((L.getD (posN L t) 0 : Int) == t)
section
variable {w : World}
theorem nat_at {A : Option Addr} {L : List Nat} (hr : Reads w w.heap.size 1 A L.length (L.map natv)) {i : Nat} (hi : i < L.length) : ∃ ad, A = some ad ∧ w.cell? (ad.add i) = some (.int .i64 (L.getD i 0 : Int)) := by
  obtain ⟨ad, u, rfl, _, hu, hc⟩ := hr.at_ hi
  rw [List.getElem?_map, List.getElem?_eq_getElem hi] at hu
  obtain rfl : natv L[i] = u := by simpa using hu
  refine ⟨ad, rfl, ?_⟩
  rw [hc, List.getD_eq_getElem?_getD, List.getElem?_eq_getElem hi]
  rfl
set_option maxRecDepth 100000 in
set_option maxHeartbeats 4000000 in
theorem bsearch_any (A : Option Addr) (c : Nat) (L : List Nat) (t : Int) (hr : Reads w w.heap.size 1 A L.length (L.map natv)) (hn : L.length ≤ 1000000) :
    Calls Try.prog 62 #[.slice A L.length c, .int .i64 t] w fun e w' => e = .returned (.tuple #[.int .i64 (posN L t : Nat), .bool (hasN L t)]) ∧ w = w' := by
  have HRD := Lib.hid hr
  obtain ⟨r, hrp⟩ : ∃ r, r = posN L t := ⟨_, rfl⟩
  have hh : hasN L t = (decide (r < L.length) && ((L.getD r 0 : Int) == t)) := by rw [hrp]; rfl
  have HH := Lib.hid hh
  have HRP : Hid (r = bs (fun k => !decide ((L.getD k 0 : Int) < t)) 0 L.length) := Lib.hid hrp
  rw [← hrp]
  clear hr hh hrp
  go_enter Try.func62, Try.ntmps62
  go_wp2_with fail
  obtain ⟨w0, hw0⟩ : ∃ w0 : World, w0 = w := ⟨_, rfl⟩
  go_loopg [7, 8] L.length (fun kx s7 s8 wr => ∃ (lo hi : Nat), s7 = .int .i64 lo ∧ s8 = .int .i64 hi ∧ lo ≤ hi ∧ hi ≤ L.length ∧ hi - lo ≤ kx ∧ wr = w ∧ Hid (r = bs (fun k => !decide ((L.getD k 0 : Int) < t)) lo hi))
  case atStart => exact ⟨0, L.length, rfl, rfl, Nat.zero_le _, Nat.le_refl _, by omega, rfl, HRP⟩
  case round =>
    obtain ⟨lo, hi, rfl, rfl, hlh, hin, hg, rfl, I⟩ := hrel
    clear hw0
    by_cases hlt : lo < hi
    · obtain ⟨ad, rfl, hc⟩ := nat_at HRD.out (i := (lo + hi) / 2) (by omega)
      have i0 : (0 : Int) ≤ (((lo + hi) / 2 : Nat) : Int) := by omega
      have i1 : (((lo + hi) / 2 : Nat) : Int) < (L.length : Int) := by omega
      have e2 : ((lo : Int) + (hi : Int)) / 2 = (((lo + hi) / 2 : Nat) : Int) := by omega
      cases hp : decide ((L.getD ((lo + hi) / 2) 0 : Int) < t) with
      | true =>
        have I2 : Hid (r = bs (fun k => !decide ((L.getD k 0 : Int) < t)) ((lo + hi) / 2 + 1) hi) := Lib.hid (by rw [I.out, bs_no _ hlt (by simp only [hp]; rfl)])
        generalize (L.getD ((lo + hi) / 2) 0 : Int) = z at *
        have hm2 : lo ≤ (lo + hi) / 2 ∧ (lo + hi) / 2 < hi := by omega
        generalize hmd : (lo + hi) / 2 = md at *
        clear I
        go_wp2_with (go_at_call 98; refine (less_any _ _ _).mono ?_; rintro e w' ⟨rfl, rfl⟩)
        go_roundg (hi - (md + 1))
        case measure => omega
        case rel => exact ⟨md + 1, hi, by go_num, rfl, by omega, hin, Nat.le_refl _, rfl, I2⟩
      | false =>
        have I2 : Hid (r = bs (fun k => !decide ((L.getD k 0 : Int) < t)) lo ((lo + hi) / 2)) := Lib.hid (by rw [I.out, bs_yes _ hlt (by simp only [hp]; rfl)])
        generalize (L.getD ((lo + hi) / 2) 0 : Int) = z at *
        have hm2 : lo ≤ (lo + hi) / 2 ∧ (lo + hi) / 2 < hi := by omega
        generalize hmd : (lo + hi) / 2 = md at *
        clear I
        go_wp2_with (go_at_call 98; refine (less_any _ _ _).mono ?_; rintro e w' ⟨rfl, rfl⟩)
        go_roundg (md - lo)
        case measure => omega
        case rel => exact ⟨lo, md, rfl, by go_num, by omega, by omega, Nat.le_refl _, rfl, I2⟩
    · obtain rfl : hi = lo := by omega
      have e : r = hi := by rw [I.out, bs_end _ (Nat.lt_irrefl _)]
      subst e
      clear I HRP hlt
      by_cases hrl : r < L.length
      · obtain ⟨ad, rfl, hc⟩ := nat_at HRD.out hrl
        have i0 : (0 : Int) ≤ (r : Int) := by omega
        have i1 : (r : Int) < (L.length : Int) := by omega
        have h9 : Hid (hasN L t = ((L.getD r 0 : Int) == t)) := Lib.hid (by rw [HH.out, decide_eq_true hrl, Bool.true_and])
        generalize (L.getD r 0 : Int) = z at *
        cases hzt : (z == t) with
        | true =>
          go_wp2_with (go_at_call 99; refine (snan_any _ _).mono ?_; rintro e w' ⟨rfl, rfl⟩)
          have h8 := h9.out
          exact bodyPost_ret (v := .tuple #[.int .i64 (r : Int), .bool true]) (by simp [results, Try.results62, go_sem]) rfl ⟨by rw [h8, hzt], rfl⟩
        | false =>
          go_wp2_with (go_at_call 99; refine (snan_any _ _).mono ?_; rintro e w' ⟨rfl, rfl⟩)
          have h8 := h9.out
          exact bodyPost_ret (v := .tuple #[.int .i64 (r : Int), .bool false]) (by simp [results, Try.results62, go_sem]) rfl ⟨by rw [h8, hzt], rfl⟩
      · have g1 : decide ((r : Int) < (L.length : Int)) = false := decide_eq_false (by omega)
        have h9 : Hid (hasN L t = false) := Lib.hid (by rw [HH.out, decide_eq_false hrl, Bool.false_and])
        go_wp2_with fail
        have h8 := h9.out
        exact bodyPost_ret (v := .tuple #[.int .i64 (r : Int), .bool false]) (by simp [results, Try.results62, go_sem]) rfl ⟨by rw [h8], rfl⟩
end
end Go.Proofs.Ytlbikfamjogpnaa
end

/- frame's Get. Conditions: an area and its disk lie in memory; the area lies on the disk. -/
section
namespace Go.Proofs.Ytlbikfamjogpnaa
open Go.RowKit
set_option linter.unusedVariables false
set_option linter.unusedSimpArgs false

/-- What Get answers of a frame that may stand there. -/
def Gets (w : World) (life n : Nat) (e : Ending) (w' : World) : Option Fr → Prop
  | none => e = .returned (.tuple #[.int .u8 0, .slice none 0 0, .int .i64 3])
  | some x => if x.life = life ∧ x.n = n then ∃ g c, e = .returned (.tuple #[.int .u8 (x.kind.toNat : Int), .slice (some ⟨g, 0, none⟩) x.b.length c, .int .i64 0]) ∧ w.heap.size ≤ g ∧ Bts w' (some ⟨g, 0, none⟩) x.b.length c x.b else e = .returned (.tuple #[.int .u8 0, .slice none 0 0, .int .i64 3])
def GetPost (w : World) (A : Ar) (d : Dk) (t : Int) (e : Ending) (w' : World) : Prop :=
  Below w.heap.size w w' ∧ if hasN A.ats t = false then e = .returned (.tuple #[.int .u8 0, .slice none 0 0, .int .i64 5]) else if A.lives ≠ d.lives ∨ d.off = true then e = .returned (.tuple #[.int .u8 0, .slice none 0 0, .int .i64 4]) else Gets w A.life (posN A.ats t) e w' (frameAt d.S A.first A.sectors t.toNat)
theorem has_mem {L : List Nat} {t : Int} (h : hasN L t = true) : ∃ k : Nat, t = (k : Int) ∧ k ∈ L ∧ posN L t < L.length := by
  unfold hasN at h
  simp only [Bool.and_eq_true, decide_eq_true_eq, beq_iff_eq] at h
  refine ⟨L.getD (posN L t) 0, h.2.symm, ?_, h.1⟩
  rw [List.getD_eq_getElem?_getD, List.getElem?_eq_getElem h.1]
  exact List.getElem_mem _
theorem gp_none {w w' : World} {A : Ar} {d : Dk} {t : Int} (h : hasN A.ats t = false) (hb : Below w.heap.size w w') : GetPost w A d t (.returned (.tuple #[.int .u8 0, .slice none 0 0, .int .i64 5])) w' := ⟨hb, by rw [if_pos h]⟩
theorem gp_off {w w' : World} {A : Ar} {d : Dk} {t : Int} (h : hasN A.ats t = true) (h2 : A.lives ≠ d.lives ∨ d.off = true) (hb : Below w.heap.size w w') : GetPost w A d t (.returned (.tuple #[.int .u8 0, .slice none 0 0, .int .i64 4])) w' := ⟨hb, by rw [if_neg (by simp [h]), if_pos h2]⟩
theorem gp_on {w w' : World} {A : Ar} {d : Dk} {k pos : Nat} {e : Ending} (h : hasN A.ats (k : Int) = true) (h2 : A.lives = d.lives) (h3 : d.off = false) (hp : posN A.ats (k : Int) = pos) (hb : Below w.heap.size w w') (hg : Gets w A.life pos e w' (frameAt d.S A.first A.sectors k)) : GetPost w A d (k : Int) e w' := ⟨hb, by
  rw [if_neg (by simp [h]), if_neg (by rintro (h4 | h4); exact h4 h2; rw [h3] at h4; cases h4), hp]
  exact hg⟩
theorem below_dn (w : World) (m : Nat) : Below w.heap.size w (w.drewN m) := ⟨rfl, rfl, rfl, Nat.le_refl _, fun _ _ => rfl⟩
section
variable {w : World} {B p b a : Nat} {A : Ar}
set_option maxRecDepth 100000 in
set_option maxHeartbeats 8000000 in
theorem get_any (d : Dk) (t : Int) (h : AreaAt w B p b A) (hd : DiskAt w b a d) (hfit : A.first + A.sectors ≤ d.S.length) (hat : ∀ x ∈ A.ats, x < A.sectors) (hn : A.ats.length ≤ 1000000) :
    Calls Try.prog 23 #[.pointer (some ⟨p, 0, none⟩), .int .i64 t] w (GetPost w A d t) := by
  have hx := h
  obtain ⟨h0, At, c, hk, ho⟩ := h
  obtain ⟨-, -, -, -, -, c5, -⟩ := area_cells hk
  have CB := bsearch_any At c A.ats t (Reads.of_own ho) hn
  have HL := Lib.hid (disk_len hd)
  have HAT := Lib.hid hat
  have HFIT := Lib.hid hfit
  have HA := Lib.hid hx
  have HD := Lib.hid hd
  have HN := Lib.hid hn
  have CD := done_any d hx hd
  have HH : Hid (hasN A.ats t = true → ∃ k : Nat, t = (k : Int) ∧ k ∈ A.ats ∧ posN A.ats t < A.ats.length) := Lib.hid has_mem
  obtain ⟨has, hhas⟩ : ∃ x, x = hasN A.ats t := ⟨_, rfl⟩
  obtain ⟨pos, hpp⟩ : ∃ x, x = posN A.ats t := ⟨_, rfl⟩
  rw [← hhas, ← hpp] at CB HH
  have HHAS := Lib.hid hhas
  have HPP := Lib.hid hpp
  have CB := Lib.hid CB
  have CD := Lib.hid CD
  clear hk ho hx hd hat hfit hn h0 hhas hpp
  go_enter Try.func23, Try.ntmps23
  go_upto_block 0 with (go_at_call 62; refine CB.out.mono ?_; rintro e w' ⟨rfl, rfl⟩)
  clear CB c5
  cases has with
  | false =>
    go_wp2_with fail
    exact bodyPost_ret (v := .tuple #[.int .u8 0, .slice none 0 0, .int .i64 5]) (by simp [results, Try.results23, go_sem]) rfl (gp_none HHAS.out.symm (Below.refl _ _))
  | true =>
  obtain ⟨k, rfl, hmem, hpos⟩ := HH.out rfl
  have hks := HAT.out k hmem
  have hl9 := HL.out.1
  have HKS := Lib.hid hks
  have HPO := Lib.hid hpos
  clear HH hmem
  go_wp2_with fail
  refine CD.out.mono ?_
  rintro e w2 ⟨rfl, m, rfl⟩
  have hb2 : Below w.heap.size w (w.drewN m) := below_dn w m
  obtain ⟨w2, hw2⟩ : ∃ w2, w2 = w.drewN m := ⟨_, rfl⟩
  have hs2 : w2.heap.size = w.heap.size := by rw [hw2]; rfl
  have HS2 := Lib.hid hs2
  rw [← hw2] at hb2 ⊢
  have HB2 := Lib.hid hb2
  have HA2 := Lib.hid (HA.out.below hb2)
  have HD2 := Lib.hid (HD.out.below hb2)
  clear hw2 CD hb2 hs2
  by_cases hlv : A.lives = d.lives
  · have g1 : (A.lives != d.lives) = false := by rw [hlv]; simp
    have HLV := Lib.hid hlv
    clear hlv
    cases hoff : d.off with
    | true =>
      have HOFF := Lib.hid hoff
      have CR := read_off d k HA2.out HD2.out hks HFIT.out hoff
      have CR := Lib.hid CR
      clear hks
      go_wp2_with fail
      refine CR.out.mono ?_
      rintro e w5 ⟨rfl, hb5⟩
      have HZ : Hid (Below w.heap.size w (w5.alloc (.cells #[.int .u8 0, .int .u64 0, .int .u64 0, .slice none 0 0] 99))) := Lib.hid ((HB2.out.trans (hb5.mono (Nat.le_of_eq HS2.out.symm))).alloc (by have := hb5.size; have := HS2.out; omega) _)
      go_upto_region 7 with fail
      obtain ⟨W6, hW6⟩ : ∃ W6, W6 = w5.alloc (.cells #[.int .u8 0, .int .u64 0, .int .u64 0, .slice none 0 0] 99) := ⟨_, rfl⟩
      rw [← hW6] at HZ ⊢
      clear hW6
      have HL0 := Lib.hid (Later.refl W6)
      have ZF0 : Hid (∀ s, W6.heap.size ≤ s → W6.heap.size ≤ s) := Lib.hid (fun _ h => h)
      have ZS0 : Hid (∀ V, Later W6 V → (Later W6) V) := Lib.hid (fun _ h => h)
      refine walk_start 22 (S := Later W6) (T := Later W6) (by kernel_rfl) (fun r => W6.heap.size ≤ r) (fun _ h => h.size) ZS0.out (closed_later _) (Later.refl _).drew ?_
      refine wt 0 32 ?_ (fun V hV => ?_) ?_
      rotate_left 1
      · (clear hV; go_simp; (try with_reducible rfl))
      try simp only [pa, List.set]
      refine wt 1 33 ?_ (fun V hV => ?_) ?_
      rotate_left 1
      · (clear hV; go_simp; (try with_reducible rfl))
      try simp only [pa, List.set]
      refine wt 2 34 ?_ (fun V hV => ?_) ?_
      rotate_left 1
      · (clear hV; go_simp; (try with_reducible rfl))
      try simp only [pa, List.set]
      refine wt 3 35 ?_ (fun V hV => ?_) ?_
      rotate_left 1
      · (clear hV; go_simp; (try with_reducible rfl))
      try simp only [pa, List.set]
      refine wt 4 36 ?_ (fun V hV => ?_) ?_
      rotate_left 1
      · (clear hV; go_simp; (try with_reducible rfl))
      try simp only [pa, List.set]
      refine wt 5 37 ?_ (fun V hV => ?_) ?_
      rotate_left 1
      · (clear hV; go_simp; (try with_reducible rfl))
      try simp only [pa, List.set]
      refine ws 6 38 ?_
      try simp only [pa, List.set]
      refine ws 7 39 ?_
      try simp only [pa, List.set]
      refine ws 8 40 ?_
      try simp only [pa, List.set]
      refine ws 9 41 ?_
      try simp only [pa, List.set]
      refine ws 10 42 ?_
      try simp only [pa, List.set]
      refine ws 11 43 ?_
      try simp only [pa, List.set]
      refine ws 12 44 ?_
      try simp only [pa, List.set]
      refine ws 13 45 ?_
      try simp only [pa, List.set]
      refine ws 14 46 ?_
      try simp only [pa, List.set]
      refine ws 15 47 ?_
      try simp only [pa, List.set]
      refine ws 16 48 ?_
      try simp only [pa, List.set]
      refine ws 17 49 ?_
      try simp only [pa, List.set]
      refine ws 18 50 ?_
      try simp only [pa, List.set]
      refine ws 19 51 ?_
      try simp only [pa, List.set]
      refine wt 20 52 ?_ (fun V hV => ?_) ?_
      rotate_left 1
      · (clear hV; go_simp; (try with_reducible rfl))
      try simp only [pa, List.set]
      refine wt 21 53 ?_ (fun V hV => ?_) ?_
      rotate_left 1
      · (clear hV; go_simp; (try with_reducible rfl))
      try simp only [pa, List.set]
      refine walk_exit (fun V hV => wpAnyJ_done (by kernel_rfl) ?_ _)
      have hV0 := HL0.out.trans hV
      have HZZ : Hid (Below w.heap.size w V) := Lib.hid (HZ.out.trans ((show Below _ _ _ from hV0).mono HZ.out.size))
      clear hV hV0
      go_wp2_with fail
      exact bodyPost_ret (v := .tuple #[.int .u8 0, .slice none 0 0, .int .i64 4]) (by simp [results, Try.results23, go_sem]) rfl (gp_off HHAS.out.symm (.inr HOFF.out) HZZ.out)
    | false =>
      have HOFF := Lib.hid hoff
      have CR := read_on d k HA2.out HD2.out HFIT.out hoff
      have CR := Lib.hid CR
      have hlen : A.ats.length ≤ 1000000 := HN.out
      have ew : IntKind.u64.wrap (pos : Int) = (pos : Int) := by rw [IntKind.wrap_u64]; omega
      clear hks
      go_wp2_with fail
      refine CR.out.mono ?_
      intro e w5 hst
      rcases hst with ⟨hfn, rfl, hb5⟩ | ⟨x, g, cb, hfx, rfl, hg, hbt, hb5⟩
      · have HFN := Lib.hid hfn
        have HZ : Hid (Below w.heap.size w (w5.alloc (.cells #[.int .u8 0, .int .u64 0, .int .u64 0, .slice none 0 0] 99))) := Lib.hid ((HB2.out.trans (hb5.mono (Nat.le_of_eq HS2.out.symm))).alloc (by have := hb5.size; have := HS2.out; omega) _)
        clear hfn
        go_upto_region 7 with fail
        obtain ⟨W6, hW6⟩ : ∃ W6, W6 = w5.alloc (.cells #[.int .u8 0, .int .u64 0, .int .u64 0, .slice none 0 0] 99) := ⟨_, rfl⟩
        rw [← hW6] at HZ ⊢
        clear hW6
        have HL0 := Lib.hid (Later.refl W6)
        have ZF0 : Hid (∀ s, W6.heap.size ≤ s → W6.heap.size ≤ s) := Lib.hid (fun _ h => h)
        have ZS0 : Hid (∀ V, Later W6 V → (Later W6) V) := Lib.hid (fun _ h => h)
        refine walk_start 22 (S := Later W6) (T := Later W6) (by kernel_rfl) (fun r => W6.heap.size ≤ r) (fun _ h => h.size) ZS0.out (closed_later _) (Later.refl _).drew ?_
        refine wt 0 32 ?_ (fun V hV => ?_) ?_
        rotate_left 1
        · (clear hV; go_simp; (try with_reducible rfl))
        try simp only [pa, List.set]
        refine wt 1 33 ?_ (fun V hV => ?_) ?_
        rotate_left 1
        · (clear hV; go_simp; (try with_reducible rfl))
        try simp only [pa, List.set]
        refine wt 2 34 ?_ (fun V hV => ?_) ?_
        rotate_left 1
        · (clear hV; go_simp; (try with_reducible rfl))
        try simp only [pa, List.set]
        refine ws 3 35 ?_
        try simp only [pa, List.set]
        refine ws 4 36 ?_
        try simp only [pa, List.set]
        refine ws 5 37 ?_
        try simp only [pa, List.set]
        refine ws 6 38 ?_
        try simp only [pa, List.set]
        refine ws 7 39 ?_
        try simp only [pa, List.set]
        refine ws 8 40 ?_
        try simp only [pa, List.set]
        refine ws 9 41 ?_
        try simp only [pa, List.set]
        refine ws 10 42 ?_
        try simp only [pa, List.set]
        refine ws 11 43 ?_
        try simp only [pa, List.set]
        refine ws 12 44 ?_
        try simp only [pa, List.set]
        refine ws 13 45 ?_
        try simp only [pa, List.set]
        refine ws 14 46 ?_
        try simp only [pa, List.set]
        refine ws 15 47 ?_
        try simp only [pa, List.set]
        refine ws 16 48 ?_
        try simp only [pa, List.set]
        refine ws 17 49 ?_
        try simp only [pa, List.set]
        refine ws 18 50 ?_
        try simp only [pa, List.set]
        refine ws 19 51 ?_
        try simp only [pa, List.set]
        refine ws 20 52 ?_
        try simp only [pa, List.set]
        refine wt 21 53 ?_ (fun V hV => ?_) ?_
        rotate_left 1
        · (clear hV; go_simp; (try with_reducible rfl))
        try simp only [pa, List.set]
        refine walk_exit (fun V hV => wpAnyJ_done (by kernel_rfl) ?_ _)
        have hV0 := HL0.out.trans hV
        have HZZ : Hid (Below w.heap.size w V) := Lib.hid (HZ.out.trans ((show Below _ _ _ from hV0).mono HZ.out.size))
        clear hV hV0
        go_wp2_with fail
        have hfn := HFN.out
        refine bodyPost_ret (v := .tuple #[.int .u8 0, .slice none 0 0, .int .i64 3]) (by simp [results, Try.results23, go_sem]) rfl (gp_on HHAS.out.symm HLV.out HOFF.out HPP.out.symm HZZ.out ?_)
        rw [hfn]
        rfl
      · have HFX := Lib.hid hfx
        obtain ⟨W6, hW6⟩ : ∃ W6, W6 = w5.alloc (.cells #[.int .u8 (x.kind.toNat : Int), .int .u64 (x.life : Int), .int .u64 (x.n : Int), .slice (some ⟨g, 0, none⟩) x.b.length cb] 99) := ⟨_, rfl⟩
        have hb6 : Below w2.heap.size w2 W6 := by rw [hW6]; exact hb5.alloc hb5.size _
        have hk6 : Blk W6 w5.heap.size 99 #[.int .u8 (x.kind.toNat : Int), .int .u64 (x.life : Int), .int .u64 (x.n : Int), .slice (some ⟨g, 0, none⟩) x.b.length cb] := by rw [hW6]; exact Blk.new _ _ _
        have HBT6 := Lib.hid (hbt.below (show Below w5.heap.size w5 W6 by rw [hW6]; exact (Below.refl _ _).alloc (Nat.le_refl _) _))
        have HZ : Hid (Below w.heap.size w W6) := Lib.hid (HB2.out.trans (hb6.mono (Nat.le_of_eq HS2.out.symm)))
        have HGG : Hid (w.heap.size ≤ g) := Lib.hid (by have := HS2.out; omega)
        obtain ⟨_, At6, c6', hka, _⟩ := HA2.out.below hb6
        have SF : Hid (∀ V, Later W6 V → V.cell? ⟨p, 4, none⟩ = some (.int .u64 A.life) ∧ V.cell? ⟨w5.heap.size, 0, none⟩ = some (.int .u8 (x.kind.toNat : Int)) ∧ V.cell? ⟨w5.heap.size, 1, none⟩ = some (.int .u64 (x.life : Int)) ∧ V.cell? ⟨w5.heap.size, 2, none⟩ = some (.int .u64 (x.n : Int)) ∧ V.cell? ⟨w5.heap.size, 3, none⟩ = some (.slice (some ⟨g, 0, none⟩) x.b.length cb)) := Lib.hid fun V hV => by
          obtain ⟨-, -, -, -, c4, -, -⟩ := area_cells (hka.below hV hka.lt)
          have hf := hk6.below hV hk6.lt
          exact ⟨c4, (hf.cell 0).trans rfl, (hf.cell 1).trans rfl, (hf.cell 2).trans rfl, (hf.cell 3).trans rfl⟩
        have HW6 := Lib.hid hW6
        clear hW6 hb6 hk6 hka hfx hg hbt hb5
        go_upto_region 7 with fail
        rw [← HW6.out]
        clear HW6
        by_cases h1 : x.life = A.life
        · have g2 : ((x.life : Int) != (A.life : Int)) = false := by rw [h1]; simp
          have HX1 := Lib.hid h1
          by_cases h2 : x.n = pos
          · have g3 : ((x.n : Int) != (pos : Int)) = false := by rw [h2]; simp
            have HX2 := Lib.hid h2
            clear h1 h2
            have HL0 := Lib.hid (Later.refl W6)
            have ZF0 : Hid (∀ s, W6.heap.size ≤ s → W6.heap.size ≤ s) := Lib.hid (fun _ h => h)
            have ZS0 : Hid (∀ V, Later W6 V → (Later W6) V) := Lib.hid (fun _ h => h)
            refine walk_start 22 (S := Later W6) (T := Later W6) (by kernel_rfl) (fun r => W6.heap.size ≤ r) (fun _ h => h.size) ZS0.out (closed_later _) (Later.refl _).drew ?_
            refine wt 0 32 ?_ (fun V hV => ?_) ?_
            rotate_left 1
            · (clear hV; go_simp; (try with_reducible rfl))
            try simp only [pa, List.set]
            refine wt 1 33 ?_ (fun V hV => ?_) ?_
            rotate_left 1
            · (clear hV; go_simp; (try with_reducible rfl))
            try simp only [pa, List.set]
            refine wt 2 34 ?_ (fun V hV => ?_) ?_
            rotate_left 1
            · (clear hV; go_simp; (try with_reducible rfl))
            try simp only [pa, List.set]
            refine wt 3 35 ?_ (fun V hV => ?_) ?_
            rotate_left 1
            · (clear hV; go_simp; (try with_reducible rfl))
            try simp only [pa, List.set]
            refine wt 4 36 ?_ (fun V hV => ?_) ?_
            rotate_left 1
            · (clear hV; go_simp; (try with_reducible rfl))
            try simp only [pa, List.set]
            refine wt 5 37 ?_ (fun V hV => ?_) ?_
            rotate_left 1
            · (clear hV; go_simp; (try with_reducible rfl))
            try simp only [pa, List.set]
            refine wt 6 38 ?_ (fun V hV => ?_) ?_
            rotate_left 1
            · (clear hV; go_simp; (try with_reducible rfl))
            try simp only [pa, List.set]
            refine wt 7 39 ?_ (fun V hV => ?_) ?_
            rotate_left 1
            · (obtain ⟨c4, f0, f1, f2, f3⟩ := SF.out V (HL0.out.trans hV); clear hV; go_simp; (try with_reducible rfl))
            try simp only [pa, List.set]
            refine wt 8 40 ?_ (fun V hV => ?_) ?_
            rotate_left 1
            · (clear hV; go_simp; (try with_reducible rfl))
            try simp only [pa, List.set]
            refine wt 9 41 ?_ (fun V hV => ?_) ?_
            rotate_left 1
            · (clear hV; go_simp; (try with_reducible rfl))
            try simp only [pa, List.set]
            refine wt 10 42 ?_ (fun V hV => ?_) ?_
            rotate_left 1
            · (clear hV; go_simp; (try with_reducible rfl))
            try simp only [pa, List.set]
            refine wt 11 43 ?_ (fun V hV => ?_) ?_
            rotate_left 1
            · (obtain ⟨c4, f0, f1, f2, f3⟩ := SF.out V (HL0.out.trans hV); clear hV; go_simp; (try with_reducible rfl))
            try simp only [pa, List.set]
            refine wt 12 44 ?_ (fun V hV => ?_) ?_
            rotate_left 1
            · (clear hV; go_simp; (try with_reducible rfl))
            try simp only [pa, List.set]
            refine wt 13 45 ?_ (fun V hV => ?_) ?_
            rotate_left 1
            · (clear hV; go_simp; (try with_reducible rfl))
            try simp only [pa, List.set]
            refine wt 14 46 ?_ (fun V hV => ?_) ?_
            rotate_left 1
            · (clear hV; go_simp; (try with_reducible rfl))
            try simp only [pa, List.set]
            refine wt 15 47 ?_ (fun V hV => ?_) ?_
            rotate_left 1
            · (obtain ⟨c4, f0, f1, f2, f3⟩ := SF.out V (HL0.out.trans hV); clear hV; go_simp; (try with_reducible rfl))
            try simp only [pa, List.set]
            refine wt 16 48 ?_ (fun V hV => ?_) ?_
            rotate_left 1
            · (clear hV; go_simp; (try with_reducible rfl))
            try simp only [pa, List.set]
            refine wt 17 49 ?_ (fun V hV => ?_) ?_
            rotate_left 1
            · (obtain ⟨c4, f0, f1, f2, f3⟩ := SF.out V (HL0.out.trans hV); clear hV; go_simp; (try with_reducible rfl))
            try simp only [pa, List.set]
            refine wt 18 50 ?_ (fun V hV => ?_) ?_
            rotate_left 1
            · (clear hV; go_simp; (try with_reducible rfl))
            try simp only [pa, List.set]
            refine wt 19 51 ?_ (fun V hV => ?_) ?_
            rotate_left 1
            · (clear hV; go_simp; (try with_reducible rfl))
            try simp only [pa, List.set]
            refine wt 20 52 ?_ (fun V hV => ?_) ?_
            rotate_left 1
            · (clear hV; go_simp; (try with_reducible rfl))
            try simp only [pa, List.set]
            refine wt 21 53 ?_ (fun V hV => ?_) ?_
            rotate_left 1
            · (clear hV; go_simp; (try with_reducible rfl))
            try simp only [pa, List.set]
            refine walk_exit (fun V hV => wpAnyJ_done (by kernel_rfl) ?_ _)
            have hV0 := HL0.out.trans hV
            obtain ⟨w8, rfl⟩ : ∃ w8 : World, w8 = V := ⟨_, rfl⟩
            have H8 := Lib.hid hV0
            clear hV hV0
            go_upto_region 11 with fail
            have HL0 := Lib.hid (Later.refl w8)
            have ZF0 : Hid (∀ s, w8.heap.size ≤ s → w8.heap.size ≤ s) := Lib.hid (fun _ h => h)
            have ZS0 : Hid (∀ V, Later w8 V → (Later w8) V) := Lib.hid (fun _ h => h)
            refine walk_start 7 (S := Later w8) (T := Later w8) (by kernel_rfl) (fun r => w8.heap.size ≤ r) (fun _ h => h.size) ZS0.out (closed_later _) (Later.refl _).drew ?_
            refine wt 0 57 ?_ (fun V hV => ?_) ?_
            rotate_left 1
            · (clear hV; go_simp; (try with_reducible rfl))
            try simp only [pa, List.set]
            refine wt 1 58 ?_ (fun V hV => ?_) ?_
            rotate_left 1
            · (obtain ⟨c4, f0, f1, f2, f3⟩ := SF.out V (H8.out.trans (HL0.out.trans hV)); clear hV; go_simp; (try with_reducible rfl))
            try simp only [pa, List.set]
            refine wt 2 59 ?_ (fun V hV => ?_) ?_
            rotate_left 1
            · (clear hV; go_simp; (try with_reducible rfl))
            try simp only [pa, List.set]
            refine wt 3 60 ?_ (fun V hV => ?_) ?_
            rotate_left 1
            · (obtain ⟨c4, f0, f1, f2, f3⟩ := SF.out V (H8.out.trans (HL0.out.trans hV)); clear hV; go_simp; (try with_reducible rfl))
            try simp only [pa, List.set]
            refine wt 4 4 ?_ (fun V hV => ?_) ?_
            rotate_left 1
            · (clear hV; go_simp; (try with_reducible rfl))
            try simp only [pa, List.set]
            refine wt 5 5 ?_ (fun V hV => ?_) ?_
            rotate_left 1
            · (clear hV; go_simp; (try with_reducible rfl))
            try simp only [pa, List.set]
            refine wt 6 6 ?_ (fun V hV => ?_) ?_
            rotate_left 1
            · (clear hV; go_simp; (try with_reducible rfl))
            try simp only [pa, List.set]
            refine walk_exit (fun V hV => wpAnyJ_done (by kernel_rfl) ?_ _)
            have hV0 := HL0.out.trans hV
            have HZZ : Hid (Below w.heap.size w V) := Lib.hid (HZ.out.trans ((show Below _ _ _ from H8.out.trans hV0).mono HZ.out.size))
            have HBB := Lib.hid (HBT6.out.below (H8.out.trans hV0))
            clear hV hV0
            go_wp2_with fail
            refine bodyPost_ret (v := .tuple #[.int .u8 (x.kind.toNat : Int), .slice (some ⟨g, 0, none⟩) x.b.length cb, .int .i64 0]) (by simp [results, Try.results23, go_sem]) rfl (gp_on HHAS.out.symm HLV.out HOFF.out HPP.out.symm HZZ.out ?_)
            have hgl := HLV.out
            have hfx := HFX.out
            rw [hfx]
            show if _ then _ else _
            rw [if_pos ⟨HX1.out, HX2.out⟩]
            exact ⟨g, cb, rfl, HGG.out, HBB.out⟩
          · have g3 : ((x.n : Int) != (pos : Int)) = true := by rw [bne_iff_ne]; omega
            have HX2 := Lib.hid h2
            clear h1 h2
            have HL0 := Lib.hid (Later.refl W6)
            have ZF0 : Hid (∀ s, W6.heap.size ≤ s → W6.heap.size ≤ s) := Lib.hid (fun _ h => h)
            have ZS0 : Hid (∀ V, Later W6 V → (Later W6) V) := Lib.hid (fun _ h => h)
            refine walk_start 22 (S := Later W6) (T := Later W6) (by kernel_rfl) (fun r => W6.heap.size ≤ r) (fun _ h => h.size) ZS0.out (closed_later _) (Later.refl _).drew ?_
            refine wt 0 32 ?_ (fun V hV => ?_) ?_
            rotate_left 1
            · (clear hV; go_simp; (try with_reducible rfl))
            try simp only [pa, List.set]
            refine wt 1 33 ?_ (fun V hV => ?_) ?_
            rotate_left 1
            · (clear hV; go_simp; (try with_reducible rfl))
            try simp only [pa, List.set]
            refine wt 2 34 ?_ (fun V hV => ?_) ?_
            rotate_left 1
            · (clear hV; go_simp; (try with_reducible rfl))
            try simp only [pa, List.set]
            refine wt 3 35 ?_ (fun V hV => ?_) ?_
            rotate_left 1
            · (clear hV; go_simp; (try with_reducible rfl))
            try simp only [pa, List.set]
            refine wt 4 36 ?_ (fun V hV => ?_) ?_
            rotate_left 1
            · (clear hV; go_simp; (try with_reducible rfl))
            try simp only [pa, List.set]
            refine wt 5 37 ?_ (fun V hV => ?_) ?_
            rotate_left 1
            · (clear hV; go_simp; (try with_reducible rfl))
            try simp only [pa, List.set]
            refine wt 6 38 ?_ (fun V hV => ?_) ?_
            rotate_left 1
            · (clear hV; go_simp; (try with_reducible rfl))
            try simp only [pa, List.set]
            refine wt 7 39 ?_ (fun V hV => ?_) ?_
            rotate_left 1
            · (obtain ⟨c4, f0, f1, f2, f3⟩ := SF.out V (HL0.out.trans hV); clear hV; go_simp; (try with_reducible rfl))
            try simp only [pa, List.set]
            refine wt 8 40 ?_ (fun V hV => ?_) ?_
            rotate_left 1
            · (clear hV; go_simp; (try with_reducible rfl))
            try simp only [pa, List.set]
            refine wt 9 41 ?_ (fun V hV => ?_) ?_
            rotate_left 1
            · (clear hV; go_simp; (try with_reducible rfl))
            try simp only [pa, List.set]
            refine wt 10 42 ?_ (fun V hV => ?_) ?_
            rotate_left 1
            · (clear hV; go_simp; (try with_reducible rfl))
            try simp only [pa, List.set]
            refine wt 11 43 ?_ (fun V hV => ?_) ?_
            rotate_left 1
            · (obtain ⟨c4, f0, f1, f2, f3⟩ := SF.out V (HL0.out.trans hV); clear hV; go_simp; (try with_reducible rfl))
            try simp only [pa, List.set]
            refine wt 12 44 ?_ (fun V hV => ?_) ?_
            rotate_left 1
            · (clear hV; go_simp; (try with_reducible rfl))
            try simp only [pa, List.set]
            refine wt 13 45 ?_ (fun V hV => ?_) ?_
            rotate_left 1
            · (clear hV; go_simp; (try with_reducible rfl))
            try simp only [pa, List.set]
            refine wt 14 46 ?_ (fun V hV => ?_) ?_
            rotate_left 1
            · (clear hV; go_simp; (try with_reducible rfl))
            try simp only [pa, List.set]
            refine wt 15 47 ?_ (fun V hV => ?_) ?_
            rotate_left 1
            · (obtain ⟨c4, f0, f1, f2, f3⟩ := SF.out V (HL0.out.trans hV); clear hV; go_simp; (try with_reducible rfl))
            try simp only [pa, List.set]
            refine wt 16 48 ?_ (fun V hV => ?_) ?_
            rotate_left 1
            · (clear hV; go_simp; (try with_reducible rfl))
            try simp only [pa, List.set]
            refine wt 17 49 ?_ (fun V hV => ?_) ?_
            rotate_left 1
            · (obtain ⟨c4, f0, f1, f2, f3⟩ := SF.out V (HL0.out.trans hV); clear hV; go_simp; (try with_reducible rfl))
            try simp only [pa, List.set]
            refine wt 18 50 ?_ (fun V hV => ?_) ?_
            rotate_left 1
            · (clear hV; go_simp; (try with_reducible rfl))
            try simp only [pa, List.set]
            refine wt 19 51 ?_ (fun V hV => ?_) ?_
            rotate_left 1
            · (clear hV; go_simp; (try with_reducible rfl))
            try simp only [pa, List.set]
            refine wt 20 52 ?_ (fun V hV => ?_) ?_
            rotate_left 1
            · (clear hV; go_simp; (try with_reducible rfl))
            try simp only [pa, List.set]
            refine wt 21 53 ?_ (fun V hV => ?_) ?_
            rotate_left 1
            · (clear hV; go_simp; (try with_reducible rfl))
            try simp only [pa, List.set]
            refine walk_exit (fun V hV => wpAnyJ_done (by kernel_rfl) ?_ _)
            have hV0 := HL0.out.trans hV
            have HZZ : Hid (Below w.heap.size w V) := Lib.hid (HZ.out.trans ((show Below _ _ _ from hV0).mono HZ.out.size))
            clear hV hV0
            go_wp2_with fail
            refine bodyPost_ret (v := .tuple #[.int .u8 0, .slice none 0 0, .int .i64 3]) (by simp [results, Try.results23, go_sem]) rfl (gp_on HHAS.out.symm HLV.out HOFF.out HPP.out.symm HZZ.out ?_)
            have hgl := HLV.out
            have hfx := HFX.out
            rw [hfx]
            show if _ then _ else _
            rw [if_neg (fun h => HX2.out h.2)]
        · have g2 : ((x.life : Int) != (A.life : Int)) = true := by rw [bne_iff_ne]; omega
          have HX1 := Lib.hid h1
          clear h1
          have HL0 := Lib.hid (Later.refl W6)
          have ZF0 : Hid (∀ s, W6.heap.size ≤ s → W6.heap.size ≤ s) := Lib.hid (fun _ h => h)
          have ZS0 : Hid (∀ V, Later W6 V → (Later W6) V) := Lib.hid (fun _ h => h)
          refine walk_start 22 (S := Later W6) (T := Later W6) (by kernel_rfl) (fun r => W6.heap.size ≤ r) (fun _ h => h.size) ZS0.out (closed_later _) (Later.refl _).drew ?_
          refine wt 0 32 ?_ (fun V hV => ?_) ?_
          rotate_left 1
          · (clear hV; go_simp; (try with_reducible rfl))
          try simp only [pa, List.set]
          refine wt 1 33 ?_ (fun V hV => ?_) ?_
          rotate_left 1
          · (clear hV; go_simp; (try with_reducible rfl))
          try simp only [pa, List.set]
          refine wt 2 34 ?_ (fun V hV => ?_) ?_
          rotate_left 1
          · (clear hV; go_simp; (try with_reducible rfl))
          try simp only [pa, List.set]
          refine wt 3 35 ?_ (fun V hV => ?_) ?_
          rotate_left 1
          · (clear hV; go_simp; (try with_reducible rfl))
          try simp only [pa, List.set]
          refine wt 4 36 ?_ (fun V hV => ?_) ?_
          rotate_left 1
          · (clear hV; go_simp; (try with_reducible rfl))
          try simp only [pa, List.set]
          refine wt 5 37 ?_ (fun V hV => ?_) ?_
          rotate_left 1
          · (clear hV; go_simp; (try with_reducible rfl))
          try simp only [pa, List.set]
          refine wt 6 38 ?_ (fun V hV => ?_) ?_
          rotate_left 1
          · (clear hV; go_simp; (try with_reducible rfl))
          try simp only [pa, List.set]
          refine wt 7 39 ?_ (fun V hV => ?_) ?_
          rotate_left 1
          · (obtain ⟨c4, f0, f1, f2, f3⟩ := SF.out V (HL0.out.trans hV); clear hV; go_simp; (try with_reducible rfl))
          try simp only [pa, List.set]
          refine wt 8 40 ?_ (fun V hV => ?_) ?_
          rotate_left 1
          · (clear hV; go_simp; (try with_reducible rfl))
          try simp only [pa, List.set]
          refine wt 9 41 ?_ (fun V hV => ?_) ?_
          rotate_left 1
          · (clear hV; go_simp; (try with_reducible rfl))
          try simp only [pa, List.set]
          refine wt 10 42 ?_ (fun V hV => ?_) ?_
          rotate_left 1
          · (clear hV; go_simp; (try with_reducible rfl))
          try simp only [pa, List.set]
          refine wt 11 43 ?_ (fun V hV => ?_) ?_
          rotate_left 1
          · (obtain ⟨c4, f0, f1, f2, f3⟩ := SF.out V (HL0.out.trans hV); clear hV; go_simp; (try with_reducible rfl))
          try simp only [pa, List.set]
          refine wt 12 44 ?_ (fun V hV => ?_) ?_
          rotate_left 1
          · (clear hV; go_simp; (try with_reducible rfl))
          try simp only [pa, List.set]
          refine wt 13 45 ?_ (fun V hV => ?_) ?_
          rotate_left 1
          · (clear hV; go_simp; (try with_reducible rfl))
          try simp only [pa, List.set]
          refine ws 14 46 ?_
          try simp only [pa, List.set]
          refine ws 15 47 ?_
          try simp only [pa, List.set]
          refine ws 16 48 ?_
          try simp only [pa, List.set]
          refine ws 17 49 ?_
          try simp only [pa, List.set]
          refine ws 18 50 ?_
          try simp only [pa, List.set]
          refine wt 19 51 ?_ (fun V hV => ?_) ?_
          rotate_left 1
          · (clear hV; go_simp; (try with_reducible rfl))
          try simp only [pa, List.set]
          refine wt 20 52 ?_ (fun V hV => ?_) ?_
          rotate_left 1
          · (clear hV; go_simp; (try with_reducible rfl))
          try simp only [pa, List.set]
          refine wt 21 53 ?_ (fun V hV => ?_) ?_
          rotate_left 1
          · (clear hV; go_simp; (try with_reducible rfl))
          try simp only [pa, List.set]
          refine walk_exit (fun V hV => wpAnyJ_done (by kernel_rfl) ?_ _)
          have hV0 := HL0.out.trans hV
          have HZZ : Hid (Below w.heap.size w V) := Lib.hid (HZ.out.trans ((show Below _ _ _ from hV0).mono HZ.out.size))
          clear hV hV0
          go_wp2_with fail
          refine bodyPost_ret (v := .tuple #[.int .u8 0, .slice none 0 0, .int .i64 3]) (by simp [results, Try.results23, go_sem]) rfl (gp_on HHAS.out.symm HLV.out HOFF.out HPP.out.symm HZZ.out ?_)
          have hgl := HLV.out
          have hfx := HFX.out
          rw [hfx]
          show if _ then _ else _
          rw [if_neg (fun h => HX1.out h.1)]
  · have g1 : (A.lives != d.lives) = true := by rw [bne_iff_ne]; exact hlv
    have HLV := Lib.hid hlv
    clear hlv hks
    go_wp2_with fail
    exact bodyPost_ret (v := .tuple #[.int .u8 0, .slice none 0 0, .int .i64 4]) (by simp [results, Try.results23, go_sem]) rfl (gp_off HHAS.out.symm (.inl HLV.out) HB2.out)
end
end Go.Proofs.Ytlbikfamjogpnaa
end

/- Frames in plain Lean: what is laid is read back; what a cut leaves; what Open finds. Conditions: none. -/
section
namespace Go.Proofs.Ytlbikfamjogpnaa
set_option linter.unusedVariables false

def padTo (n : Nat) (l : List UInt8) : List UInt8 := l ++ List.replicate (n - l.length) 0
theorem padTo_split (x : List UInt8) (p q : Nat) : padTo p (x.take p) ++ padTo q ((x.drop p).take q) = padTo (p + q) (x.take (p + q)) := by
  by_cases h : x.length ≤ p
  · rw [List.take_of_length_le h, List.drop_of_length_le h, List.take_of_length_le (show x.length ≤ p + q by omega)]
    unfold padTo
    rw [List.take_nil, List.nil_append, List.length_nil, List.append_assoc, List.replicate_append_replicate]
    congr 2
    omega
  · unfold padTo
    have h1 : (x.take p).length = p := by rw [List.length_take]; omega
    have h2 : ((x.drop p).take q).length = min q (x.length - p) := by rw [List.length_take, List.length_drop]
    have h3 : (x.take (p + q)).length = min (p + q) x.length := by rw [List.length_take]
    rw [h1, h2, h3, List.take_add, Nat.sub_self, List.replicate_zero, List.append_nil, List.append_assoc]
    congr 3
    omega
theorem padTo_take {x : List UInt8} {n : Nat} (h : x.length ≤ n) : (padTo n (x.take n)).take x.length = x := by
  unfold padTo
  rw [List.take_of_length_le h, List.take_left']
  rfl

theorem head_parts (k0 k : UInt8) (A B C D E : List UInt8) (hA : A.length = 8) (hB : B.length = 4) (hC : C.length = 2) (hD : D.length = 4) :
    ([k0, k] ++ A ++ B ++ C ++ D ++ E).headD 0 = k0 ∧ ([k0, k] ++ A ++ B ++ C ++ D ++ E).getD 1 0 = k ∧ (([k0, k] ++ A ++ B ++ C ++ D ++ E).drop 2).take 8 = A ∧ (([k0, k] ++ A ++ B ++ C ++ D ++ E).drop 10).take 4 = B ∧
    (([k0, k] ++ A ++ B ++ C ++ D ++ E).drop 14).take 2 = C ∧ (([k0, k] ++ A ++ B ++ C ++ D ++ E).drop 16).take 4 = D ∧ ([k0, k] ++ A ++ B ++ C ++ D ++ E).drop 20 = E ∧ ([k0, k] ++ A ++ B ++ C ++ D ++ E).take 16 = [k0, k] ++ A ++ B ++ C := by
  match A, hA with
  | [a0, a1, a2, a3, a4, a5, a6, a7], _ =>
    match B, hB with
    | [b0, b1, b2, b3], _ =>
      match C, hC with
      | [c0, c1], _ =>
        match D, hD with
        | [d0, d1, d2, d3], _ => exact ⟨rfl, rfl, rfl, rfl, rfl, rfl, rfl, rfl⟩

theorem chunk_pad (b : List UInt8) (j : Nat) : pad (chunkB b j) = 67 :: padTo 63 ((b.drop (44 + 63 * j)).take 63) := by
  unfold pad chunkB padTo
  rw [List.cons_append]
  congr 3
  rw [List.length_cons]
  omega
theorem rest_chunks (S : List (List UInt8)) (b : List UInt8) (k : Nat) : ∀ i j, (∀ m, m < k → S[i + m]? = some (pad (chunkB b (j + m)))) → rest S i k = some (padTo (63 * k) ((b.drop (44 + 63 * j)).take (63 * k))) := by
  induction k with
  | zero => intro i j _; simp [rest, padTo]
  | succ k ih =>
    intro i j h
    have h0 := h 0 (by omega)
    rw [Nat.add_zero, Nat.add_zero, chunk_pad] at h0
    have h1 := ih (i + 1) (j + 1) (fun m hm => by
      have := h (m + 1) (by omega)
      rw [show i + 1 + m = i + (m + 1) by omega, show j + 1 + m = j + (m + 1) by omega]
      exact this)
    rw [rest_step h0 rfl, h1]
    show some (padTo 63 ((b.drop (44 + 63 * j)).take 63) ++ _) = _
    have e : b.drop (44 + 63 * (j + 1)) = (b.drop (44 + 63 * j)).drop 63 := by rw [List.drop_drop]; congr 1
    rw [e, padTo_split, show 63 + 63 * k = 63 * (k + 1) by omega]
theorem rest_same {S S' : List (List UInt8)} (k : Nat) : ∀ i, (∀ m, m < k → S'[i + m]? = S[i + m]?) → rest S' i k = rest S i k := by
  induction k with
  | zero => intro i _; rfl
  | succ k ih =>
    intro i h
    have h0 : S'[i]? = S[i]? := h 0 (by omega)
    unfold rest
    rw [List.getD_eq_getElem?_getD, List.getD_eq_getElem?_getD, h0, ih (i + 1) (fun m hm => by
      have := h (m + 1) (by omega)
      rw [show i + 1 + m = i + (m + 1) by omega]
      exact this)]

theorem headB_len (kind : UInt8) (life n : Nat) (b : List UInt8) : (headB kind life n b).length = 16 := by simp [headB, leB_len]
theorem sealB_len (kind : UInt8) (life n : Nat) (b : List UInt8) : (sealB kind life n b).length = 20 := by simp [sealB, headB_len, leB_len]
theorem head_pad (kind : UInt8) (life n : Nat) (b : List UInt8) : pad (sealB kind life n b ++ b.take 44) = [72, kind] ++ leB life 8 ++ leB n 4 ++ leB b.length 2 ++ leB (sumOf (headB kind life n b ++ b)) 4 ++ padTo 44 (b.take 44) := by
  unfold pad padTo
  rw [List.length_append, sealB_len, show 64 - (20 + (b.take 44).length) = 44 - (b.take 44).length by omega]
  unfold sealB headB
  simp only [List.append_assoc]

/-- A frame that was laid is read. -/
theorem frame_laid {S : List (List UInt8)} {first sectors at0 life n : Nat} {kind : UInt8} {b : List UInt8} (hb : b.length ≤ 1000) (hlife : life < 18446744073709551616) (hn : n < 4294967296) (hroom : at0 + fsz b.length ≤ sectors)
    (hS : ∀ i, i < fsz b.length → S[first + at0 + i]? = some (pad ((layB kind life n b (fsz b.length - 1))[i]?.getD []))) : frameAt S first sectors at0 = some ⟨kind, life, n, b⟩ := by
  have hfp := fsz_pos b.length
  have hfr := @fsz_room b.length
  have h0 := hS 0 (by omega)
  have e0 : (layB kind life n b (fsz b.length - 1))[0]?.getD [] = sealB kind life n b ++ b.take 44 := rfl
  rw [e0, Nat.add_zero, head_pad] at h0
  obtain ⟨p1, p2, p3, p4, p5, p6, p7, p8⟩ := head_parts 72 kind (leB life 8) (leB n 4) (leB b.length 2) (leB (sumOf (headB kind life n b ++ b)) 4) (padTo 44 (b.take 44)) (leB_len _ _) (leB_len _ _) (leB_len _ _) (leB_len _ _)
  have hr : rest S (first + at0 + 1) (fsz b.length - 1) = some (padTo (63 * (fsz b.length - 1)) ((b.drop (44 + 63 * 0)).take (63 * (fsz b.length - 1)))) := rest_chunks S b _ _ 0 (fun m hm => by
    have := hS (m + 1) (by omega)
    rw [show first + at0 + 1 + m = first + at0 + (m + 1) by omega, this]
    unfold layB
    rw [List.getElem?_cons_succ, List.getElem?_map, List.getElem?_range hm]
    simp)
  unfold frameAt
  simp only [List.getD_eq_getElem?_getD, h0, Option.getD_some]
  rw [← List.getD_eq_getElem?_getD]
  rw [p1, p2, p3, p4, p5, p6, p7, p8, upB_leB, upB_leB, upB_leB, upB_leB]
  rw [Nat.mod_eq_of_lt (show b.length < 2 ^ (8 * 2) by omega), Nat.mod_eq_of_lt (show life < 2 ^ (8 * 8) by omega), Nat.mod_eq_of_lt (show n < 2 ^ (8 * 4) by omega)]
  rw [if_neg (by omega), if_neg (by rintro (h | h | h); exact h rfl; omega; omega), hr]
  simp only [Nat.mul_zero, Nat.add_zero]
  have eb : (padTo 44 (b.take 44) ++ padTo (63 * (fsz b.length - 1)) ((b.drop 44).take (63 * (fsz b.length - 1)))).take b.length = b := by
    rw [padTo_split, padTo_take hfr]
  rw [eb]
  have es : [72, kind] ++ leB life 8 ++ leB n 4 ++ leB b.length 2 = headB kind life n b := rfl
  rw [es, Nat.mod_eq_of_lt (show sumOf (headB kind life n b ++ b) < 2 ^ (8 * 4) by have : sumOf (headB kind life n b ++ b) ≤ 4294967295 := Nat.sub_le _ _; omega), if_pos rfl]

theorem frame_size {S : List (List UInt8)} {first sectors k : Nat} {f : Fr} (h : frameAt S first sectors k = some f) (hS : ∀ s ∈ S, s.length = 64) (hfit : first + sectors ≤ S.length) : f.b.length = upB (((S.getD (first + k) []).drop 14).take 2) := by
  unfold frameAt at h
  simp only at h
  split at h
  · cases h
  · rename_i hk
    split at h
    · cases h
    · rename_i hno
      split at h
      · cases h
      · rename_i r hr
        split at h
        · injection h with h
          subst h
          have h0 : (S.getD (first + k) []).length = 64 := by
            rw [List.getD_eq_getElem?_getD, List.getElem?_eq_getElem (by omega)]
            exact hS _ (List.getElem_mem _)
          have hroom : fsz (upB (((S.getD (first + k) []).drop 14).take 2)) ≤ sectors - k := by omega
          have hl := rest_len hS _ (first + k + 1) r (by omega) hr
          have hz := @fsz_room (upB (((S.getD (first + k) []).drop 14).take 2))
          show (List.take _ _).length = _
          rw [List.length_take, List.length_append, List.length_drop, h0, hl]
          omega
        · cases h
/-- A frame stays while its sectors do. -/
theorem frame_same {S S' : List (List UInt8)} {first sectors at0 : Nat} {f : Fr} (h : frameAt S first sectors at0 = some f) (hS : ∀ s ∈ S, s.length = 64) (hfit : first + sectors ≤ S.length)
    (hU : ∀ i, i < fsz f.b.length → S'[first + at0 + i]? = S[first + at0 + i]?) : frameAt S' first sectors at0 = some f := by
  have hz := frame_size h hS hfit
  have hp := fsz_pos f.b.length
  have h0 : S'.getD (first + at0) [] = S.getD (first + at0) [] := by
    rw [List.getD_eq_getElem?_getD, List.getD_eq_getElem?_getD]
    have := hU 0 (by omega)
    rw [Nat.add_zero] at this
    rw [this]
  rw [hz] at hU hp
  rw [← h]
  unfold frameAt
  simp only [h0]
  rw [rest_same (S := S) (S' := S') _ (first + at0 + 1) (fun m hm => by
    have := hU (m + 1) (by omega)
    rw [show first + at0 + 1 + m = first + at0 + (m + 1) by omega]
    exact this)]
theorem frame_head {S : List (List UInt8)} {first sectors at0 : Nat} (h : (S.getD (first + at0) []).headD 0 ≠ 72) : frameAt S first sectors at0 = none := by
  unfold frameAt
  simp only []
  split
  · rfl
  · rw [if_pos (.inl h)]
/-- Sectors as rows that were written from the last one down, so many of them. -/
def written (S S' : List (List UInt8)) (base n m : Nat) (rows : List (List UInt8)) : Prop :=
  S'.length = S.length ∧ ∀ i, S'[i]? = if base + n - m ≤ i ∧ i < base + n then some (pad (rows[i - base]?.getD [])) else S[i]?
theorem written_zero (S : List (List UInt8)) (base n : Nat) (rows : List (List UInt8)) : written S S base n 0 rows := ⟨rfl, fun i => by rw [if_neg (by omega)]⟩
theorem written_more {S S' : List (List UInt8)} {base n m : Nat} {rows : List (List UInt8)} (h : written S S' base n m rows) (hm : m < n) (hfit : base + n ≤ S.length) :
    written S (S'.set (base + (n - 1 - m)) (pad (rows[n - 1 - m]?.getD []))) base n (m + 1) rows := by
  refine ⟨by rw [List.length_set]; exact h.1, fun i => ?_⟩
  rw [List.getElem?_set]
  by_cases e : base + (n - 1 - m) = i
  · rw [if_pos e, if_pos (by have := h.1; omega), if_pos (by omega)]
    congr 4
    omega
  · rw [if_neg e, h.2 i]
    by_cases hi : base + n - m ≤ i ∧ i < base + n
    · rw [if_pos hi, if_pos (by omega)]
    · rw [if_neg hi, if_neg (by omega)]

theorem write_on (d : Dk) (s : Nat) (b : List UInt8) (hoff : d.off = false) (hs : s < d.S.length) (hb : b.length ≤ 64) (hc : d.cut ≠ 1) :
    (d.write (s : Int) b).2 = 0 ∧ (d.write (s : Int) b).1.S = d.S.set s (pad b) ∧ (d.write (s : Int) b).1.off = false ∧ (d.write (s : Int) b).1.lives = d.lives ∧ (d.write (s : Int) b).1.odd = d.odd ∧ (d.write (s : Int) b).1.cut = if 0 < d.cut then d.cut - 1 else d.cut := by
  have hm : d.may (s : Int) b.length = 0 := by
    unfold Dk.may
    rw [if_neg (by omega), hoff]
    rfl
  unfold Dk.write
  rw [if_pos hm]
  by_cases h0 : 0 < d.cut
  · rw [if_pos h0, if_neg hc, if_pos h0]
    exact ⟨rfl, rfl, hoff, rfl, rfl, rfl⟩
  · rw [if_neg h0, if_neg h0]
    exact ⟨rfl, rfl, hoff, rfl, rfl, rfl⟩
theorem write_cut (d : Dk) (s : Nat) (b : List UInt8) (hoff : d.off = false) (hs : s < d.S.length) (hb : b.length ≤ 64) (hc : d.cut = 1) :
    (d.write (s : Int) b).2 = 4 ∧ (d.write (s : Int) b).1.S = (if d.odd = true then d.S.set s (pad b) else d.S) ∧ (d.write (s : Int) b).1.off = true ∧ (d.write (s : Int) b).1.lives = d.lives := by
  have hm : d.may (s : Int) b.length = 0 := by
    unfold Dk.may
    rw [if_neg (by omega), hoff]
    rfl
  unfold Dk.write
  rw [if_pos hm, if_pos (by omega), if_pos hc]
  cases d.odd
  · exact ⟨rfl, rfl, rfl, rfl⟩
  · exact ⟨rfl, rfl, rfl, rfl⟩

/-- What writes of rows leave: all of them, or those ahead of the cut. -/
theorem wrun_shape (base : Nat) (rows : List (List UInt8)) (d : Dk) (n : Nat) (hn : n ≤ 4096) (hoff : d.off = false) (hfit : base + n ≤ d.S.length) (hrows : ∀ i : Nat, (rows[i]?.getD []).length ≤ 64) (hc : 0 ≤ d.cut) (k : Nat) (hk : k ≤ n) :
    (∃ m, m ≤ k ∧ written d.S (wrun base rows d (downs n hn k)).1.S base n m rows ∧ ((wrun base rows d (downs n hn k)).2 = 0 → m = k)) ∧ (wrun base rows d (downs n hn k)).1.lives = d.lives ∧
    (((wrun base rows d (downs n hn k)).2 = 0 ∧ (wrun base rows d (downs n hn k)).1.off = false ∧ (wrun base rows d (downs n hn k)).1.odd = d.odd ∧ (d.cut = 0 ∧ (wrun base rows d (downs n hn k)).1.cut = 0 ∨ (k : Int) < d.cut ∧ (wrun base rows d (downs n hn k)).1.cut = d.cut - k)) ∨
      ((wrun base rows d (downs n hn k)).2 = 4 ∧ (wrun base rows d (downs n hn k)).1.off = true ∧ 0 < d.cut ∧ d.cut ≤ k)) := by
  induction k with
  | zero =>
    have e : wrun base rows d (downs n hn 0) = (d, 0) := rfl
    rw [e]
    refine ⟨⟨0, Nat.le_refl _, written_zero _ _ _ _, fun _ => rfl⟩, rfl, .inl ⟨rfl, hoff, rfl, ?_⟩⟩
    by_cases h : d.cut = 0
    · exact .inl ⟨h, h⟩
    · exact .inr ⟨by omega, by simp⟩
  | succ k ih =>
    obtain ⟨⟨m, hm, hw, hmk⟩, hl, h⟩ := ih (by omega)
    rw [downs_succ]
    rcases h with ⟨h0, h1, hod, h2⟩ | ⟨h0, h1, h2, h3⟩
    · obtain rfl := hmk h0
      rw [wrun_snoc h0]
      obtain ⟨x, hx⟩ : ∃ x, x = (wrun base rows d (downs n hn m)).1 := ⟨_, rfl⟩
      rw [← hx] at hw hl h1 h2 hod ⊢
      have hlen : x.S.length = d.S.length := hw.1
      have hb := hrows (n - 1 - m)
      by_cases hcut : x.cut = 1
      · obtain ⟨w1, w2, w3, w4⟩ := write_cut x (base + (n - 1 - m)) (rows[n - 1 - m]?.getD []) h1 (by omega) hb hcut
        refine ⟨?_, by rw [w4]; exact hl, .inr ⟨w1, w3, by omega, by omega⟩⟩
        rw [w2]
        by_cases ho : x.odd = true
        · rw [if_pos ho]
          exact ⟨m + 1, Nat.le_refl _, written_more hw (by omega) hfit, fun _ => rfl⟩
        · rw [if_neg ho]
          exact ⟨m, by omega, hw, fun e => by rw [w1] at e; cases e⟩
      · obtain ⟨w1, w2, w3, w4, w5, w6⟩ := write_on x (base + (n - 1 - m)) (rows[n - 1 - m]?.getD []) h1 (by omega) hb hcut
        refine ⟨⟨m + 1, Nat.le_refl _, by rw [w2]; exact written_more hw (by omega) hfit, fun _ => rfl⟩, by rw [w4]; exact hl, .inl ⟨w1, w3, by rw [w5]; exact hod, ?_⟩⟩
        rw [w6]
        rcases h2 with ⟨e1, e2⟩ | ⟨e1, e2⟩
        · exact .inl ⟨e1, by rw [if_neg (by omega)]; exact e2⟩
        · refine .inr ⟨by omega, ?_⟩
          rw [if_pos (by omega), e2]
          omega
    · have hne : (wrun base rows d (downs n hn k)).2 ≠ 0 := by rw [h0]; decide
      rw [wrun_app, if_neg hne]
      exact ⟨⟨m, by omega, hw, fun e => absurd e hne⟩, hl, .inr ⟨h0, h1, h2, by omega⟩⟩

theorem layB_rows (kind : UInt8) (life n : Nat) (b : List UInt8) (k i : Nat) : ((layB kind life n b k)[i]?.getD []).length ≤ 64 := by
  unfold layB
  cases i with
  | zero => simp [sealB_len]; omega
  | succ i =>
    rw [List.getElem?_cons_succ, List.getElem?_map]
    cases h : (List.range k)[i]? with
    | none => simp
    | some j => simp [chunkB]; omega
theorem layB_tail (kind : UInt8) (life n : Nat) (b : List UInt8) (k i : Nat) (hi : 1 ≤ i) (hk : i ≤ k) : ((layB kind life n b k)[i]?.getD []) = chunkB b (i - 1) := by
  unfold layB
  obtain ⟨j, rfl⟩ : ∃ j, i = j + 1 := ⟨i - 1, by omega⟩
  rw [List.getElem?_cons_succ, List.getElem?_map, List.getElem?_range (by omega)]
  simp

/-- Frames of a life, one right behind the other, and no head behind them; a disk's sectors have 64 bytes. -/
def offs (fs : List (UInt8 × List UInt8)) (i : Nat) : Nat := ((fs.take i).map fun x => fsz x.2.length).sum
theorem offs_succ {fs : List (UInt8 × List UInt8)} {i : Nat} {x : UInt8 × List UInt8} (h : fs[i]? = some x) : offs fs (i + 1) = offs fs i + fsz x.2.length := by
  unfold offs
  rw [List.take_add_one, h, List.map_append, List.sum_append]
  simp
theorem offs_app (fs gs : List (UInt8 × List UInt8)) {i : Nat} (h : i ≤ fs.length) : offs (fs ++ gs) i = offs fs i := by
  unfold offs
  rw [List.take_append_of_le_length h]
theorem offs_more (fs : List (UInt8 × List UInt8)) (x : UInt8 × List UInt8) : offs (fs ++ [x]) (fs ++ [x]).length = offs fs fs.length + fsz x.2.length := by
  rw [List.length_append, List.length_singleton, offs_succ (x := x) (by simp), offs_app fs [x] (Nat.le_refl _)]
theorem offs_mono (fs : List (UInt8 × List UInt8)) (i j : Nat) (h : i ≤ j) : offs fs i ≤ offs fs j := by
  induction j with
  | zero => obtain rfl : i = 0 := by omega
            exact Nat.le_refl _
  | succ j ih =>
    by_cases e : i = j + 1
    · rw [e]; exact Nat.le_refl _
    · have h1 := ih (by omega)
      cases hx : fs[j]? with
      | none =>
        have hl : fs.length ≤ j := List.getElem?_eq_none_iff.1 hx
        have : offs fs (j + 1) = offs fs j := by unfold offs; rw [List.take_of_length_le hl, List.take_of_length_le (show fs.length ≤ j + 1 by omega)]
        omega
      | some x => rw [offs_succ hx]; omega
def offsL (fs : List (UInt8 × List UInt8)) : List Nat := (List.range fs.length).map (offs fs)
theorem offsL_len (fs : List (UInt8 × List UInt8)) : (offsL fs).length = fs.length := by simp [offsL]
theorem offsL_more (fs : List (UInt8 × List UInt8)) (x : UInt8 × List UInt8) : offsL (fs ++ [x]) = offsL fs ++ [offs fs fs.length] := by
  unfold offsL
  rw [List.length_append, List.length_singleton, List.range_succ, List.map_append, List.map_singleton, offs_app fs [x] (Nat.le_refl _)]
  congr 1
  exact List.map_congr_left fun i hi => offs_app fs [x] (Nat.le_of_lt (List.mem_range.1 hi))
theorem offsL_at (fs : List (UInt8 × List UInt8)) {i : Nat} (h : i < fs.length) : (offsL fs).getD i 0 = offs fs i := by
  unfold offsL
  rw [List.getD_eq_getElem?_getD, List.getElem?_map, List.getElem?_range h]
  rfl

structure Chain (S : List (List UInt8)) (first sectors life : Nat) (fs : List (UInt8 × List UInt8)) : Prop where
  len : ∀ s ∈ S, s.length = 64
  fit : first + sectors ≤ S.length
  room : offs fs fs.length ≤ sectors
  there : ∀ i k b, fs[i]? = some (k, b) → frameAt S first sectors (offs fs i) = some ⟨k, life, i, b⟩

/-- No sector from a place on begins a frame. -/
def Clean (S : List (List UInt8)) (first sectors u : Nat) : Prop := ∀ i, u ≤ i → i < sectors → (S.getD (first + i) []).headD 0 ≠ 72
theorem Clean.none {S : List (List UInt8)} {first sectors u : Nat} (h : Clean S first sectors u) : frameAt S first sectors u = none := by
  by_cases hu : u < sectors
  · exact frame_head (h u (Nat.le_refl _) hu)
  · unfold frameAt
    simp only []
    rw [if_pos (by omega)]

theorem pad_len64 {S S' : List (List UInt8)} {base n m : Nat} {rows : List (List UInt8)} (h : written S S' base n m rows) (hS : ∀ s ∈ S, s.length = 64) (hrows : ∀ i : Nat, (rows[i]?.getD []).length ≤ 64) : ∀ s ∈ S', s.length = 64 := by
  intro s hs
  obtain ⟨i, hi, rfl⟩ := List.getElem_of_mem hs
  have h1 := h.2 i
  rw [List.getElem?_eq_getElem hi] at h1
  split at h1
  · injection h1 with h1
    rw [h1]
    exact pad_length _ (hrows _)
  · exact hS _ (List.mem_of_getElem? h1.symm)

/-- A frame more, written whole. -/
theorem Chain.more {S S' : List (List UInt8)} {first sectors life : Nat} {fs : List (UInt8 × List UInt8)} {kind : UInt8} {b : List UInt8} (h : Chain S first sectors life fs) (hb : b.length ≤ 1000) (hlife : life < 18446744073709551616)
    (hn : fs.length < 4294967296) (hroom : offs fs fs.length + fsz b.length ≤ sectors)
    (hw : written S S' (first + offs fs fs.length) (fsz b.length) (fsz b.length) (layB kind life fs.length b (fsz b.length - 1))) : Chain S' first sectors life (fs ++ [(kind, b)]) := by
  refine ⟨pad_len64 hw h.len (layB_rows _ _ _ _ _), by rw [hw.1]; exact h.fit, by rw [offs_more]; exact hroom, fun i k x hx => ?_⟩
  by_cases hi : i < fs.length
  · rw [List.getElem?_append_left hi] at hx
    have h1 := h.there i k x hx
    rw [offs_app fs _ (Nat.le_of_lt hi)]
    refine frame_same h1 h.len h.fit fun j hj => ?_
    rw [hw.2, if_neg]
    have h2 := offs_succ hx
    have h3 := offs_mono fs (i + 1) fs.length hi
    simp only at hj h2
    omega
  · have hlt : i < (fs ++ [(kind, b)]).length := (List.getElem?_eq_some_iff.1 hx).1
    obtain rfl : i = fs.length := by simp at hlt; omega
    rw [List.getElem?_append_right (Nat.le_refl _), Nat.sub_self] at hx
    obtain ⟨rfl, rfl⟩ : kind = k ∧ b = x := by simpa using hx
    rw [offs_app fs _ (Nat.le_refl _)]
    refine frame_laid hb hlife hn hroom fun j hj => ?_
    rw [hw.2, if_pos (by omega)]
    congr 4
    omega
theorem Clean.more {S S' : List (List UInt8)} {first sectors u n m : Nat} {rows : List (List UInt8)} (h : Clean S first sectors u) (hw : written S S' (first + u) n m rows) (hm : m ≤ n) : Clean S' first sectors (u + n) := by
  intro i hi hlt
  have := h i (by omega) hlt
  rw [List.getD_eq_getElem?_getD] at this ⊢
  rw [hw.2, if_neg (by omega)]
  exact this
theorem Clean.part {S S' : List (List UInt8)} {first sectors u n m life num : Nat} {kind : UInt8} {b : List UInt8} (h : Clean S first sectors u) (hw : written S S' (first + u) n m (layB kind life num b (n - 1))) (hm : m < n) : Clean S' first sectors u := by
  intro i hi hlt
  have := h i hi hlt
  rw [List.getD_eq_getElem?_getD] at this ⊢
  rw [hw.2]
  split
  · rename_i hin
    rw [layB_tail _ _ _ _ _ _ (by omega) (by omega), chunk_pad]
    simp
  · exact this

/-- What Open finds where frames stand. -/
theorem scan_chain {S : List (List UInt8)} {first sectors life : Nat} {fs : List (UInt8 × List UInt8)} (h : Chain S first sectors life fs) (lives : Int)
    (hend : ∀ f, frameAt S first sectors (offs fs fs.length) = some f → f.n ≠ fs.length ∨ (0 < fs.length ∧ f.life ≠ life)) :
    scanA S ⟨lives, first, sectors, 0, [], 0⟩ = ⟨lives, first, sectors, if fs.length = 0 then 0 else life, offsL fs, offs fs fs.length⟩ := by
  have step : ∀ k, k ≤ fs.length → scanA S ⟨lives, first, sectors, 0, [], 0⟩ = scanA S ⟨lives, first, sectors, if k = 0 then 0 else life, (List.range k).map (offs fs), offs fs k⟩ := by
    intro k
    induction k with
    | zero => intro _; rfl
    | succ k ih =>
      intro hk
      rw [ih (by omega)]
      obtain ⟨⟨x, b⟩, hx⟩ : ∃ x, fs[k]? = some x := ⟨_, List.getElem?_eq_getElem (by omega)⟩
      have hf := h.there k x b hx
      rw [scanA_more (f := ⟨x, life, k, b⟩) (A := ⟨lives, first, sectors, if k = 0 then 0 else life, (List.range k).map (offs fs), offs fs k⟩) hf (by
        unfold Ar.ends
        rintro (e | ⟨e1, e2⟩)
        · exact e (by simp)
        · simp at e1
          exact e2 (by show life = if k = 0 then 0 else life; rw [if_neg (by omega)]))]
      have e2 : (List.range (k + 1)).map (offs fs) = (List.range k).map (offs fs) ++ [offs fs k] := by rw [List.range_succ, List.map_append, List.map_singleton]
      have e3 : (if k + 1 = 0 then 0 else life) = life := if_neg (by omega)
      rw [e2, e3, offs_succ hx]
      rfl
  rw [step fs.length (Nat.le_refl _)]
  cases hf : frameAt S first sectors (offs fs fs.length) with
  | none => exact scanA_none hf
  | some f =>
    refine scanA_ends (f := f) hf ?_
    rcases hend f hf with e | ⟨e1, e2⟩
    · exact .inl (by simpa using e)
    · refine .inr ⟨by simpa using e1, ?_⟩
      show f.life ≠ if fs.length = 0 then 0 else life
      rw [if_neg (by omega)]
      exact e2
theorem new_chain (n first sectors life : Nat) (hfit : first + sectors ≤ n) : Chain (Dk.new n).S first sectors life [] := by
  refine ⟨fun s hs => ?_, by simpa [Dk.new] using hfit, Nat.zero_le _, fun i k b h => by simp at h⟩
  have := List.eq_of_mem_replicate hs
  rw [this]
  rfl
theorem new_clean (n first sectors : Nat) : Clean (Dk.new n).S first sectors 0 := by
  intro i _ _
  unfold Dk.new
  rw [List.getD_eq_getElem?_getD, List.getElem?_replicate]
  split
  · decide
  · decide
end Go.Proofs.Ytlbikfamjogpnaa
end

/- A slice of noughts that is made. Conditions: none. -/
section
namespace Go.Proofs.Ytlbikfamjogpnaa
open Go.RowKit
/-- A row of noughts. -/
def zs (n : Nat) : List UInt8 := List.replicate n 0
def zsrow (n : Nat) : Array Value := ((zs n).map byt).toArray

theorem make_zs (n : Nat) (hn : n ≤ 140737488355328) (w : World) :
    (Instr.makeSlice 36 (.int .i64 (n : Int)) (.int .i64 (n : Int))).run Try.prog w = .ok (.slice (some ⟨w.heap.size, 0, none⟩) n n) (w.alloc (.cells (zsrow n) 5)) := by
  obtain ⟨i0, hi0, hz0, hz1, hz2⟩ := info_parts info_u8
  have hr := run_make (P := Try.prog) w 36 5 i0 (.int .u8 0) Try.underlying36 hi0 hz0 .i64 .i64 (n : Int) (n : Int) (by omega) (by omega) (by rw [hz2]; omega) (by omega)
  rw [hz1] at hr
  have e : madeCells (Value.int .u8 0).cells ((n : Int).toNat * 1) = zsrow n := by
    apply Array.toList_inj.1
    have := toList_madeCells_one (.int .u8 0) n
    simp only [Value.cells, Int.toNat_natCast, Nat.mul_one] at this ⊢
    rw [this]
    simp [zsrow, zs, byt]
  rw [e] at hr
  exact hr

end Go.Proofs.Ytlbikfamjogpnaa
end

/- The law's own 'awake' over the disk answers true. Conditions: none. -/
section
namespace Go.Proofs.Ytlbikfamjogpnaa
open Go.RowKit

section
variable {b a m cc : Nat} {A : Option Addr} {w : World}

def k2 : Dk := { S := [pad [120], zeros64], off := false, cut := 0, odd := false, writes := 1, lives := 1 }
def k3 : Dk := { S := [pad [120], zeros64], off := false, cut := 1, odd := false, writes := 1, lives := 1 }
def k4 : Dk := { S := [pad [120], zeros64], off := true, cut := 0, odd := false, writes := 1, lives := 1 }
end
end Go.Proofs.Ytlbikfamjogpnaa
end

/- What DiskKeeps does to a disk, in plain Lean; and a slice of bytes turned into a string. Conditions: none. -/
section
namespace Go.Proofs.Ytlbikfamjogpnaa
open Go.RowKit

theorem iteIff {α : Type} {p q : Prop} [Decidable p] [Decidable q] (h : p ↔ q) (a b : α) : some (if p then a else b) = some (if q then a else b) := by
  simp only [h]
theorem ifYes {α : Type} {p : Prop} [Decidable p] (h : p) (a b : α) : some a = some (if p then a else b) := by rw [if_pos h]

/-- The disk that DiskKeeps has behind j writes. -/
def KInv (l : List UInt8) (n : Nat) (odd : Bool) (j : Nat) (d : Dk) : Prop :=
  d.S.length = 8 ∧ d.odd = odd ∧
  (∀ i, i < 8 → d.S[i]? = some (if i < j ∧ (i + 1 < n ∨ (i + 1 = n ∧ odd = true)) then pad l else zeros64)) ∧
  ((j < n ∧ d.off = false ∧ d.cut = (n : Int) - j) ∨ (n ≤ j ∧ d.off = true ∧ d.cut = 0))

theorem KInv.more {l : List UInt8} {n j : Nat} {odd : Bool} {d : Dk} (h : KInv l n odd j d) (hj : j < 8) (hl : l.length ≤ 64) (hn : j + 1 < n) :
    ∃ d', d.write j l = (d', 0) ∧ KInv l n odd (j + 1) d' := by
  obtain ⟨h1, h2, h3, h4⟩ := h
  rcases h4 with ⟨_, ho, hc⟩ | ⟨h, _⟩
  · have hm : d.may j l.length = 0 := by
      unfold Dk.may
      rw [if_neg (by omega), if_neg (by simp [ho])]
    refine ⟨(d.less.put j l).counted, by simp only [Dk.write, hm, if_true]; rw [if_pos (by omega), if_neg (by omega)], by simp [Dk.put, Dk.less, Dk.counted, h1], h2, fun i hi => ?_, .inl ⟨hn, ho, by simp only [Dk.put, Dk.less, Dk.counted]; omega⟩⟩
    simp only [Dk.put, Dk.less, Dk.counted, Int.toNat_natCast]
    by_cases e : j = i
    · subst e
      rw [List.getElem?_set_self (by omega)]
      exact ifYes ⟨by omega, .inl hn⟩ _ _
    · rw [List.getElem?_set_ne e, h3 i hi]
      exact iteIff (by first | omega | (simp; omega) | (cases odd <;> simp <;> omega)) _ _
  · omega

theorem KInv.last {l : List UInt8} {n j : Nat} {odd : Bool} {d : Dk} (h : KInv l n odd j d) (hj : j < 8) (hl : l.length ≤ 64) (hn : j + 1 = n) :
    ∃ d', d.write j l = (d', 4) ∧ KInv l n odd (j + 1) d' := by
  obtain ⟨h1, h2, h3, h4⟩ := h
  rcases h4 with ⟨_, ho, hc⟩ | ⟨h, _⟩
  · have hm : d.may j l.length = 0 := by
      unfold Dk.may
      rw [if_neg (by omega), if_neg (by simp [ho])]
    have hc1 : d.cut = 1 := by omega
    cases odd with
    | true =>
      refine ⟨d.cutOff.put j l, by simp only [Dk.write, hm, if_true]; rw [if_pos (by omega), if_pos hc1, if_pos h2], by simp [Dk.put, Dk.cutOff, h1], h2, fun i hi => ?_, .inr ⟨by omega, rfl, rfl⟩⟩
      simp only [Dk.put, Dk.cutOff, Int.toNat_natCast]
      by_cases e : j = i
      · subst e
        rw [List.getElem?_set_self (by omega)]
        exact ifYes ⟨by omega, .inr ⟨hn, by simp⟩⟩ _ _
      · rw [List.getElem?_set_ne e, h3 i hi]
        exact iteIff (by first | omega | (simp; omega) | (cases odd <;> simp <;> omega)) _ _
    | false =>
      refine ⟨d.cutOff, by simp only [Dk.write, hm, if_true]; rw [if_pos (by omega), if_pos hc1, if_neg (by simp [h2])], by simp [Dk.cutOff, h1], h2, fun i hi => ?_, .inr ⟨by omega, rfl, rfl⟩⟩
      simp only [Dk.cutOff]
      rw [h3 i hi]
      exact iteIff (by first | omega | (simp; omega) | (cases odd <;> simp <;> omega)) _ _
  · omega

end Go.Proofs.Ytlbikfamjogpnaa
end
