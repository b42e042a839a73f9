/- The walk of DiskKeeps. Conditions: none. -/
import Derived.Test.YtifldkcfbggkeaaKeepsM
import Derived.Test.YtifldkcfbggkeaaDiskKnownW
import Derived.Deep.LoopGhost
namespace Go.Proofs.Ytifldkcfbggkeaa
open Go.RowKit

theorem znew (w6 : World) (g : Nat) (v : Value) : Blk ((w6.setCell ⟨g, 0, none⟩ v).alloc (.cells zrow 5)) w6.heap.size 5 (zeros64.map byt).toArray := by
  have := Blk.new (w6.setCell ⟨g, 0, none⟩ v) 5 zrow
  have e : (w6.setCell ⟨g, 0, none⟩ v).heap.size = w6.heap.size := by simp [World.setCell]
  rw [e] at this
  exact this

section
variable {m cc : Nat} {A : Option Addr} {w : World}

set_option maxHeartbeats 2000000 in
set_option maxRecDepth 100000 in
theorem keeps_main (l : List UInt8) (N : Nat) (how : Int) (hl : Bts w A m cc l) (hm : m ≤ 64) (h1 : 1 ≤ N) (h8 : N ≤ 8) :
    Calls Try.prog 5 #[.slice A m cc, .int .i64 (N : Int), .int .i64 how] w fun e w' => e = .returned (.bool true) ∧ Below w.heap.size w w' := by
  have hl64 : l.length ≤ 64 := by have := hl.2.2.2.2; omega
  have HL := Lib.hid hl
  have hmc := hl.2.2.1
  clear hl
  go_enter Try.func5, Try.ntmps5
  go_wp2_with fail
  refine (awake4 w).mono ?_
  rintro e w1 ⟨rfl, hB1⟩
  go_wp2_with fail
  refine (new_ok 8 w1 (by omega) (by omega)).mono ?_
  rintro e w2 ⟨b, a, rfl, hd2, hb, ha, hbel2⟩
  have hB2 : Below w.heap.size w w2 := hB1.trans (hbel2.mono hB1.size)
  have hsz := hB1.size
  clear hB1 hbel2
  go_wp2_with fail
  refine (cut_any _ N how (by omega) hd2).mono ?_
  rintro e w3 ⟨rfl, hd3, hk3⟩
  have hB3 : Below w.heap.size w w3 := Kept.low hB2 (Nat.le_refl _) (by rintro i (rfl | rfl) <;> omega) hk3
  have hI : KInv l N (how.tmod 2 != 0) 0 ((Dk.new 8).armed N how) := KInv.start l N how h1
  clear hk3 hd2 hB2
  go_wp2_with fail
  go_loopg [9] 8 (fun k i wr => ∃ j : Nat, j + k = 8 ∧ i = .int .i64 (j : Int) ∧ ∃ d, Hid (KInv l N (how.tmod 2 != 0) j d) ∧ DiskAt wr b a d ∧ Below w.heap.size w wr)
  case atStart => exact ⟨0, rfl, rfl, _, hI, hd3, hB3⟩
  case round =>
    obtain ⟨j, hj, rfl, d, hI, hd, hB⟩ := hrel
    by_cases hlt : j < 8
    · obtain ⟨d', r, hw, hI', hr⟩ : ∃ d' r, d.write j l = (d', r) ∧ KInv l N (how.tmod 2 != 0) (j + 1) d' ∧ ((r = 0 ∧ (j : Int) < N - 1) ∨ (r = 4 ∧ ¬ (j : Int) < N - 1)) := by
        by_cases e1 : j + 1 < N
        · obtain ⟨d', h1, h2⟩ := hI.out.more hlt hl64 e1
          exact ⟨d', 0, h1, h2, .inl ⟨rfl, by omega⟩⟩
        by_cases e2 : j + 1 = N
        · obtain ⟨d', h1, h2⟩ := hI.out.last hlt hl64 e2
          exact ⟨d', 4, h1, h2, .inr ⟨rfl, by omega⟩⟩
        · obtain ⟨d', h1, h2⟩ := hI.out.gone hlt hl64 (by omega)
          exact ⟨d', 4, h1, h2, .inr ⟨rfl, by omega⟩⟩
      have HW := Lib.hid hw
      have HI' := Lib.hid hI'
      have HJ := Lib.hid hj
      have hbts : Bts wr A m cc l := ⟨HL.out.1, (HL.out.2.1.below hB).more hB.size, HL.out.2.2⟩
      have HBT := Lib.hid hbts
      clear hw hI' hI hj hbts
      rcases hr with ⟨rfl, hr⟩ | ⟨rfl, hr⟩
      all_goals
        go_wp2_with fail
        refine (write_to hd HBT.out HW.out).mono ?_
        rintro e w4 ⟨rfl, hd4, hk4⟩
        have hB4 : Below w.heap.size w w4 := Kept.low hB (Nat.le_refl _) (by rintro i (rfl | rfl) <;> omega) hk4
        clear hk4
        go_wp2
        go_roundg (7 - j)
        case measure => have := HJ.out; omega
        case rel => exact ⟨j + 1, by have := HJ.out; omega, by go_num, _, HI'.out, hd4, hB4⟩
    · obtain rfl : j = 8 := by omega
      clear hj
      have HD := Lib.hid (fun i hi => hI.out.end_ i hi)
      clear hI
      go_wp2_with fail
      refine (on_any d hd).mono ?_
      rintro e w5 ⟨rfl, hd5, hk5⟩
      have hB5 : Below w.heap.size w w5 := Kept.low hB (Nat.le_refl _) (by rintro i (rfl | rfl) <;> omega) hk5
      have HO : d.on.off = false := rfl
      generalize d.on = d5 at hd5 HD HO
      have HOFF := Lib.hid HO
      clear hk5 hd hB HO
      go_wp2_with fail
      go_loopg [11] 8 (fun k i wr => ∃ j : Nat, j + k = 8 ∧ i = .int .i64 (j : Int) ∧ DiskAt wr b a d5 ∧ Below w.heap.size w wr)
      case atStart => exact ⟨0, rfl, rfl, hd5, hB5⟩
      case round =>
        obtain ⟨j, hj, rfl, hd, hB⟩ := hrel
        by_cases hlt : j < 8
        · have HJ := Lib.hid hj
          have hbts : Bts wr A m cc l := ⟨HL.out.1, (HL.out.2.1.below hB).more hB.size, HL.out.2.2⟩
          have HBT := Lib.hid hbts
          have HS := Lib.hid (HD.out j hlt)
          clear hj hbts
          obtain ⟨S, hSe, hS64, hcase⟩ : ∃ S, S = (if j + 1 < N ∨ (j + 1 = N ∧ (how.tmod 2 != 0) = true) then pad l else zeros64) ∧ S.length = 64 ∧
              ((S = pad l ∧ (j : Int) < N - 1) ∨ (S = pad l ∧ ¬ (j : Int) < N - 1 ∧ ((j : Int) == (N : Int) - 1) = true ∧ (how.tmod 2 != 0) = true) ∨
               (S = zeros64 ∧ ¬ (j : Int) < N - 1 ∧ ((j : Int) == (N : Int) - 1) = true ∧ (how.tmod 2 != 0) = false) ∨ (S = zeros64 ∧ ¬ (j : Int) < N - 1 ∧ ((j : Int) == (N : Int) - 1) = false)) := by
            refine ⟨_, rfl, ?_, ?_⟩
            · split
              · exact pad_length l hl64
              · simp [zeros64]
            · by_cases e1 : j + 1 < N
              · exact .inl ⟨by rw [if_pos (.inl e1)], by omega⟩
              by_cases e2 : j + 1 = N
              · cases e3 : (how.tmod 2 != 0) with
                | true => exact .inr (.inl ⟨by rw [if_pos (.inr ⟨e2, rfl⟩)], by omega, beq_iff_eq.2 (by omega), rfl⟩)
                | false => exact .inr (.inr (.inl ⟨by rw [if_neg (by simp; omega)], by omega, beq_iff_eq.2 (by omega), rfl⟩))
              · exact .inr (.inr (.inr ⟨by rw [if_neg (by omega)], by omega, beq_eq_false_iff_ne.2 (by omega)⟩))
          have HS : Hid (d5.S[j]? = some S) := by rw [hSe]; exact HS
          clear hSe
          go_wp2_with fail
          refine (read_ok d5 j _ hd HS.out HOFF.out).mono ?_
          rintro e w6 ⟨g, c, rfl, hown, hbel6⟩
          have hrd := Reads.of_own hown
          have hgw := (hown.lt g rfl).1
          have hg6 := (hown.lt g rfl).2
          have hg0 : w6.cell? ⟨g, 0, none⟩ = some (.int .u8 ((S.getD 0 0).toNat : Int)) := hown.cells (g := g) rfl 0 _ (by cases S with | nil => cases hS64 | cons x r => simp [byt])
          have hgf := hown.frozenAt 0
          have hmk := make_64
          clear hown
          have hrl : Reads w6 w6.heap.size 1 A m (l.map byt) := (HBT.out.2.1.below hbel6).more hbel6.size
          have hB6 : w.heap.size ≤ w6.heap.size := Nat.le_trans hB.size hbel6.size
          rcases hcase with ⟨he, hc⟩ | ⟨he, hc, hc2, hc3⟩ | ⟨he, hc, hc2, hc3⟩ | ⟨he, hc, hc2⟩
          · have HE := Lib.hid he
            clear he
            go_wp2_with (with_reducible refine wpList_copy_splice rfl (.tmp 92) (.tmp 93) _ _ rfl 5 Try.underlying27 (by kernel_rfl) (some ⟨w6.heap.size, 0, none⟩) A 64 64 m cc rfl rfl w6.heap.size 0 (zeros64.map byt) 5 (zrow_blk w6) (l.map byt) ?cn ?cp ?cf (byt_one l) w6.heap.size w6 (zrow_below w6) (Nat.le_refl _) ?ch)
            case cn => have := HL.out.2.2.2.2; have e := Nat.min_eq_left (show m ≤ 64 by omega); simp only [List.length_map]; exact this.trans e.symm
            case cp =>
              intro hp
              obtain ⟨ad, e, -, hx⟩ := (hrl.alloc (Nat.le_refl _) (.cells zrow 5)).2 (by have := HL.out.2.2.2.2; omega)
              exact ⟨ad, e, fun j v hv => hx j _ (by simp [hv])⟩
            case cf => first | omega | (simp [zeros64]; omega)
            case ch =>
              intro w7 hg7 hb7
              have hbw : Below w6.heap.size w6 w7 := hb7
              have hwant : Blk w7 w6.heap.size 5 (S.map byt).toArray := by have := hg7.out; rw [pad_cells l, ← HE.out] at this; exact this
              have hrr : Reads w7 w6.heap.size 1 (some ⟨g, 0, none⟩) 64 (S.map byt) := hrd.below hbw
              have hwr : Reads w7 w7.heap.size 1 (some ⟨w6.heap.size, 0, none⟩) 64 (S.map byt) := (bts_blk hwant hS64 (by unfold maxLen; omega)).2.1
              have cv1 := run_string_of w7 27 9 5 Try.underlying27 Try.underlying5 Try.underlying9 (c := c) hrr
              have cv2 := run_string_of w7 27 9 5 Try.underlying27 Try.underlying5 Try.underlying9 (c := 64) hwr
              have cg : w7.cell? ⟨g, 0, none⟩ = some (.int .u8 ((S.getD 0 0).toNat : Int)) := (hbw.cell (p := ⟨g, 0, none⟩) hg6).trans hg0
              have fg : w7.frozen? ⟨g, 0, none⟩ = false := (hbw.frozen (p := ⟨g, 0, none⟩) hg6).trans hgf
              have HWANT := Lib.hid hwant
              have HBW := Lib.hid hbw
              clear hwant hbw hrr hwr
              go_wp2_with fail
              have hB7 : Below wr.heap.size wr w7 := hbel6.trans (HBW.out.mono hbel6.size)
              refine (read_ok d5 j _ (hd.below (hB7.setCell (p := ⟨g, 0, none⟩) hgw _)) HS.out HOFF.out).mono ?_
              rintro e w8 ⟨g', c', rfl, hown8, hbel8⟩
              have hwant8 : Blk w8 w6.heap.size 5 (S.map byt).toArray := (HWANT.out.far (p := ⟨g, 0, none⟩) (by show w6.heap.size ≠ g; omega) _).below hbel8 (by have := HWANT.out.lt; simpa [World.setCell] using this)
              have dv1 := run_string_of w8 27 9 5 Try.underlying27 Try.underlying5 Try.underlying9 (c := c') (Reads.of_own hown8)
              have dv2 := run_string_of w8 27 9 5 Try.underlying27 Try.underlying5 Try.underlying9 (c := 64) (bts_blk hwant8 hS64 (by unfold maxLen; omega)).2.1
              have hB8 : Below wr.heap.size wr w8 := (hB7.setCell (p := ⟨g, 0, none⟩) hgw _).trans (hbel8.mono (by have := hB7.size; simpa [World.setCell] using this))
              clear hwant8 hown8 hbel8 cv1 cv2 cg fg
              go_wp2
              go_roundg (7 - j)
              case measure => have := HJ.out; omega
              case rel => exact ⟨j + 1, by have := HJ.out; omega, by go_num, hd.below hB8, hB.trans (hB8.mono hB.size)⟩
          · have HE := Lib.hid he
            clear he
            go_wp2_with (with_reducible refine wpList_copy_splice rfl (.tmp 92) (.tmp 93) _ _ rfl 5 Try.underlying27 (by kernel_rfl) (some ⟨w6.heap.size, 0, none⟩) A 64 64 m cc rfl rfl w6.heap.size 0 (zeros64.map byt) 5 (zrow_blk w6) (l.map byt) ?cn ?cp ?cf (byt_one l) w6.heap.size w6 (zrow_below w6) (Nat.le_refl _) ?ch)
            case cn => have := HL.out.2.2.2.2; have e := Nat.min_eq_left (show m ≤ 64 by omega); simp only [List.length_map]; exact this.trans e.symm
            case cp =>
              intro hp
              obtain ⟨ad, e, -, hx⟩ := (hrl.alloc (Nat.le_refl _) (.cells zrow 5)).2 (by have := HL.out.2.2.2.2; omega)
              exact ⟨ad, e, fun j v hv => hx j _ (by simp [hv])⟩
            case cf => first | omega | (simp [zeros64]; omega)
            case ch =>
              intro w7 hg7 hb7
              have hbw : Below w6.heap.size w6 w7 := hb7
              have hwant : Blk w7 w6.heap.size 5 (S.map byt).toArray := by have := hg7.out; rw [pad_cells l, ← HE.out] at this; exact this
              have hrr : Reads w7 w6.heap.size 1 (some ⟨g, 0, none⟩) 64 (S.map byt) := hrd.below hbw
              have hwr : Reads w7 w7.heap.size 1 (some ⟨w6.heap.size, 0, none⟩) 64 (S.map byt) := (bts_blk hwant hS64 (by unfold maxLen; omega)).2.1
              have cv1 := run_string_of w7 27 9 5 Try.underlying27 Try.underlying5 Try.underlying9 (c := c) hrr
              have cv2 := run_string_of w7 27 9 5 Try.underlying27 Try.underlying5 Try.underlying9 (c := 64) hwr
              have cg : w7.cell? ⟨g, 0, none⟩ = some (.int .u8 ((S.getD 0 0).toNat : Int)) := (hbw.cell (p := ⟨g, 0, none⟩) hg6).trans hg0
              have fg : w7.frozen? ⟨g, 0, none⟩ = false := (hbw.frozen (p := ⟨g, 0, none⟩) hg6).trans hgf
              have HWANT := Lib.hid hwant
              have HBW := Lib.hid hbw
              clear hwant hbw hrr hwr
              go_wp2_with fail
              have hB7 : Below wr.heap.size wr w7 := hbel6.trans (HBW.out.mono hbel6.size)
              refine (read_ok d5 j _ (hd.below (hB7.setCell (p := ⟨g, 0, none⟩) hgw _)) HS.out HOFF.out).mono ?_
              rintro e w8 ⟨g', c', rfl, hown8, hbel8⟩
              have hwant8 : Blk w8 w6.heap.size 5 (S.map byt).toArray := (HWANT.out.far (p := ⟨g, 0, none⟩) (by show w6.heap.size ≠ g; omega) _).below hbel8 (by have := HWANT.out.lt; simpa [World.setCell] using this)
              have dv1 := run_string_of w8 27 9 5 Try.underlying27 Try.underlying5 Try.underlying9 (c := c') (Reads.of_own hown8)
              have dv2 := run_string_of w8 27 9 5 Try.underlying27 Try.underlying5 Try.underlying9 (c := 64) (bts_blk hwant8 hS64 (by unfold maxLen; omega)).2.1
              have hB8 : Below wr.heap.size wr w8 := (hB7.setCell (p := ⟨g, 0, none⟩) hgw _).trans (hbel8.mono (by have := hB7.size; simpa [World.setCell] using this))
              clear hwant8 hown8 hbel8 cv1 cv2 cg fg
              go_wp2
              go_roundg (7 - j)
              case measure => have := HJ.out; omega
              case rel => exact ⟨j + 1, by have := HJ.out; omega, by go_num, hd.below hB8, hB.trans (hB8.mono hB.size)⟩
          · have HE := Lib.hid he
            clear he
            have hz6 : Blk (w6.alloc (.cells zrow 5)) w6.heap.size 5 (S.map byt).toArray := by have := Blk.new w6 5 zrow; rw [HE.out]; exact this
            have hbw : Below w6.heap.size w6 (w6.alloc (.cells zrow 5)) := zrow_below w6
            have hwant : Blk (w6.alloc (.cells zrow 5)) w6.heap.size 5 (S.map byt).toArray := hz6
            have hrr : Reads (w6.alloc (.cells zrow 5)) w6.heap.size 1 (some ⟨g, 0, none⟩) 64 (S.map byt) := hrd.below hbw
            have hwr : Reads (w6.alloc (.cells zrow 5)) (w6.alloc (.cells zrow 5)).heap.size 1 (some ⟨w6.heap.size, 0, none⟩) 64 (S.map byt) := (bts_blk hwant hS64 (by unfold maxLen; omega)).2.1
            have cv1 := run_string_of (w6.alloc (.cells zrow 5)) 27 9 5 Try.underlying27 Try.underlying5 Try.underlying9 (c := c) hrr
            have cv2 := run_string_of (w6.alloc (.cells zrow 5)) 27 9 5 Try.underlying27 Try.underlying5 Try.underlying9 (c := 64) hwr
            have cg : (w6.alloc (.cells zrow 5)).cell? ⟨g, 0, none⟩ = some (.int .u8 ((S.getD 0 0).toNat : Int)) := (hbw.cell (p := ⟨g, 0, none⟩) hg6).trans hg0
            have fg : (w6.alloc (.cells zrow 5)).frozen? ⟨g, 0, none⟩ = false := (hbw.frozen (p := ⟨g, 0, none⟩) hg6).trans hgf
            have HWANT := Lib.hid hwant
            have HBW := Lib.hid hbw
            clear hwant hbw hrr hwr
            go_wp2_with fail
            have hB7 : ∀ v, Below wr.heap.size wr ((w6.setCell ⟨g, 0, none⟩ v).alloc (.cells zrow 5)) := fun v => (hbel6.setCell (p := ⟨g, 0, none⟩) hgw v).alloc (by have := hbel6.size; simpa [World.setCell] using this) _
            refine (read_ok d5 j _ (hd.below (hB7 _)) HS.out HOFF.out).mono ?_
            rintro e w8 ⟨g', c', rfl, hown8, hbel8⟩
            have hwant8 : Blk w8 w6.heap.size 5 (S.map byt).toArray := by
              have h0 := (znew w6 g _).below hbel8 (by simp [World.setCell])
              rw [HE.out]
              exact h0
            have dv1 := run_string_of w8 27 9 5 Try.underlying27 Try.underlying5 Try.underlying9 (c := c') (Reads.of_own hown8)
            have dv2 := run_string_of w8 27 9 5 Try.underlying27 Try.underlying5 Try.underlying9 (c := 64) (bts_blk hwant8 hS64 (by unfold maxLen; omega)).2.1
            have hB8 : Below wr.heap.size wr w8 := (hB7 _).trans (hbel8.mono (hB7 _).size)
            clear hwant8 hown8 hbel8 cv1 cv2 cg fg
            go_wp2
            go_roundg (7 - j)
            case measure => have := HJ.out; omega
            case rel => exact ⟨j + 1, by have := HJ.out; omega, by go_num, hd.below hB8, hB.trans (hB8.mono hB.size)⟩
          · have HE := Lib.hid he
            clear he
            have hz6 : Blk (w6.alloc (.cells zrow 5)) w6.heap.size 5 (S.map byt).toArray := by have := Blk.new w6 5 zrow; rw [HE.out]; exact this
            have hbw : Below w6.heap.size w6 (w6.alloc (.cells zrow 5)) := zrow_below w6
            have hwant : Blk (w6.alloc (.cells zrow 5)) w6.heap.size 5 (S.map byt).toArray := hz6
            have hrr : Reads (w6.alloc (.cells zrow 5)) w6.heap.size 1 (some ⟨g, 0, none⟩) 64 (S.map byt) := hrd.below hbw
            have hwr : Reads (w6.alloc (.cells zrow 5)) (w6.alloc (.cells zrow 5)).heap.size 1 (some ⟨w6.heap.size, 0, none⟩) 64 (S.map byt) := (bts_blk hwant hS64 (by unfold maxLen; omega)).2.1
            have cv1 := run_string_of (w6.alloc (.cells zrow 5)) 27 9 5 Try.underlying27 Try.underlying5 Try.underlying9 (c := c) hrr
            have cv2 := run_string_of (w6.alloc (.cells zrow 5)) 27 9 5 Try.underlying27 Try.underlying5 Try.underlying9 (c := 64) hwr
            have cg : (w6.alloc (.cells zrow 5)).cell? ⟨g, 0, none⟩ = some (.int .u8 ((S.getD 0 0).toNat : Int)) := (hbw.cell (p := ⟨g, 0, none⟩) hg6).trans hg0
            have fg : (w6.alloc (.cells zrow 5)).frozen? ⟨g, 0, none⟩ = false := (hbw.frozen (p := ⟨g, 0, none⟩) hg6).trans hgf
            have HWANT := Lib.hid hwant
            have HBW := Lib.hid hbw
            clear hwant hbw hrr hwr
            go_wp2_with fail
            have hB7 : ∀ v, Below wr.heap.size wr ((w6.setCell ⟨g, 0, none⟩ v).alloc (.cells zrow 5)) := fun v => (hbel6.setCell (p := ⟨g, 0, none⟩) hgw v).alloc (by have := hbel6.size; simpa [World.setCell] using this) _
            refine (read_ok d5 j _ (hd.below (hB7 _)) HS.out HOFF.out).mono ?_
            rintro e w8 ⟨g', c', rfl, hown8, hbel8⟩
            have hwant8 : Blk w8 w6.heap.size 5 (S.map byt).toArray := by
              have h0 := (znew w6 g _).below hbel8 (by simp [World.setCell])
              rw [HE.out]
              exact h0
            have dv1 := run_string_of w8 27 9 5 Try.underlying27 Try.underlying5 Try.underlying9 (c := c') (Reads.of_own hown8)
            have dv2 := run_string_of w8 27 9 5 Try.underlying27 Try.underlying5 Try.underlying9 (c := 64) (bts_blk hwant8 hS64 (by unfold maxLen; omega)).2.1
            have hB8 : Below wr.heap.size wr w8 := (hB7 _).trans (hbel8.mono (hB7 _).size)
            clear hwant8 hown8 hbel8 cv1 cv2 cg fg
            go_wp2
            go_roundg (7 - j)
            case measure => have := HJ.out; omega
            case rel => exact ⟨j + 1, by have := HJ.out; omega, by go_num, hd.below hB8, hB.trans (hB8.mono hB.size)⟩
        · obtain rfl : j = 8 := by omega
          clear hj
          go_wp2
          go_ret
          exact ⟨rfl, hB⟩

theorem keeps_out (n how : Int) (hm : m ≤ 9223372036854775807) (h : 64 < m ∨ n < 1 ∨ 8 < n) :
    Calls Try.prog 5 #[.slice A m cc, .int .i64 n, .int .i64 how] w fun e w' => e = .returned (.bool true) ∧ Below w.heap.size w w' := by
  by_cases h1 : 64 < m
  · clear h
    go_enter Try.func5, Try.ntmps5
    go_wp2_with fail
    refine (awake4 w).mono ?_
    rintro e w1 ⟨rfl, hB1⟩
    go_wp2
    go_ret
    exact ⟨rfl, hB1⟩
  by_cases h2 : n < 1
  · clear h
    go_enter Try.func5, Try.ntmps5
    go_wp2_with fail
    refine (awake4 w).mono ?_
    rintro e w1 ⟨rfl, hB1⟩
    go_wp2
    go_ret
    exact ⟨rfl, hB1⟩
  · have h3 : 8 < n := by omega
    clear h
    go_enter Try.func5, Try.ntmps5
    go_wp2_with fail
    refine (awake4 w).mono ?_
    rintro e w1 ⟨rfl, hB1⟩
    go_wp2
    go_ret
    exact ⟨rfl, hB1⟩

/-- DiskKeeps, whatever comes. -/
theorem keeps_any (l : List UInt8) (n how : Int) (hl : Bts w A m cc l) :
    Calls Try.prog 5 #[.slice A m cc, .int .i64 n, .int .i64 how] w fun e w' => e = .returned (.bool true) ∧ Below w.heap.size w w' := by
  by_cases h : 64 < m ∨ n < 1 ∨ 8 < n
  · exact keeps_out n how (by have h1 := hl.2.2.1; have h2 := hl.2.2.2.1; unfold maxLen at h2; omega) h
  · obtain ⟨N, rfl⟩ := Int.eq_ofNat_of_zero_le (show 0 ≤ n by omega)
    exact keeps_main l N how hl (by omega) (by omega) (by omega)
end

/-- What a law's row tells of an argument of bytes: it is nil, or it leads to a row of cells. -/
def IsRow (k : IntKind) (w : World) (a : Option Addr) (len cap : Nat) (zs : List Int) : Prop :=
  (a = none ∧ len = 0 ∧ cap = 0 ∧ zs = []) ∨
  ∃ x, a = some x ∧ len ≤ cap ∧ cap ≤ maxLen ∧ zs.length = cap ∧ (∀ i, i < zs.length → w.cell? (x.add i) = some (.int k (zs.getD i 0))) ∧ ∀ n ∈ zs, (Lit.int k n).wf = true

theorem IsRow.bts {w : World} {A : Option Addr} {n c : Nat} {zs : List Int} (h : IsRow .u8 w A n c zs) : ∃ l, Bts w A n c l := by
  rcases h with ⟨rfl, rfl, rfl, rfl⟩ | ⟨x, rfl, h1, h2, h3, h4, h5⟩
  · exact ⟨[], bts_nil w⟩
  · have hb : ∀ z ∈ zs, 0 ≤ z ∧ z < 256 := by
      intro z hz
      have := h5 z hz
      simp only [Lit.wf, Bool.and_eq_true, decide_eq_true_eq] at this
      have e1 : IntKind.u8.min = 0 := by decide
      have e2 : IntKind.u8.max = 255 := by decide
      omega
    have e : ((zs.take n).map fun z => UInt8.ofNat z.toNat).map byt = (zs.take n).map (Value.int .u8) := by
      rw [List.map_map]
      refine List.map_congr_left fun z hz => ?_
      have := hb z (List.mem_of_mem_take hz)
      simp only [Function.comp, byt, UInt8.toNat_ofNat']
      congr 1
      omega
    refine ⟨(zs.take n).map fun z => UInt8.ofNat z.toNat, by simp, ⟨by simp; omega, fun hn => ⟨x, rfl, ?_, fun j u hu => ?_⟩⟩, h1, h2, by simp; omega⟩
    · have := h4 0 (by omega)
      have := World.block_lt_of_cell? _ _ this
      rwa [block_of_add] at this
    · rw [e] at hu
      have hj : j < n := by
        have := (List.getElem?_eq_some_iff.1 hu).1
        simp at this
        omega
      rw [h4 j (by omega)]
      simp only [List.getElem?_map, List.getElem?_take, if_pos hj] at hu
      have hjz : j < zs.length := by omega
      rw [List.getElem?_eq_getElem hjz] at hu
      rw [List.getD, List.getElem?_eq_getElem hjz]
      simpa using hu
end Go.Proofs.Ytifldkcfbggkeaa
