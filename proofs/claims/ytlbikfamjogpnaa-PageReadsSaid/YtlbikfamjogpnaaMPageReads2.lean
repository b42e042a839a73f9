/- The texts of this proof, joined: contracts of the functions that the law reaches, and what they come to in plain Lean. Conditions: those that each theorem names. -/
import Derived.Test.YtlbikfamjogpnaaMPageReads1

/- Go functions as plain Lean functions, and a proof for each that its call comes to what the plain one tells; printed by a program of this repo's over the kit's print. Conditions: those that each theorem names. -/
section
namespace Go.Proofs.Ytlbikfamjogpnaa.QPage
open Go.RowKit Go.Proofs.YtlbikfamjogpnaaW.PrintWords Go.Proofs.YtlbikfamjogpnaaW.PrintLast Go.Proofs.YtlbikfamjogpnaaW.PrintMore
attribute [local go_sem] max2_int min2_int max_two min_two max_three min_three max_four min_four   -- for this text's walks alone
set_option linter.unusedVariables false
set_option linter.unusedSimpArgs false

/-! ### publicanref4_Good: function 41 -/
mutual
def publicanref4_Good.l0 : Nat → Int → Bool → List ByteArray → List ByteArray → List Int → Option (Bool)
  | 0, _, _, _, _, _ => none
  | k + 1, x3, x188000, x188001, x188002, x188003 => if x3 < (x188001.length : Int) then (if 0 ≤ x3 then (if ((rdOf ByteArray.empty x188001 x3).size : Int) < 1 then (some false) else (if ((rdOf ByteArray.empty x188001 x3).size : Int) > 40 then (some false) else (if x3 > 0 then (if 0 ≤ (wrap64 (x3 - 1)) then (if (wrap64 (x3 - 1)) < (x188001.length : Int) then (if ((Op.bytesLess ((rdOf ByteArray.empty x188001 (wrap64 (x3 - 1))).toList) ((rdOf ByteArray.empty x188001 x3).toList)) = true) then (publicanref4_Good.l0 k (wrap64 (x3 + 1)) x188000 x188001 x188002 x188003) else (some false)) else (none)) else (none)) else (publicanref4_Good.l0 k (wrap64 (x3 + 1)) x188000 x188001 x188002 x188003)))) else (none)) else (publicanref4_Good.l1 k 0 x188000 x188001 x188002 x188003)
def publicanref4_Good.l1 : Nat → Int → Bool → List ByteArray → List ByteArray → List Int → Option (Bool)
  | 0, _, _, _, _, _ => none
  | k + 1, x4, x188000, x188001, x188002, x188003 => if x4 < (x188002.length : Int) then (if 0 ≤ x4 then (if ((rdOf ByteArray.empty x188002 x4).size : Int) > 400 then (some false) else (publicanref4_Good.l1 k (wrap64 (x4 + 1)) x188000 x188001 x188002 x188003)) else (none)) else (publicanref4_Good.l2 k 0 x188000 x188001 x188002 x188003)
def publicanref4_Good.l2 : Nat → Int → Bool → List ByteArray → List ByteArray → List Int → Option (Bool)
  | 0, _, _, _, _, _ => none
  | k + 1, x5, x188000, x188001, x188002, x188003 => if x5 < (x188003.length : Int) then (if 0 ≤ x5 then (if (rd x188003 x5) = 0 then (some false) else (publicanref4_Good.l2 k (wrap64 (x5 + 1)) x188000 x188001 x188002 x188003)) else (none)) else (if x188000 = true then (if (x188002.length : Int) = (x188001.length : Int) then (some ((x188003.length : Int) == 0)) else (some false)) else (if (x188002.length : Int) = 0 then (some ((x188003.length : Int) == (wrap64 ((x188001.length : Int) + 1)))) else (some false)))
end
def publicanref4_Good.f (k : Nat) (a0_0 : Bool) (l0_1 : List ByteArray) (l0_2 : List ByteArray) (l0_3 : List Int) : Option (Bool) := publicanref4_Good.l0 k 0 a0_0 l0_1 l0_2 l0_3
set_option maxHeartbeats 8000000 in
set_option maxRecDepth 100000 in
theorem publicanref4_Good.calls (k : Nat) (a0_0 : Bool) (A0_1 : Option Addr) (c0_1 : Nat) (l0_1 : List ByteArray) (A0_2 : Option Addr) (c0_2 : Nat) (l0_2 : List ByteArray) (A0_3 : Option Addr) (c0_3 : Nat) (l0_3 : List Int) (r : Bool) (w : World) (hr0_1 : Kd.C Kd.string w A0_1 l0_1.length l0_1) (hc0_1 : l0_1.length ≤ c0_1) (hr0_2 : Kd.C Kd.string w A0_2 l0_2.length l0_2) (hc0_2 : l0_2.length ≤ c0_2) (hr0_3 : Kd.C (Kd.int .u64) w A0_3 l0_3.length l0_3) (hc0_3 : l0_3.length ≤ c0_3) (h : publicanref4_Good.f k a0_0 l0_1 l0_2 l0_3 = some r) :
    Calls Try.prog 41 #[.agg #[.bool a0_0, .slice A0_1 l0_1.length c0_1, .slice A0_2 l0_2.length c0_2, .slice A0_3 l0_3.length c0_3]] w fun e w' => e = .returned (.bool r) ∧ Below w.heap.size w w' := by
  have hu73 := Try.underlying73
  have HR0_1 := Aside0.mk hr0_1
  have HC0_1 := Aside0.mk hc0_1
  clear hr0_1 hc0_1
  have HR0_2 := Aside0.mk hr0_2
  have HC0_2 := Aside0.mk hc0_2
  clear hr0_2 hc0_2
  have HR0_3 := Aside0.mk hr0_3
  have HC0_3 := Aside0.mk hc0_3
  clear hr0_3 hc0_3
  have HB := Aside0.mk (Below.refl w.heap.size w)
  have H : (publicanref4_Good.l0 k 0 a0_0 l0_1 l0_2 l0_3) = some r := h
  clear h
  have H' := Aside0.mk H
  clear H
  go_enter Try.func41, Try.ntmps41
  go_wp2_with (first | ((with_reducible refine gate_dst (N := 1) rfl ?_); (try (refine gate_guard (by rfl) ?_; dsimp only)); refine box_event ?hg (N := 1) ?hd (cs := #[.bool a0_0, .slice A0_1 l0_1.length c0_1, .slice A0_2 l0_2.length c0_2, .slice A0_3 l0_3.length c0_3]) (t := 73) ?hr ?_; (case hd => rfl); (case hg => rfl); (case hr => first | (go_simp; done) | (go_simp; rfl)); intro gb187 hg w2 hbox hb; have n0_ := Aside0.mk (below_step (by repeat (first | (with_reducible first | exact HB.out | apply below_alloc | apply pw_below_drewN | apply below_drew1) | exact HB.out)) hb); have n1_ := Aside0.mk (hbox); have n2_ := Aside0.mk ((by rw [hg]; exact (below_size (by repeat (first | (with_reducible first | exact HB.out | apply below_alloc | apply pw_below_drewN | apply below_drew1) | exact HB.out))) : w.heap.size ≤ gb187)); have n3_ := Aside0.mk ((by rw [hg]; exact (below_size (by repeat (first | (with_reducible first | exact HB.out | apply below_alloc | apply pw_below_drewN | apply below_drew1) | exact HB.out))) : w.heap.size ≤ gb187)); clear HB; have HB := n0_; have BK187 := n1_; have GW187 := n2_; have GE187 := n3_; clear n0_ n1_ n2_ n3_; clear hb hbox hg))
  repeat (go_quiet (first | ((with_reducible refine gate_dst (N := 1) rfl ?_); (try (refine gate_guard (by rfl) ?_; dsimp only)); refine box_event ?hg (N := 1) ?hd (cs := #[.bool a0_0, .slice A0_1 l0_1.length c0_1, .slice A0_2 l0_2.length c0_2, .slice A0_3 l0_3.length c0_3]) (t := 73) ?hr ?_; (case hd => rfl); (case hg => rfl); (case hr => first | (go_simp; done) | (go_simp; rfl)); intro gb187 hg w2 hbox hb; have n0_ := Aside0.mk (below_step (by repeat (first | (with_reducible first | exact HB.out | apply below_alloc | apply pw_below_drewN | apply below_drew1) | exact HB.out)) hb); have n1_ := Aside0.mk (hbox); have n2_ := Aside0.mk ((by rw [hg]; exact (below_size (by repeat (first | (with_reducible first | exact HB.out | apply below_alloc | apply pw_below_drewN | apply below_drew1) | exact HB.out))) : w.heap.size ≤ gb187)); have n3_ := Aside0.mk ((by rw [hg]; exact (below_size (by repeat (first | (with_reducible first | exact HB.out | apply below_alloc | apply pw_below_drewN | apply below_drew1) | exact HB.out))) : w.heap.size ≤ gb187)); clear HB; have HB := n0_; have BK187 := n1_; have GW187 := n2_; have GE187 := n3_; clear n0_ n1_ n2_ n3_; clear hb hbox hg)); try go_wp2_with (first | ((with_reducible refine gate_dst (N := 1) rfl ?_); (try (refine gate_guard (by rfl) ?_; dsimp only)); refine box_event ?hg (N := 1) ?hd (cs := #[.bool a0_0, .slice A0_1 l0_1.length c0_1, .slice A0_2 l0_2.length c0_2, .slice A0_3 l0_3.length c0_3]) (t := 73) ?hr ?_; (case hd => rfl); (case hg => rfl); (case hr => first | (go_simp; done) | (go_simp; rfl)); intro gb187 hg w2 hbox hb; have n0_ := Aside0.mk (below_step (by repeat (first | (with_reducible first | exact HB.out | apply below_alloc | apply pw_below_drewN | apply below_drew1) | exact HB.out)) hb); have n1_ := Aside0.mk (hbox); have n2_ := Aside0.mk ((by rw [hg]; exact (below_size (by repeat (first | (with_reducible first | exact HB.out | apply below_alloc | apply pw_below_drewN | apply below_drew1) | exact HB.out))) : w.heap.size ≤ gb187)); have n3_ := Aside0.mk ((by rw [hg]; exact (below_size (by repeat (first | (with_reducible first | exact HB.out | apply below_alloc | apply pw_below_drewN | apply below_drew1) | exact HB.out))) : w.heap.size ≤ gb187)); clear HB; have HB := n0_; have BK187 := n1_; have GW187 := n2_; have GE187 := n3_; clear n0_ n1_ n2_ n3_; clear hb hbox hg)))
  go_loopg [3] k (fun kq v3 w' => ∃ (x3_1 : Int), v3 = .int .i64 x3_1 ∧ Aside0 (publicanref4_Good.l0 kq x3_1 a0_0 l0_1 l0_2 l0_3 = some r) ∧ Aside0 (kq ≤ k) ∧ Aside0 (w'.heap[gb187]? = some (.cells #[.bool a0_0, (.slice A0_1 l0_1.length c0_1), (.slice A0_2 l0_2.length c0_2), (.slice A0_3 l0_3.length c0_3)] 73 (0, 0))) ∧ Aside0 (Below w.heap.size w w'))
  case atStart => exact ⟨(0), (by first | rfl | (simp; done) | (simp [*]; done)), H', ⟨Nat.le_refl _⟩, ⟨by (with_reducible repeat (first | refine blk_drewN ?_ _ | refine blk_drew ?_ | refine blk_alloc ?_ _)); exact BK187.out⟩, ⟨by repeat (first | (with_reducible first | exact HB.out | apply below_alloc | apply pw_below_drewN | apply below_drew1 | refine below_set ?_ GE187.out) | exact HB.out)⟩⟩
  case round =>
    clear H'
    try clear p2
    obtain ⟨x3_1, rfl, HA, HK1, BK187, HB⟩ := hrel
    cases gk with
    | zero => exact absurd HA.out (by simp [publicanref4_Good.l0])
    | succ k1 =>
      have H := HA.out
      clear HA
      simp only [publicanref4_Good.l0] at H
      by_cases c3 : x3_1 < (l0_1.length : Int)
      · rw [if_pos c3] at H
        have c3b0 : decide (x3_1 < (l0_1.length : Int)) = true := decide_eq_true c3
        clear c3
        by_cases c4 : 0 ≤ x3_1
        · rw [if_pos c4] at H
          have c4b0 : decide (0 ≤ x3_1) = true := decide_eq_true c4
          clear c4
          by_cases c5 : ((rdOf ByteArray.empty l0_1 x3_1).size : Int) < 1
          · rw [if_pos c5] at H
            have c5b0 : decide (((rdOf ByteArray.empty l0_1 x3_1).size : Int) < 1) = true := decide_eq_true c5
            have c5b1 : decide ((rdOf ByteArray.empty l0_1 x3_1).size < 1) = true := decide_eq_true (by omega)
            clear c5
            obtain rfl := Option.some.inj H
            have hcz6_0 : wr.cell? ⟨gb187, 0, none⟩ = some (.bool a0_0) := (blk_cell BK187.out 0).trans rfl
            have hcz6_1 : wr.cell? ⟨gb187, 1, none⟩ = some (.slice A0_1 l0_1.length c0_1) := (blk_cell BK187.out 1).trans rfl
            have hcz6_2 : wr.cell? ⟨gb187, 2, none⟩ = some (.slice A0_2 l0_2.length c0_2) := (blk_cell BK187.out 2).trans rfl
            have hcz6_3 : wr.cell? ⟨gb187, 3, none⟩ = some (.slice A0_3 l0_3.length c0_3) := (blk_cell BK187.out 3).trans rfl
            have hfz6_0 := blk_frozen BK187.out 0
            have hfz6_1 := blk_frozen BK187.out 1
            have hfz6_2 := blk_frozen BK187.out 2
            have hfz6_3 := blk_frozen BK187.out 3
            have p188 : 0 ≤ (x3_1 : Int) := of_decide_eq_true (by first | (with_reducible assumption) | assumption)
            have q188 : x3_1 < (l0_1.length : Int) := of_decide_eq_true (by first | (with_reducible assumption) | assumption)
            obtain ⟨ad188, e188, hx188_0⟩ := Kd.at_string HR0_1.out x3_1 p188 q188
            cases e188
            replace hx188_0 := (HB.out.cell (World.block_lt_of_cell? w _ hx188_0)).trans hx188_0
            replace p188 := eq_true p188
            replace q188 := eq_true q188
            go_wp2
            repeat (go_quiet (fail); try go_wp2)
            go_ret
            exact ⟨by first | rfl | (simp [errW_none, errW_some] <;> rfl) | (simp [*, errW_none, errW_some] <;> rfl), by repeat (first | (with_reducible first | exact HB.out | apply below_alloc | apply pw_below_drewN | apply below_drew1 | refine below_set ?_ GE187.out) | exact HB.out)⟩
          · rw [if_neg c5] at H
            have c5b0 : decide (((rdOf ByteArray.empty l0_1 x3_1).size : Int) < 1) = false := decide_eq_false c5
            have c5b1 : decide ((rdOf ByteArray.empty l0_1 x3_1).size < 1) = false := decide_eq_false (by omega)
            clear c5
            by_cases c7 : ((rdOf ByteArray.empty l0_1 x3_1).size : Int) > 40
            · rw [if_pos c7] at H
              have c7b0 : decide (40 < ((rdOf ByteArray.empty l0_1 x3_1).size : Int)) = true := decide_eq_true c7
              have c7b1 : decide (40 < (rdOf ByteArray.empty l0_1 x3_1).size) = true := decide_eq_true (by omega)
              clear c7
              obtain rfl := Option.some.inj H
              have hcz8_0 : wr.cell? ⟨gb187, 0, none⟩ = some (.bool a0_0) := (blk_cell BK187.out 0).trans rfl
              have hcz8_1 : wr.cell? ⟨gb187, 1, none⟩ = some (.slice A0_1 l0_1.length c0_1) := (blk_cell BK187.out 1).trans rfl
              have hcz8_2 : wr.cell? ⟨gb187, 2, none⟩ = some (.slice A0_2 l0_2.length c0_2) := (blk_cell BK187.out 2).trans rfl
              have hcz8_3 : wr.cell? ⟨gb187, 3, none⟩ = some (.slice A0_3 l0_3.length c0_3) := (blk_cell BK187.out 3).trans rfl
              have hfz8_0 := blk_frozen BK187.out 0
              have hfz8_1 := blk_frozen BK187.out 1
              have hfz8_2 := blk_frozen BK187.out 2
              have hfz8_3 := blk_frozen BK187.out 3
              have p188 : 0 ≤ (x3_1 : Int) := of_decide_eq_true (by first | (with_reducible assumption) | assumption)
              have q188 : x3_1 < (l0_1.length : Int) := of_decide_eq_true (by first | (with_reducible assumption) | assumption)
              obtain ⟨ad188, e188, hx188_0⟩ := Kd.at_string HR0_1.out x3_1 p188 q188
              cases e188
              replace hx188_0 := (HB.out.cell (World.block_lt_of_cell? w _ hx188_0)).trans hx188_0
              replace p188 := eq_true p188
              replace q188 := eq_true q188
              have p189 : 0 ≤ (x3_1 : Int) := of_decide_eq_true (by first | (with_reducible assumption) | assumption)
              have q189 : x3_1 < (l0_1.length : Int) := of_decide_eq_true (by first | (with_reducible assumption) | assumption)
              obtain ⟨ad189, e189, hx189_0⟩ := Kd.at_string HR0_1.out x3_1 p189 q189
              obtain rfl : ad188 = ad189 := (by injection e189)
              replace hx189_0 := (HB.out.cell (World.block_lt_of_cell? w _ hx189_0)).trans hx189_0
              replace p189 := eq_true p189
              replace q189 := eq_true q189
              go_wp2
              repeat (go_quiet (fail); try go_wp2)
              go_ret
              exact ⟨by first | rfl | (simp [errW_none, errW_some] <;> rfl) | (simp [*, errW_none, errW_some] <;> rfl), by repeat (first | (with_reducible first | exact HB.out | apply below_alloc | apply pw_below_drewN | apply below_drew1 | refine below_set ?_ GE187.out) | exact HB.out)⟩
            · rw [if_neg c7] at H
              have c7b0 : decide (40 < ((rdOf ByteArray.empty l0_1 x3_1).size : Int)) = false := decide_eq_false c7
              have c7b1 : decide (40 < (rdOf ByteArray.empty l0_1 x3_1).size) = false := decide_eq_false (by omega)
              clear c7
              by_cases c9 : x3_1 > 0
              · rw [if_pos c9] at H
                have c9b0 : decide (0 < x3_1) = true := decide_eq_true c9
                clear c9
                obtain ⟨ji10, hji10⟩ : ∃ j_ : Int, (wrap64 (x3_1 - 1)) = j_ := ⟨_, rfl⟩
                replace H : (if 0 ≤ (ji10) then (if (ji10) < (l0_1.length : Int) then (if ((Op.bytesLess ((rdOf ByteArray.empty l0_1 (ji10)).toList) ((rdOf ByteArray.empty l0_1 x3_1).toList)) = true) then (publicanref4_Good.l0 k1 (wrap64 (x3_1 + 1)) a0_0 l0_1 l0_2 l0_3) else (some false)) else (none)) else (none)) = some r := by first | (rw [hji10] at H; exact H) | (simp only [hji10] at H ⊢; exact H)
                have hji10w : (IntKind.i64.wrap (x3_1 - 1)) = ji10 := (i64_w _).trans hji10
                by_cases c11 : 0 ≤ (ji10)
                · rw [if_pos c11] at H
                  have c11b0 : decide (0 ≤ (ji10)) = true := decide_eq_true c11
                  clear c11
                  by_cases c12 : (ji10) < (l0_1.length : Int)
                  · rw [if_pos c12] at H
                    have c12b0 : decide ((ji10) < (l0_1.length : Int)) = true := decide_eq_true c12
                    clear c12
                    by_cases c13 : ((Op.bytesLess ((rdOf ByteArray.empty l0_1 (ji10)).toList) ((rdOf ByteArray.empty l0_1 x3_1).toList)) = true)
                    · rw [if_pos c13] at H
                      have c13b0 : (Op.bytesLess ((rdOf ByteArray.empty l0_1 (ji10)).toList) ((rdOf ByteArray.empty l0_1 x3_1).toList)) = true := c13
                      clear c13
                      have H' := Aside0.mk H
                      clear H
                      have hcz14_0 : wr.cell? ⟨gb187, 0, none⟩ = some (.bool a0_0) := (blk_cell BK187.out 0).trans rfl
                      have hcz14_1 : wr.cell? ⟨gb187, 1, none⟩ = some (.slice A0_1 l0_1.length c0_1) := (blk_cell BK187.out 1).trans rfl
                      have hcz14_2 : wr.cell? ⟨gb187, 2, none⟩ = some (.slice A0_2 l0_2.length c0_2) := (blk_cell BK187.out 2).trans rfl
                      have hcz14_3 : wr.cell? ⟨gb187, 3, none⟩ = some (.slice A0_3 l0_3.length c0_3) := (blk_cell BK187.out 3).trans rfl
                      have hfz14_0 := blk_frozen BK187.out 0
                      have hfz14_1 := blk_frozen BK187.out 1
                      have hfz14_2 := blk_frozen BK187.out 2
                      have hfz14_3 := blk_frozen BK187.out 3
                      have p188 : 0 ≤ (x3_1 : Int) := of_decide_eq_true (by first | (with_reducible assumption) | assumption)
                      have q188 : x3_1 < (l0_1.length : Int) := of_decide_eq_true (by first | (with_reducible assumption) | assumption)
                      obtain ⟨ad188, e188, hx188_0⟩ := Kd.at_string HR0_1.out x3_1 p188 q188
                      cases e188
                      replace hx188_0 := (HB.out.cell (World.block_lt_of_cell? w _ hx188_0)).trans hx188_0
                      replace p188 := eq_true p188
                      replace q188 := eq_true q188
                      have p189 : 0 ≤ (x3_1 : Int) := of_decide_eq_true (by first | (with_reducible assumption) | assumption)
                      have q189 : x3_1 < (l0_1.length : Int) := of_decide_eq_true (by first | (with_reducible assumption) | assumption)
                      obtain ⟨ad189, e189, hx189_0⟩ := Kd.at_string HR0_1.out x3_1 p189 q189
                      obtain rfl : ad188 = ad189 := (by injection e189)
                      replace hx189_0 := (HB.out.cell (World.block_lt_of_cell? w _ hx189_0)).trans hx189_0
                      replace p189 := eq_true p189
                      replace q189 := eq_true q189
                      have p190 : 0 ≤ (x3_1 : Int) := of_decide_eq_true (by first | (with_reducible assumption) | assumption)
                      have q190 : x3_1 < (l0_1.length : Int) := of_decide_eq_true (by first | (with_reducible assumption) | assumption)
                      obtain ⟨ad190, e190, hx190_0⟩ := Kd.at_string HR0_1.out x3_1 p190 q190
                      obtain rfl : ad188 = ad190 := (by injection e190)
                      replace hx190_0 := (HB.out.cell (World.block_lt_of_cell? w _ hx190_0)).trans hx190_0
                      replace p190 := eq_true p190
                      replace q190 := eq_true q190
                      have p191 : 0 ≤ ((ji10) : Int) := of_decide_eq_true (by first | (with_reducible assumption) | assumption)
                      have q191 : (ji10) < (l0_1.length : Int) := of_decide_eq_true (by first | (with_reducible assumption) | assumption)
                      obtain ⟨ad191, e191, hx191_0⟩ := Kd.at_string HR0_1.out (ji10) p191 q191
                      obtain rfl : ad188 = ad191 := (by injection e191)
                      replace hx191_0 := (HB.out.cell (World.block_lt_of_cell? w _ hx191_0)).trans hx191_0
                      replace p191 := eq_true p191
                      replace q191 := eq_true q191
                      go_wp2
                      repeat (go_quiet (fail); try go_wp2)
                      go_roundg k1
                      case measure => have := HK1.out; omega
                      case rel => exact ⟨(wrap64 (x3_1 + 1)), (by first | rfl | (simp; done) | (simp [*]; done)), H', ⟨by have := HK1.out; omega⟩, ⟨by (with_reducible repeat (first | refine blk_drewN ?_ _ | refine blk_drew ?_ | refine blk_alloc ?_ _)); exact BK187.out⟩, ⟨by repeat (first | (with_reducible first | exact HB.out | apply below_alloc | apply pw_below_drewN | apply below_drew1 | refine below_set ?_ GE187.out) | exact HB.out)⟩⟩
                    · rw [if_neg c13] at H
                      have c13b0 : (Op.bytesLess ((rdOf ByteArray.empty l0_1 (ji10)).toList) ((rdOf ByteArray.empty l0_1 x3_1).toList)) = false := by simpa using c13
                      clear c13
                      obtain rfl := Option.some.inj H
                      have hcz15_0 : wr.cell? ⟨gb187, 0, none⟩ = some (.bool a0_0) := (blk_cell BK187.out 0).trans rfl
                      have hcz15_1 : wr.cell? ⟨gb187, 1, none⟩ = some (.slice A0_1 l0_1.length c0_1) := (blk_cell BK187.out 1).trans rfl
                      have hcz15_2 : wr.cell? ⟨gb187, 2, none⟩ = some (.slice A0_2 l0_2.length c0_2) := (blk_cell BK187.out 2).trans rfl
                      have hcz15_3 : wr.cell? ⟨gb187, 3, none⟩ = some (.slice A0_3 l0_3.length c0_3) := (blk_cell BK187.out 3).trans rfl
                      have hfz15_0 := blk_frozen BK187.out 0
                      have hfz15_1 := blk_frozen BK187.out 1
                      have hfz15_2 := blk_frozen BK187.out 2
                      have hfz15_3 := blk_frozen BK187.out 3
                      have p188 : 0 ≤ (x3_1 : Int) := of_decide_eq_true (by first | (with_reducible assumption) | assumption)
                      have q188 : x3_1 < (l0_1.length : Int) := of_decide_eq_true (by first | (with_reducible assumption) | assumption)
                      obtain ⟨ad188, e188, hx188_0⟩ := Kd.at_string HR0_1.out x3_1 p188 q188
                      cases e188
                      replace hx188_0 := (HB.out.cell (World.block_lt_of_cell? w _ hx188_0)).trans hx188_0
                      replace p188 := eq_true p188
                      replace q188 := eq_true q188
                      have p189 : 0 ≤ (x3_1 : Int) := of_decide_eq_true (by first | (with_reducible assumption) | assumption)
                      have q189 : x3_1 < (l0_1.length : Int) := of_decide_eq_true (by first | (with_reducible assumption) | assumption)
                      obtain ⟨ad189, e189, hx189_0⟩ := Kd.at_string HR0_1.out x3_1 p189 q189
                      obtain rfl : ad188 = ad189 := (by injection e189)
                      replace hx189_0 := (HB.out.cell (World.block_lt_of_cell? w _ hx189_0)).trans hx189_0
                      replace p189 := eq_true p189
                      replace q189 := eq_true q189
                      have p190 : 0 ≤ (x3_1 : Int) := of_decide_eq_true (by first | (with_reducible assumption) | assumption)
                      have q190 : x3_1 < (l0_1.length : Int) := of_decide_eq_true (by first | (with_reducible assumption) | assumption)
                      obtain ⟨ad190, e190, hx190_0⟩ := Kd.at_string HR0_1.out x3_1 p190 q190
                      obtain rfl : ad188 = ad190 := (by injection e190)
                      replace hx190_0 := (HB.out.cell (World.block_lt_of_cell? w _ hx190_0)).trans hx190_0
                      replace p190 := eq_true p190
                      replace q190 := eq_true q190
                      have p191 : 0 ≤ ((ji10) : Int) := of_decide_eq_true (by first | (with_reducible assumption) | assumption)
                      have q191 : (ji10) < (l0_1.length : Int) := of_decide_eq_true (by first | (with_reducible assumption) | assumption)
                      obtain ⟨ad191, e191, hx191_0⟩ := Kd.at_string HR0_1.out (ji10) p191 q191
                      obtain rfl : ad188 = ad191 := (by injection e191)
                      replace hx191_0 := (HB.out.cell (World.block_lt_of_cell? w _ hx191_0)).trans hx191_0
                      replace p191 := eq_true p191
                      replace q191 := eq_true q191
                      go_wp2
                      repeat (go_quiet (fail); try go_wp2)
                      go_ret
                      exact ⟨by first | rfl | (simp [errW_none, errW_some] <;> rfl) | (simp only [← hji10]; first | rfl | (simp [errW_none, errW_some] <;> rfl)) | (simp [*, errW_none, errW_some] <;> rfl), by repeat (first | (with_reducible first | exact HB.out | apply below_alloc | apply pw_below_drewN | apply below_drew1 | refine below_set ?_ GE187.out) | exact HB.out)⟩
                  · rw [if_neg c12] at H
                    exact absurd H (by simp)
                · rw [if_neg c11] at H
                  exact absurd H (by simp)
              · rw [if_neg c9] at H
                have c9b0 : decide (0 < x3_1) = false := decide_eq_false c9
                clear c9
                have H' := Aside0.mk H
                clear H
                have hcz16_0 : wr.cell? ⟨gb187, 0, none⟩ = some (.bool a0_0) := (blk_cell BK187.out 0).trans rfl
                have hcz16_1 : wr.cell? ⟨gb187, 1, none⟩ = some (.slice A0_1 l0_1.length c0_1) := (blk_cell BK187.out 1).trans rfl
                have hcz16_2 : wr.cell? ⟨gb187, 2, none⟩ = some (.slice A0_2 l0_2.length c0_2) := (blk_cell BK187.out 2).trans rfl
                have hcz16_3 : wr.cell? ⟨gb187, 3, none⟩ = some (.slice A0_3 l0_3.length c0_3) := (blk_cell BK187.out 3).trans rfl
                have hfz16_0 := blk_frozen BK187.out 0
                have hfz16_1 := blk_frozen BK187.out 1
                have hfz16_2 := blk_frozen BK187.out 2
                have hfz16_3 := blk_frozen BK187.out 3
                have p188 : 0 ≤ (x3_1 : Int) := of_decide_eq_true (by first | (with_reducible assumption) | assumption)
                have q188 : x3_1 < (l0_1.length : Int) := of_decide_eq_true (by first | (with_reducible assumption) | assumption)
                obtain ⟨ad188, e188, hx188_0⟩ := Kd.at_string HR0_1.out x3_1 p188 q188
                cases e188
                replace hx188_0 := (HB.out.cell (World.block_lt_of_cell? w _ hx188_0)).trans hx188_0
                replace p188 := eq_true p188
                replace q188 := eq_true q188
                have p189 : 0 ≤ (x3_1 : Int) := of_decide_eq_true (by first | (with_reducible assumption) | assumption)
                have q189 : x3_1 < (l0_1.length : Int) := of_decide_eq_true (by first | (with_reducible assumption) | assumption)
                obtain ⟨ad189, e189, hx189_0⟩ := Kd.at_string HR0_1.out x3_1 p189 q189
                obtain rfl : ad188 = ad189 := (by injection e189)
                replace hx189_0 := (HB.out.cell (World.block_lt_of_cell? w _ hx189_0)).trans hx189_0
                replace p189 := eq_true p189
                replace q189 := eq_true q189
                go_wp2
                repeat (go_quiet (fail); try go_wp2)
                go_roundg k1
                case measure => have := HK1.out; omega
                case rel => exact ⟨(wrap64 (x3_1 + 1)), (by first | rfl | (simp; done) | (simp [*]; done)), H', ⟨by have := HK1.out; omega⟩, ⟨by (with_reducible repeat (first | refine blk_drewN ?_ _ | refine blk_drew ?_ | refine blk_alloc ?_ _)); exact BK187.out⟩, ⟨by repeat (first | (with_reducible first | exact HB.out | apply below_alloc | apply pw_below_drewN | apply below_drew1 | refine below_set ?_ GE187.out) | exact HB.out)⟩⟩
        · rw [if_neg c4] at H
          exact absurd H (by simp)
      · rw [if_neg c3] at H
        have c3b0 : decide (x3_1 < (l0_1.length : Int)) = false := decide_eq_false c3
        clear c3
        have H' := Aside0.mk H
        clear H
        have hcz17_0 : wr.cell? ⟨gb187, 0, none⟩ = some (.bool a0_0) := (blk_cell BK187.out 0).trans rfl
        have hcz17_1 : wr.cell? ⟨gb187, 1, none⟩ = some (.slice A0_1 l0_1.length c0_1) := (blk_cell BK187.out 1).trans rfl
        have hcz17_2 : wr.cell? ⟨gb187, 2, none⟩ = some (.slice A0_2 l0_2.length c0_2) := (blk_cell BK187.out 2).trans rfl
        have hcz17_3 : wr.cell? ⟨gb187, 3, none⟩ = some (.slice A0_3 l0_3.length c0_3) := (blk_cell BK187.out 3).trans rfl
        have hfz17_0 := blk_frozen BK187.out 0
        have hfz17_1 := blk_frozen BK187.out 1
        have hfz17_2 := blk_frozen BK187.out 2
        have hfz17_3 := blk_frozen BK187.out 3
        go_wp2
        repeat (go_quiet (fail); try go_wp2)
        go_loopg [4] k1 (fun kq v4 w' => ∃ (x4_2 : Int), v4 = .int .i64 x4_2 ∧ Aside0 (publicanref4_Good.l1 kq x4_2 a0_0 l0_1 l0_2 l0_3 = some r) ∧ Aside0 (kq ≤ k1) ∧ Aside0 (w'.heap[gb187]? = some (.cells #[.bool a0_0, (.slice A0_1 l0_1.length c0_1), (.slice A0_2 l0_2.length c0_2), (.slice A0_3 l0_3.length c0_3)] 73 (0, 0))) ∧ Aside0 (Below w.heap.size w w'))
        case atStart => exact ⟨(0), (by first | rfl | (simp; done) | (simp [*]; done)), H', ⟨Nat.le_refl _⟩, ⟨by (with_reducible repeat (first | refine blk_drewN ?_ _ | refine blk_drew ?_ | refine blk_alloc ?_ _)); exact BK187.out⟩, ⟨by repeat (first | (with_reducible first | exact HB.out | apply below_alloc | apply pw_below_drewN | apply below_drew1 | refine below_set ?_ GE187.out) | exact HB.out)⟩⟩
        case round =>
          clear H'
          try clear c1
          try clear p1
          try clear q1
          try clear hx1
          try clear p2
          try clear c3
          try clear c3b0
          try clear c4
          try clear c4b0
          try clear c5
          try clear c5b0
          try clear c5b1
          try clear p6
          try clear c7
          try clear c7b0
          try clear c7b1
          try clear c9
          try clear c9b0
          try clear c11
          try clear c11b0
          try clear c12
          try clear c12b0
          try clear c13
          try clear c13b0
          try clear hcz14_0
          try clear hcz14_1
          try clear hcz14_2
          try clear hcz14_3
          try clear hcz15_0
          try clear hcz15_1
          try clear hcz15_2
          try clear hcz15_3
          try clear hcz16_0
          try clear hcz16_1
          try clear hcz16_2
          try clear hcz16_3
          try clear hcz17_0
          try clear hcz17_1
          try clear hcz17_2
          try clear hcz17_3
          try clear hcz6_0
          try clear hcz6_1
          try clear hcz6_2
          try clear hcz6_3
          try clear hcz8_0
          try clear hcz8_1
          try clear hcz8_2
          try clear hcz8_3
          try clear hfz14_0
          try clear hfz14_1
          try clear hfz14_2
          try clear hfz14_3
          try clear hfz15_0
          try clear hfz15_1
          try clear hfz15_2
          try clear hfz15_3
          try clear hfz16_0
          try clear hfz16_1
          try clear hfz16_2
          try clear hfz16_3
          try clear hfz17_0
          try clear hfz17_1
          try clear hfz17_2
          try clear hfz17_3
          try clear hfz6_0
          try clear hfz6_1
          try clear hfz6_2
          try clear hfz6_3
          try clear hfz8_0
          try clear hfz8_1
          try clear hfz8_2
          try clear hfz8_3
          try clear hx188_0
          try clear hx189_0
          try clear hx190_0
          try clear hx191_0
          try clear p188
          try clear p189
          try clear p190
          try clear p191
          try clear p2
          try clear q188
          try clear q189
          try clear q190
          try clear q191
          obtain ⟨x4_2, rfl, HA, HK2, BK187, HB⟩ := hrel
          cases gk with
          | zero => exact absurd HA.out (by simp [publicanref4_Good.l1])
          | succ k2 =>
            have H := HA.out
            clear HA
            simp only [publicanref4_Good.l1] at H
            by_cases c18 : x4_2 < (l0_2.length : Int)
            · rw [if_pos c18] at H
              have c18b0 : decide (x4_2 < (l0_2.length : Int)) = true := decide_eq_true c18
              clear c18
              by_cases c19 : 0 ≤ x4_2
              · rw [if_pos c19] at H
                have c19b0 : decide (0 ≤ x4_2) = true := decide_eq_true c19
                clear c19
                by_cases c20 : ((rdOf ByteArray.empty l0_2 x4_2).size : Int) > 400
                · rw [if_pos c20] at H
                  have c20b0 : decide (400 < ((rdOf ByteArray.empty l0_2 x4_2).size : Int)) = true := decide_eq_true c20
                  have c20b1 : decide (400 < (rdOf ByteArray.empty l0_2 x4_2).size) = true := decide_eq_true (by omega)
                  clear c20
                  obtain rfl := Option.some.inj H
                  have hcz21_0 : wr.cell? ⟨gb187, 0, none⟩ = some (.bool a0_0) := (blk_cell BK187.out 0).trans rfl
                  have hcz21_1 : wr.cell? ⟨gb187, 1, none⟩ = some (.slice A0_1 l0_1.length c0_1) := (blk_cell BK187.out 1).trans rfl
                  have hcz21_2 : wr.cell? ⟨gb187, 2, none⟩ = some (.slice A0_2 l0_2.length c0_2) := (blk_cell BK187.out 2).trans rfl
                  have hcz21_3 : wr.cell? ⟨gb187, 3, none⟩ = some (.slice A0_3 l0_3.length c0_3) := (blk_cell BK187.out 3).trans rfl
                  have hfz21_0 := blk_frozen BK187.out 0
                  have hfz21_1 := blk_frozen BK187.out 1
                  have hfz21_2 := blk_frozen BK187.out 2
                  have hfz21_3 := blk_frozen BK187.out 3
                  have p192 : 0 ≤ (x4_2 : Int) := of_decide_eq_true (by first | (with_reducible assumption) | assumption)
                  have q192 : x4_2 < (l0_2.length : Int) := of_decide_eq_true (by first | (with_reducible assumption) | assumption)
                  obtain ⟨ad192, e192, hx192_0⟩ := Kd.at_string HR0_2.out x4_2 p192 q192
                  cases e192
                  replace hx192_0 := (HB.out.cell (World.block_lt_of_cell? w _ hx192_0)).trans hx192_0
                  replace p192 := eq_true p192
                  replace q192 := eq_true q192
                  go_wp2
                  repeat (go_quiet (fail); try go_wp2)
                  go_ret
                  exact ⟨by first | rfl | (simp [errW_none, errW_some] <;> rfl) | (simp [*, errW_none, errW_some] <;> rfl), by repeat (first | (with_reducible first | exact HB.out | apply below_alloc | apply pw_below_drewN | apply below_drew1 | refine below_set ?_ GE187.out) | exact HB.out)⟩
                · rw [if_neg c20] at H
                  have c20b0 : decide (400 < ((rdOf ByteArray.empty l0_2 x4_2).size : Int)) = false := decide_eq_false c20
                  have c20b1 : decide (400 < (rdOf ByteArray.empty l0_2 x4_2).size) = false := decide_eq_false (by omega)
                  clear c20
                  have H' := Aside0.mk H
                  clear H
                  have hcz22_0 : wr.cell? ⟨gb187, 0, none⟩ = some (.bool a0_0) := (blk_cell BK187.out 0).trans rfl
                  have hcz22_1 : wr.cell? ⟨gb187, 1, none⟩ = some (.slice A0_1 l0_1.length c0_1) := (blk_cell BK187.out 1).trans rfl
                  have hcz22_2 : wr.cell? ⟨gb187, 2, none⟩ = some (.slice A0_2 l0_2.length c0_2) := (blk_cell BK187.out 2).trans rfl
                  have hcz22_3 : wr.cell? ⟨gb187, 3, none⟩ = some (.slice A0_3 l0_3.length c0_3) := (blk_cell BK187.out 3).trans rfl
                  have hfz22_0 := blk_frozen BK187.out 0
                  have hfz22_1 := blk_frozen BK187.out 1
                  have hfz22_2 := blk_frozen BK187.out 2
                  have hfz22_3 := blk_frozen BK187.out 3
                  have p192 : 0 ≤ (x4_2 : Int) := of_decide_eq_true (by first | (with_reducible assumption) | assumption)
                  have q192 : x4_2 < (l0_2.length : Int) := of_decide_eq_true (by first | (with_reducible assumption) | assumption)
                  obtain ⟨ad192, e192, hx192_0⟩ := Kd.at_string HR0_2.out x4_2 p192 q192
                  cases e192
                  replace hx192_0 := (HB.out.cell (World.block_lt_of_cell? w _ hx192_0)).trans hx192_0
                  replace p192 := eq_true p192
                  replace q192 := eq_true q192
                  go_wp2
                  repeat (go_quiet (fail); try go_wp2)
                  go_roundg k2
                  case measure => have := HK1.out; have := HK2.out; omega
                  case rel => exact ⟨(wrap64 (x4_2 + 1)), (by first | rfl | (simp; done) | (simp [*]; done)), H', ⟨by have := HK1.out; have := HK2.out; omega⟩, ⟨by (with_reducible repeat (first | refine blk_drewN ?_ _ | refine blk_drew ?_ | refine blk_alloc ?_ _)); exact BK187.out⟩, ⟨by repeat (first | (with_reducible first | exact HB.out | apply below_alloc | apply pw_below_drewN | apply below_drew1 | refine below_set ?_ GE187.out) | exact HB.out)⟩⟩
              · rw [if_neg c19] at H
                exact absurd H (by simp)
            · rw [if_neg c18] at H
              have c18b0 : decide (x4_2 < (l0_2.length : Int)) = false := decide_eq_false c18
              clear c18
              have H' := Aside0.mk H
              clear H
              have hcz23_0 : wr.cell? ⟨gb187, 0, none⟩ = some (.bool a0_0) := (blk_cell BK187.out 0).trans rfl
              have hcz23_1 : wr.cell? ⟨gb187, 1, none⟩ = some (.slice A0_1 l0_1.length c0_1) := (blk_cell BK187.out 1).trans rfl
              have hcz23_2 : wr.cell? ⟨gb187, 2, none⟩ = some (.slice A0_2 l0_2.length c0_2) := (blk_cell BK187.out 2).trans rfl
              have hcz23_3 : wr.cell? ⟨gb187, 3, none⟩ = some (.slice A0_3 l0_3.length c0_3) := (blk_cell BK187.out 3).trans rfl
              have hfz23_0 := blk_frozen BK187.out 0
              have hfz23_1 := blk_frozen BK187.out 1
              have hfz23_2 := blk_frozen BK187.out 2
              have hfz23_3 := blk_frozen BK187.out 3
              go_wp2
              repeat (go_quiet (fail); try go_wp2)
              go_loopg [5] k2 (fun kq v5 w' => ∃ (x5_3 : Int), v5 = .int .i64 x5_3 ∧ Aside0 (publicanref4_Good.l2 kq x5_3 a0_0 l0_1 l0_2 l0_3 = some r) ∧ Aside0 (kq ≤ k2) ∧ Aside0 (w'.heap[gb187]? = some (.cells #[.bool a0_0, (.slice A0_1 l0_1.length c0_1), (.slice A0_2 l0_2.length c0_2), (.slice A0_3 l0_3.length c0_3)] 73 (0, 0))) ∧ Aside0 (Below w.heap.size w w'))
              case atStart => exact ⟨(0), (by first | rfl | (simp; done) | (simp [*]; done)), H', ⟨Nat.le_refl _⟩, ⟨by (with_reducible repeat (first | refine blk_drewN ?_ _ | refine blk_drew ?_ | refine blk_alloc ?_ _)); exact BK187.out⟩, ⟨by repeat (first | (with_reducible first | exact HB.out | apply below_alloc | apply pw_below_drewN | apply below_drew1 | refine below_set ?_ GE187.out) | exact HB.out)⟩⟩
              case round =>
                clear H'
                try clear c1
                try clear p1
                try clear q1
                try clear hx1
                try clear c2
                try clear p2
                try clear c3
                try clear c3b0
                try clear c4
                try clear c4b0
                try clear c5
                try clear c5b0
                try clear c5b1
                try clear p6
                try clear c7
                try clear c7b0
                try clear c7b1
                try clear c9
                try clear c9b0
                try clear c11
                try clear c11b0
                try clear c12
                try clear c12b0
                try clear c13
                try clear c13b0
                try clear c18
                try clear c18b0
                try clear p18
                try clear q18
                try clear hx18
                try clear c19
                try clear c19b0
                try clear p19
                try clear q19
                try clear hx19
                try clear c20
                try clear c20b0
                try clear c20b1
                try clear hcz14_0
                try clear hcz14_1
                try clear hcz14_2
                try clear hcz14_3
                try clear hcz15_0
                try clear hcz15_1
                try clear hcz15_2
                try clear hcz15_3
                try clear hcz16_0
                try clear hcz16_1
                try clear hcz16_2
                try clear hcz16_3
                try clear hcz17_0
                try clear hcz17_1
                try clear hcz17_2
                try clear hcz17_3
                try clear hcz21_0
                try clear hcz21_1
                try clear hcz21_2
                try clear hcz21_3
                try clear hcz22_0
                try clear hcz22_1
                try clear hcz22_2
                try clear hcz22_3
                try clear hcz23_0
                try clear hcz23_1
                try clear hcz23_2
                try clear hcz23_3
                try clear hcz6_0
                try clear hcz6_1
                try clear hcz6_2
                try clear hcz6_3
                try clear hcz8_0
                try clear hcz8_1
                try clear hcz8_2
                try clear hcz8_3
                try clear hfz14_0
                try clear hfz14_1
                try clear hfz14_2
                try clear hfz14_3
                try clear hfz15_0
                try clear hfz15_1
                try clear hfz15_2
                try clear hfz15_3
                try clear hfz16_0
                try clear hfz16_1
                try clear hfz16_2
                try clear hfz16_3
                try clear hfz17_0
                try clear hfz17_1
                try clear hfz17_2
                try clear hfz17_3
                try clear hfz21_0
                try clear hfz21_1
                try clear hfz21_2
                try clear hfz21_3
                try clear hfz22_0
                try clear hfz22_1
                try clear hfz22_2
                try clear hfz22_3
                try clear hfz23_0
                try clear hfz23_1
                try clear hfz23_2
                try clear hfz23_3
                try clear hfz6_0
                try clear hfz6_1
                try clear hfz6_2
                try clear hfz6_3
                try clear hfz8_0
                try clear hfz8_1
                try clear hfz8_2
                try clear hfz8_3
                try clear hx188_0
                try clear hx189_0
                try clear hx190_0
                try clear hx191_0
                try clear hx192_0
                try clear p1
                try clear p188
                try clear p189
                try clear p190
                try clear p191
                try clear p192
                try clear p2
                try clear p6
                try clear q1
                try clear q188
                try clear q189
                try clear q190
                try clear q191
                try clear q192
                obtain ⟨x5_3, rfl, HA, HK3, BK187, HB⟩ := hrel
                cases gk with
                | zero => exact absurd HA.out (by simp [publicanref4_Good.l2])
                | succ k3 =>
                  have H := HA.out
                  clear HA
                  simp only [publicanref4_Good.l2] at H
                  by_cases c24 : x5_3 < (l0_3.length : Int)
                  · rw [if_pos c24] at H
                    have c24b0 : decide (x5_3 < (l0_3.length : Int)) = true := decide_eq_true c24
                    clear c24
                    by_cases c25 : 0 ≤ x5_3
                    · rw [if_pos c25] at H
                      have c25b0 : decide (0 ≤ x5_3) = true := decide_eq_true c25
                      clear c25
                      by_cases c26 : (rd l0_3 x5_3) = 0
                      · rw [if_pos c26] at H
                        have c26b0 : ((rd l0_3 x5_3) == 0) = true := beq_iff_eq.mpr c26
                        have c26b1 : ((rd l0_3 x5_3) != 0) = false := bne_eq_false_iff_eq.mpr c26
                        clear c26
                        obtain rfl := Option.some.inj H
                        have hcz27_0 : wr.cell? ⟨gb187, 0, none⟩ = some (.bool a0_0) := (blk_cell BK187.out 0).trans rfl
                        have hcz27_1 : wr.cell? ⟨gb187, 1, none⟩ = some (.slice A0_1 l0_1.length c0_1) := (blk_cell BK187.out 1).trans rfl
                        have hcz27_2 : wr.cell? ⟨gb187, 2, none⟩ = some (.slice A0_2 l0_2.length c0_2) := (blk_cell BK187.out 2).trans rfl
                        have hcz27_3 : wr.cell? ⟨gb187, 3, none⟩ = some (.slice A0_3 l0_3.length c0_3) := (blk_cell BK187.out 3).trans rfl
                        have hfz27_0 := blk_frozen BK187.out 0
                        have hfz27_1 := blk_frozen BK187.out 1
                        have hfz27_2 := blk_frozen BK187.out 2
                        have hfz27_3 := blk_frozen BK187.out 3
                        have p193 : 0 ≤ (x5_3 : Int) := of_decide_eq_true (by first | (with_reducible assumption) | assumption)
                        have q193 : x5_3 < (l0_3.length : Int) := of_decide_eq_true (by first | (with_reducible assumption) | assumption)
                        obtain ⟨ad193, e193, hx193_0⟩ := Kd.at_int HR0_3.out x5_3 p193 q193
                        cases e193
                        replace hx193_0 := (HB.out.cell (World.block_lt_of_cell? w _ hx193_0)).trans hx193_0
                        replace p193 := eq_true p193
                        replace q193 := eq_true q193
                        go_wp2
                        repeat (go_quiet (fail); try go_wp2)
                        go_ret
                        exact ⟨by first | rfl | (simp [errW_none, errW_some] <;> rfl) | (simp [*, errW_none, errW_some] <;> rfl), by repeat (first | (with_reducible first | exact HB.out | apply below_alloc | apply pw_below_drewN | apply below_drew1 | refine below_set ?_ GE187.out) | exact HB.out)⟩
                      · rw [if_neg c26] at H
                        have c26b0 : ((rd l0_3 x5_3) == 0) = false := beq_eq_false_iff_ne.mpr c26
                        have c26b1 : ((rd l0_3 x5_3) != 0) = true := bne_iff_ne.mpr c26
                        have H' := Aside0.mk H
                        clear H
                        have hcz28_0 : wr.cell? ⟨gb187, 0, none⟩ = some (.bool a0_0) := (blk_cell BK187.out 0).trans rfl
                        have hcz28_1 : wr.cell? ⟨gb187, 1, none⟩ = some (.slice A0_1 l0_1.length c0_1) := (blk_cell BK187.out 1).trans rfl
                        have hcz28_2 : wr.cell? ⟨gb187, 2, none⟩ = some (.slice A0_2 l0_2.length c0_2) := (blk_cell BK187.out 2).trans rfl
                        have hcz28_3 : wr.cell? ⟨gb187, 3, none⟩ = some (.slice A0_3 l0_3.length c0_3) := (blk_cell BK187.out 3).trans rfl
                        have hfz28_0 := blk_frozen BK187.out 0
                        have hfz28_1 := blk_frozen BK187.out 1
                        have hfz28_2 := blk_frozen BK187.out 2
                        have hfz28_3 := blk_frozen BK187.out 3
                        have p193 : 0 ≤ (x5_3 : Int) := of_decide_eq_true (by first | (with_reducible assumption) | assumption)
                        have q193 : x5_3 < (l0_3.length : Int) := of_decide_eq_true (by first | (with_reducible assumption) | assumption)
                        obtain ⟨ad193, e193, hx193_0⟩ := Kd.at_int HR0_3.out x5_3 p193 q193
                        cases e193
                        replace hx193_0 := (HB.out.cell (World.block_lt_of_cell? w _ hx193_0)).trans hx193_0
                        replace p193 := eq_true p193
                        replace q193 := eq_true q193
                        go_wp2
                        repeat (go_quiet (fail); try go_wp2)
                        go_roundg k3
                        case measure => have := HK1.out; have := HK2.out; have := HK3.out; omega
                        case rel => exact ⟨(wrap64 (x5_3 + 1)), (by first | rfl | (simp; done) | (simp [*]; done)), H', ⟨by have := HK1.out; have := HK2.out; have := HK3.out; omega⟩, ⟨by (with_reducible repeat (first | refine blk_drewN ?_ _ | refine blk_drew ?_ | refine blk_alloc ?_ _)); exact BK187.out⟩, ⟨by repeat (first | (with_reducible first | exact HB.out | apply below_alloc | apply pw_below_drewN | apply below_drew1 | refine below_set ?_ GE187.out) | exact HB.out)⟩⟩
                    · rw [if_neg c25] at H
                      exact absurd H (by simp)
                  · rw [if_neg c24] at H
                    have c24b0 : decide (x5_3 < (l0_3.length : Int)) = false := decide_eq_false c24
                    clear c24
                    by_cases c29 : a0_0 = true
                    · subst c29
                      have H1 : (if (l0_2.length : Int) = (l0_1.length : Int) then (some ((l0_3.length : Int) == 0)) else (some false)) = some r := by rw [if_pos rfl] at H; exact H
                      clear H
                      have H := H1
                      clear H1
                      by_cases c30 : (l0_2.length : Int) = (l0_1.length : Int)
                      · rw [if_pos c30] at H
                        have c30b0 : ((l0_2.length : Int) == (l0_1.length : Int)) = true := beq_iff_eq.mpr c30
                        have c30b1 : ((l0_2.length : Int) != (l0_1.length : Int)) = false := bne_eq_false_iff_eq.mpr c30
                        have c30b2 : (l0_2.length == l0_1.length) = true := by first | simpa using c30 | (simp at c30 ⊢; omega)
                        clear c30
                        obtain rfl := Option.some.inj H
                        have hcz31_0 : wr.cell? ⟨gb187, 0, none⟩ = some (.bool true) := (blk_cell BK187.out 0).trans rfl
                        have hcz31_1 : wr.cell? ⟨gb187, 1, none⟩ = some (.slice A0_1 l0_1.length c0_1) := (blk_cell BK187.out 1).trans rfl
                        have hcz31_2 : wr.cell? ⟨gb187, 2, none⟩ = some (.slice A0_2 l0_2.length c0_2) := (blk_cell BK187.out 2).trans rfl
                        have hcz31_3 : wr.cell? ⟨gb187, 3, none⟩ = some (.slice A0_3 l0_3.length c0_3) := (blk_cell BK187.out 3).trans rfl
                        have hfz31_0 := blk_frozen BK187.out 0
                        have hfz31_1 := blk_frozen BK187.out 1
                        have hfz31_2 := blk_frozen BK187.out 2
                        have hfz31_3 := blk_frozen BK187.out 3
                        go_wp2
                        repeat (go_quiet (fail); try go_wp2)
                        go_ret
                        exact ⟨by first | rfl | (simp [errW_none, errW_some] <;> rfl) | (simp [*, errW_none, errW_some] <;> rfl), by repeat (first | (with_reducible first | exact HB.out | apply below_alloc | apply pw_below_drewN | apply below_drew1 | refine below_set ?_ GE187.out) | exact HB.out)⟩
                      · rw [if_neg c30] at H
                        have c30b0 : ((l0_2.length : Int) == (l0_1.length : Int)) = false := beq_eq_false_iff_ne.mpr c30
                        have c30b1 : ((l0_2.length : Int) != (l0_1.length : Int)) = true := bne_iff_ne.mpr c30
                        have c30b2 : (l0_2.length == l0_1.length) = false := by first | simpa using c30 | (simp at c30 ⊢; omega)
                        obtain rfl := Option.some.inj H
                        have hcz32_0 : wr.cell? ⟨gb187, 0, none⟩ = some (.bool true) := (blk_cell BK187.out 0).trans rfl
                        have hcz32_1 : wr.cell? ⟨gb187, 1, none⟩ = some (.slice A0_1 l0_1.length c0_1) := (blk_cell BK187.out 1).trans rfl
                        have hcz32_2 : wr.cell? ⟨gb187, 2, none⟩ = some (.slice A0_2 l0_2.length c0_2) := (blk_cell BK187.out 2).trans rfl
                        have hcz32_3 : wr.cell? ⟨gb187, 3, none⟩ = some (.slice A0_3 l0_3.length c0_3) := (blk_cell BK187.out 3).trans rfl
                        have hfz32_0 := blk_frozen BK187.out 0
                        have hfz32_1 := blk_frozen BK187.out 1
                        have hfz32_2 := blk_frozen BK187.out 2
                        have hfz32_3 := blk_frozen BK187.out 3
                        go_wp2
                        repeat (go_quiet (fail); try go_wp2)
                        go_ret
                        exact ⟨by first | rfl | (simp [errW_none, errW_some] <;> rfl) | (simp [*, errW_none, errW_some] <;> rfl), by repeat (first | (with_reducible first | exact HB.out | apply below_alloc | apply pw_below_drewN | apply below_drew1 | refine below_set ?_ GE187.out) | exact HB.out)⟩
                    · replace c29 := Bool.eq_false_iff.mpr c29
                      subst c29
                      have H1 : (if (l0_2.length : Int) = 0 then (some ((l0_3.length : Int) == (wrap64 ((l0_1.length : Int) + 1)))) else (some false)) = some r := by rw [if_neg (show ¬ (false = true) by decide)] at H; exact H
                      clear H
                      have H := H1
                      clear H1
                      by_cases c33 : (l0_2.length : Int) = 0
                      · rw [if_pos c33] at H
                        have c33b0 : ((l0_2.length : Int) == 0) = true := beq_iff_eq.mpr c33
                        have c33b1 : ((l0_2.length : Int) != 0) = false := bne_eq_false_iff_eq.mpr c33
                        clear c33
                        obtain rfl := Option.some.inj H
                        have hcz34_0 : wr.cell? ⟨gb187, 0, none⟩ = some (.bool false) := (blk_cell BK187.out 0).trans rfl
                        have hcz34_1 : wr.cell? ⟨gb187, 1, none⟩ = some (.slice A0_1 l0_1.length c0_1) := (blk_cell BK187.out 1).trans rfl
                        have hcz34_2 : wr.cell? ⟨gb187, 2, none⟩ = some (.slice A0_2 l0_2.length c0_2) := (blk_cell BK187.out 2).trans rfl
                        have hcz34_3 : wr.cell? ⟨gb187, 3, none⟩ = some (.slice A0_3 l0_3.length c0_3) := (blk_cell BK187.out 3).trans rfl
                        have hfz34_0 := blk_frozen BK187.out 0
                        have hfz34_1 := blk_frozen BK187.out 1
                        have hfz34_2 := blk_frozen BK187.out 2
                        have hfz34_3 := blk_frozen BK187.out 3
                        go_wp2
                        repeat (go_quiet (fail); try go_wp2)
                        go_ret
                        exact ⟨by first | rfl | (simp [errW_none, errW_some] <;> rfl) | (simp [*, errW_none, errW_some] <;> rfl), by repeat (first | (with_reducible first | exact HB.out | apply below_alloc | apply pw_below_drewN | apply below_drew1 | refine below_set ?_ GE187.out) | exact HB.out)⟩
                      · rw [if_neg c33] at H
                        have c33b0 : ((l0_2.length : Int) == 0) = false := beq_eq_false_iff_ne.mpr c33
                        have c33b1 : ((l0_2.length : Int) != 0) = true := bne_iff_ne.mpr c33
                        have c33b2 : ¬ (l0_2 = []) := fun h_ => c33 (by rw [h_]; rfl)
                        obtain rfl := Option.some.inj H
                        have hcz35_0 : wr.cell? ⟨gb187, 0, none⟩ = some (.bool false) := (blk_cell BK187.out 0).trans rfl
                        have hcz35_1 : wr.cell? ⟨gb187, 1, none⟩ = some (.slice A0_1 l0_1.length c0_1) := (blk_cell BK187.out 1).trans rfl
                        have hcz35_2 : wr.cell? ⟨gb187, 2, none⟩ = some (.slice A0_2 l0_2.length c0_2) := (blk_cell BK187.out 2).trans rfl
                        have hcz35_3 : wr.cell? ⟨gb187, 3, none⟩ = some (.slice A0_3 l0_3.length c0_3) := (blk_cell BK187.out 3).trans rfl
                        have hfz35_0 := blk_frozen BK187.out 0
                        have hfz35_1 := blk_frozen BK187.out 1
                        have hfz35_2 := blk_frozen BK187.out 2
                        have hfz35_3 := blk_frozen BK187.out 3
                        go_wp2
                        repeat (go_quiet (fail); try go_wp2)
                        go_ret
                        exact ⟨by first | rfl | (simp [errW_none, errW_some] <;> rfl) | (simp [*, errW_none, errW_some] <;> rfl), by repeat (first | (with_reducible first | exact HB.out | apply below_alloc | apply pw_below_drewN | apply below_drew1 | refine below_set ?_ GE187.out) | exact HB.out)⟩

end Go.Proofs.Ytlbikfamjogpnaa.QPage
end

/- Go functions as plain Lean functions, and a proof for each that its call comes to what the plain one tells; printed by a program of this repo's over the kit's print. Conditions: those that each theorem names. -/
section
namespace Go.Proofs.Ytlbikfamjogpnaa.QPage
open Go.RowKit Go.Proofs.YtlbikfamjogpnaaW.PrintWords Go.Proofs.YtlbikfamjogpnaaW.PrintLast Go.Proofs.YtlbikfamjogpnaaW.PrintMore
attribute [local go_sem] max2_int min2_int max_two min_two max_three min_three max_four min_four   -- for this text's walks alone
set_option linter.unusedVariables false
set_option linter.unusedSimpArgs false

/-! ### publicanref1_PutU: function 83 -/
/-! ### publicanref1_PutS: function 84 -/
/-! ### publicanref4_Encode: function 43 -/
-- NOT PRINTED: function 8 (publicanlaw6_PageBytes)

-- NOT PRINTED: function 107 (publicanref1_Reader_fail)

-- NOT PRINTED: function 85 (publicanref1_Reader_U)

-- NOT PRINTED: function 86 (publicanref1_Reader_S)

-- NOT PRINTED: function 46 (publicanref4_Decode)

-- NOT PRINTED: function 9 (publicanlaw6_PageReads)

-- NOT PRINTED: function 47 (publicanref4_Split)

/-! ### publicanref4_place: function 89 -/
-- NOT PRINTED: function 51 (publicanref4_PutLeaf)

-- NOT PRINTED: function 53 (publicanref4_DropLeaf)

-- NOT PRINTED: function 10 (publicanlaw6_PageKeys)

-- NOT PRINTED: function 11 (publicanlaw6_PageSplits)

-- NOT PRINTED: function 12 (publicanlaw6_PageOrder)

-- NOT PRINTED: function 7 (publicanlaw6_PageKnown)

end Go.Proofs.Ytlbikfamjogpnaa.QPage
end

/- Go functions as plain Lean functions, and a proof for each that its call comes to what the plain one tells; printed by a program of this repo's over the kit's print. Conditions: those that each theorem names. -/
section
namespace Go.Proofs.Ytlbikfamjogpnaa.QPage
open Go.RowKit Go.Proofs.YtlbikfamjogpnaaW.PrintWords Go.Proofs.YtlbikfamjogpnaaW.PrintLast Go.Proofs.YtlbikfamjogpnaaW.PrintMore
attribute [local go_sem] max2_int min2_int max_two min_two max_three min_three max_four min_four   -- for this text's walks alone
set_option linter.unusedVariables false
set_option linter.unusedSimpArgs false

end Go.Proofs.Ytlbikfamjogpnaa.QPage
end
