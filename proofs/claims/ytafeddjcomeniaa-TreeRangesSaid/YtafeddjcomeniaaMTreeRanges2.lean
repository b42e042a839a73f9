/- The texts of this proof, joined: contracts of the functions that the law reaches, and what they come to in plain Lean. Conditions: those that each theorem names. -/
import Derived.Test.YtafeddjcomeniaaMTreeRanges1
import Derived.Deep.LoopGhost
import Derived.Deep.DrawnRows
import Derived.RangeFuncOwn
import Derived.RangeFuncNested
import Derived.RangeFuncBound
import Derived.RangeFuncCalls
import Derived.RangeFuncLeaves
import Derived.Shelf.RegionOpen
import Derived.WalkKit
import Derived.OwnWalkIn
import Derived.TacticsInMore
import Derived.LoopNIn
import Derived.LoopIn
import Derived.OrdersIn
import Derived.RangeFuncWrites
import Derived.Test.YtafeddjcomeniaaMTreeRanges0

/- page.Split of a leaf. Conditions: the page reads in memory; it may be, and has few keys, two at least. -/
section
namespace Go.Proofs.Ytafeddjcomeniaa
open Go.RowKit
set_option linter.unusedVariables false
set_option linter.unusedSimpArgs false

theorem results_csc {P : Program} {fn : Func} {p u q : Tmp} {ty : TypeId} (h : fn.results = #[.cell p ty, .tmp u, .cell q ty]) (tmps : Array Value) (w : World) (g g' : Nat) (t : TypeId) (cs cs' : Array Value) (fr fr' : Nat × Nat) (d : TypeDesc)
    (hp : tmps.getD p undef = .pointer (some ⟨g, 0, none⟩)) (hq : tmps.getD q undef = .pointer (some ⟨g', 0, none⟩)) (hg : w.heap[g]? = some (.cells cs t fr)) (hg' : w.heap[g']? = some (.cells cs' t fr'))
    (hu : P.underlying ty = some d) (hd : (match d with | .struct _ | .array _ _ => true | _ => false) = true) (hi : (P.info? ty).map (·.size) = some cs.size) (hi' : (P.info? ty).map (·.size) = some cs'.size) :
    (results fn tmps).run P w = .ok (.tuple #[.agg cs, tmps.getD u undef, .agg cs']) w := by
  have hp' : tmps[p]?.getD undef = .pointer (some ⟨g, 0, none⟩) := by simpa using hp
  have hq' : tmps[q]?.getD undef = .pointer (some ⟨g', 0, none⟩) := by simpa using hq
  simp [results, h, hp', hq', asAddr, run_loadVar_row w g t ty cs fr d hg hu hd hi, run_loadVar_row w g' t ty cs' fr' d hg' hu hd hi']

/-- What Split answers. -/
def SplitPost (w : World) (a b : Pg) (k : ByteArray) (e : Ending) (w' : World) : Prop :=
  Below w.heap.size w w' ∧ ∃ ca cb, e = .returned (.tuple #[.agg ca, .string k, .agg cb]) ∧ PgV w' ca a ∧ PgV w' cb b
theorem Ok.part {p : Pg} (h : Ok p) (hl : p.leaf = true) (i j : Nat) : Ok (partP p i j) :=
  ⟨good_part h.good hl i j, by show ((p.keys.take j).drop i).length ≤ 1000; rw [List.length_drop, List.length_take]; have := h.few; omega, nums_nil⟩

section
variable {w : World} {A1 A2 A3 : Option Addr} {c1 c2 c3 : Nat} {ks vs : List ByteArray} {ns : List Int}
set_option maxRecDepth 100000 in
set_option maxHeartbeats 8000000 in
theorem split_leaf (h : PgA w A1 c1 A2 c2 A3 c3 ⟨true, ks, vs, ns⟩) (hs : Ok ⟨true, ks, vs, ns⟩) (h2 : 2 ≤ ks.length) :
    Calls Try.prog 61 #[.agg (pgc A1 c1 A2 c2 A3 c3 ⟨true, ks, vs, ns⟩)] w (SplitPost w (partP ⟨true, ks, vs, ns⟩ 0 (splitAt ⟨true, ks, vs, ns⟩)) (partP ⟨true, ks, vs, ns⟩ (splitAt ⟨true, ks, vs, ns⟩) ks.length) (ks.getD (splitAt ⟨true, ks, vs, ns⟩) ByteArray.empty)) := by
  have hn0 : ks.length ≤ 1000 := hs.few
  have hv : vs.length = ks.length := by
    rcases good_shape hs.good with ⟨_, a, _⟩ | ⟨e, _⟩
    · exact a
    · cases e
  have hf := good_few hs
  unfold pgc
  dsimp only at *
  obtain ⟨W0, hW0⟩ : ∃ W0, W0 = w.alloc (.cells #[.bool true, .slice A1 ks.length c1, .slice A2 vs.length c2, .slice A3 ns.length c3] 54) := ⟨_, rfl⟩
  obtain ⟨W1, hW1⟩ : ∃ W1, W1 = W0.alloc (.cells #[.bool false, .slice none 0 0, .slice none 0 0, .slice none 0 0] 54) := ⟨_, rfl⟩
  obtain ⟨W2, hW2⟩ : ∃ W2, W2 = W1.alloc (.cells #[.bool false, .slice none 0 0, .slice none 0 0, .slice none 0 0] 54) := ⟨_, rfl⟩
  have hs0 : W0.heap.size = w.heap.size + 1 := by rw [hW0]; simp
  have hs1 : W1.heap.size = w.heap.size + 2 := by rw [hW1]; simp [hs0]
  have hs2 : W2.heap.size = w.heap.size + 3 := by rw [hW2]; simp [hs1]
  have hb2 : Below w.heap.size w W2 := by rw [hW2, hW1, hW0]; exact ((below_new _ _).alloc (by simp) _).alloc (by simp; omega) _
  have kp : Blk W2 w.heap.size 54 #[.bool true, .slice A1 ks.length c1, .slice A2 vs.length c2, .slice A3 ns.length c3] := by rw [hW2, hW1, hW0]; exact ((Blk.new _ _ _).alloc _).alloc _
  have kx : Blk W2 (w.heap.size + 1) 54 #[.bool false, .slice none 0 0, .slice none 0 0, .slice none 0 0] := by rw [hW2, hW1, ← hs0]; exact (Blk.new _ _ _).alloc _
  have ky : Blk W2 (w.heap.size + 2) 54 #[.bool false, .slice none 0 0, .slice none 0 0, .slice none 0 0] := by rw [hW2, ← hs1]; exact Blk.new _ _ _
  have HC := clone_own (h.sm (Sm.below hb2)) (show ks.length ≤ 1001 ∧ vs.length ≤ 1001 ∧ ns.length ≤ 1001 by have h1 := hf.2.2; have : ns.length ≤ 1001 := h1; omega)
  unfold pgc at HC
  dsimp only at HC
  have HC := Lib.hid HC
  obtain ⟨q0, q1, q2, q3⟩ := cells4 kp
  have HKP := Lib.hid kp
  have HKX := Lib.hid kx
  have HKY := Lib.hid ky
  have HB2 := Lib.hid hb2
  have HS2 := Lib.hid hs2
  have HOK := Lib.hid (fun i j => hs.part rfl i j)
  have HV := Lib.hid hv
  have HW0 := Lib.hid hW0
  have HW1 := Lib.hid hW1
  have HW2 := Lib.hid hW2
  have t1 : decide ((ks.length : Int) < 2) = false := decide_eq_false (by omega)
  have t2 : decide (ks.length < 2) = false := decide_eq_false (by omega)
  clear h hs hf hW0 hW1 hW2 hb2 hs0 hs1 hs2 kp kx ky hv
  go_enter Try.func61, Try.ntmps61
  go_upto_region 1 with fail
  rw [← HW0.out, ← HW1.out, ← HW2.out]
  go_wp2_with fail
  refine HC.out.mono ?_
  rintro e w3 ⟨hb3, v1, v2, v3, rfl, ho3⟩
  have kp3 := HKP.out.below hb3 HKP.out.lt
  have kx3 := HKX.out.below hb3 HKX.out.lt
  have ky3 := HKY.out.below hb3 HKY.out.lt
  have u := upd4 kp3 (.bool true) v1 v2 v3
  obtain ⟨W4, hW4⟩ : ∃ W4, W4 = (((w3.setCell ⟨w.heap.size, 0, none⟩ (.bool true)).setCell ⟨w.heap.size, 1, none⟩ v1).setCell ⟨w.heap.size, 2, none⟩ v2).setCell ⟨w.heap.size, 3, none⟩ v3 := ⟨_, rfl⟩
  rw [← hW4] at u
  obtain ⟨B1, d1, B2, d2, B3, d3, e1, e2, e3, hp4⟩ := (ho3.upd u kp3 (by decide) (by decide)).rows
  subst e1 e2 e3
  have kp4 := u.blk
  have kx4 := u.far kx3 (show w.heap.size + 1 ≠ w.heap.size by omega)
  have ky4 := u.far ky3 (show w.heap.size + 2 ≠ w.heap.size by omega)
  have hb4 : Below w.heap.size w W4 := u.below (HB2.out.trans (hb3.mono HB2.out.size)) (Nat.le_refl _) (Nat.le_refl _)
  have hs4 : w.heap.size + 3 ≤ W4.heap.size := by rw [u.size]; have := hb3.size; rw [HS2.out] at this; omega
  obtain ⟨q0, q1, q2, q3⟩ := cells4 kp3
  obtain ⟨f0, f1, f2, f3⟩ := frozen4 kp3
  obtain ⟨r0, r1, r2, r3⟩ := cells4 kp4
  have HP4 := Lib.hid hp4
  have HKP4 := Lib.hid kp4
  have HKX4 := Lib.hid kx4
  have HKY4 := Lib.hid ky4
  have HB4 := Lib.hid hb4
  have HS4 := Lib.hid hs4
  have HW4 := Lib.hid hW4
  clear hW4 kp3 kx3 ky3 ho3 hp4 kp4 kx4 ky4 hb4 hs4 hb3 u HC HKP HKX HKY HB2 HW0 HW1 HW2
  go_upto_region 6 with fail
  rw [← HW4.out]
  go_upto_block 0 with fail
  clear r0 r1 r2 r3 q0 q1 q2 q3 f0 f1 f2 f3
  obtain ⟨n, hn⟩ : ∃ n, n = ks.length := ⟨_, rfl⟩
  obtain ⟨H1, hH1⟩ : ∃ H1, H1 = upN ⟨true, ks, vs, ns⟩ (n - 1 - n / 2) (n / 2) := ⟨_, rfl⟩
  have HN := Lib.hid hn
  have HH1 := Lib.hid hH1
  have e2 : (n : Int) / 2 = ((n / 2 : Nat) : Int) := by omega
  rw [← hn] at h2 hn0
  rw [← hn]
  clear hn hH1 t1 t2
  go_cut [6] (fun cv wx => cv = .int .i64 (H1 : Int) ∧ Hid (Below W4.heap.size W4 wx))
  case first =>
    go_wp2_with fail
    rw [e2]
    have hle := upN_le ⟨true, ks, vs, ns⟩ (n - 1 - n / 2) (n / 2)
    go_loopg [6] (n - 1 - n / 2) (fun m cv wr => ∃ i : Nat, cv = .int .i64 (i : Int) ∧ i + m = n - 1 ∧ 1 ≤ i ∧ Hid (Below W4.heap.size W4 wr) ∧ Hid (upN ⟨true, ks, vs, ns⟩ (n - 1 - i) i = H1))
    case atStart => exact ⟨n / 2, rfl, by omega, by omega, Lib.hid (Below.refl _ _), Lib.hid (by rw [HH1.out])⟩
    case round =>
      obtain ⟨i, rfl, hi, h1, HB, HU⟩ := hrel
      have HB' := HB.out
      have kp := HKP4.out.below HB' HKP4.out.lt
      obtain ⟨r0, r1, r2, r3⟩ := cells4 kp
      by_cases hlt : i + 1 < n
      · have g1 : decide ((i : Int) < (n : Int) - 1) = true := decide_eq_true (by omega)
        have hU : (if bigB ⟨true, ks, vs, ns⟩ i n then upN ⟨true, ks, vs, ns⟩ (n - 1 - (i + 1)) (i + 1) else i) = H1 := by
          have hU := HU.out
          rw [show n - 1 - i = (n - 1 - (i + 1)) + 1 by omega, upN] at hU
          dsimp only at hU
          rw [← HN.out] at hU
          exact hU
        rw [← HN.out] at r1
        have CP := part_any (HP4.out.sm (Sm.below HB')) i n (by omega) (by rw [HN.out]; exact Nat.le_refl _) (by rw [HV.out, HN.out]; exact Nat.le_refl _)
        rw [← HN.out] at CP
        have CP := Lib.hid CP
        have HE := Lib.hid (HOK.out i n)
        have HUU := Lib.hid hU
        have HM := Lib.hid hi
        have HBR := Lib.hid HB'
        clear hU hi HB' hle kp e2
        generalize hbg : bigB ⟨true, ks, vs, ns⟩ i n = bg at HUU
        have HBG := Lib.hid hbg
        clear hbg
        have hb : decide (900 < ((encP (partP ⟨true, ks, vs, ns⟩ i n)).length : Int)) = bg := by rw [← HBG.out, bigB, decide_eq_decide]; omega
        have hb' : decide (900 < (encP (partP ⟨true, ks, vs, ns⟩ i n)).length) = bg := HBG.out
        generalize hL : (encP (partP ⟨true, ks, vs, ns⟩ i n)).length = L at hb hb'
        have HL := Lib.hid hL
        clear hL
        cases bg with
        | true =>
          have hU2 := HUU.out
          rw [if_pos (by rfl)] at hU2
          have HU2 := Lib.hid hU2
          clear hU2 HUU
          go_wp2_with (first
            | (go_at_call 77; refine CP.out.mono ?_; rintro e w5 ⟨hb5, v, rfl, hv5⟩
               have CB := bytes_any hv5 HE.out
               rw [HL.out] at CB
               have CB := Lib.hid CB
               have HB5 := Lib.hid hb5
               clear hv5 hb5)
            | (go_at_call 28; refine CB.out.mono ?_; rintro e w6 ⟨rfl, hb6⟩
               have HB6 := Lib.hid hb6
               clear hb6))
          go_roundg (n - 1 - (i + 1))
          case measure => have := HM.out; omega
          case rel => exact ⟨i + 1, by go_num, by omega, by omega, Lib.hid (HBR.out.trans ((HB5.out.trans (HB6.out.mono HB5.out.size)).mono HBR.out.size)), HU2⟩
        | false =>
          have hU2 : i = H1 := HUU.out
          subst hU2
          clear HUU
          go_wp2_with (first
            | (go_at_call 77; refine CP.out.mono ?_; rintro e w5 ⟨hb5, v, rfl, hv5⟩
               have CB := bytes_any hv5 HE.out
               rw [HL.out] at CB
               have CB := Lib.hid CB
               have HB5 := Lib.hid hb5
               clear hv5 hb5)
            | (go_at_call 28; refine CB.out.mono ?_; rintro e w6 ⟨rfl, hb6⟩
               have HB6 := Lib.hid hb6
               clear hb6))
          go_meet
          exact ⟨rfl, Lib.hid (HBR.out.trans ((HB5.out.trans (HB6.out.mono HB5.out.size)).mono HBR.out.size))⟩
      · have g1 : decide ((i : Int) < (n : Int) - 1) = false := decide_eq_false (by omega)
        have hU := HU.out
        rw [show n - 1 - i = 0 by omega, upN] at hU
        subst hU
        clear e2 hle kp
        have HBR := Lib.hid HB'
        clear HB'
        go_wp2_with fail
        go_meet
        exact ⟨rfl, HBR⟩
  case rest =>
    obtain ⟨rfl, HB⟩ := hcut
    have h11 := upN_le ⟨true, ks, vs, ns⟩ (n - 1 - n / 2) (n / 2)
    rw [← HH1.out] at h11
    obtain ⟨H2, hH2⟩ : ∃ H2, H2 = downN ⟨true, ks, vs, ns⟩ H1 := ⟨_, rfl⟩
    have h1n : H1 + 1 ≤ n := by omega
    have h11 : 1 ≤ H1 := by omega
    have h21 := downN_le ⟨true, ks, vs, ns⟩ H1
    rw [← hH2] at h21
    have HSA : Hid (splitAt ⟨true, ks, vs, ns⟩ = H2) := Lib.hid (by
      rw [hH2, HH1.out, splitAt]
      dsimp only
      rw [← HN.out])
    have HH2 := Lib.hid hH2
    clear e2 hH2
    obtain ⟨wb, rfl⟩ : ∃ wb : World, wb = wc := ⟨_, rfl⟩
    have HBb := HB
    clear HB
    go_upto_block 2 with fail
    go_cut [6] (fun cv wx => cv = .int .i64 (H2 : Int) ∧ Hid (Below W4.heap.size W4 wx))
    case first =>
      go_wp2_with fail
      go_loopg [6] H1 (fun m cv wr => ∃ i : Nat, cv = .int .i64 (i : Int) ∧ i = m ∧ 1 ≤ i ∧ i ≤ H1 ∧ Hid (Below W4.heap.size W4 wr) ∧ Hid (downN ⟨true, ks, vs, ns⟩ i = H2))
      case atStart => exact ⟨H1, rfl, rfl, by omega, by omega, HBb, Lib.hid HH2.out.symm⟩
      case round =>
        obtain ⟨i, rfl, hi, h1, hiH, HB, HU⟩ := hrel
        have HB' := HB.out
        have kp := HKP4.out.below HB' HKP4.out.lt
        obtain ⟨r0, r1, r2, r3⟩ := cells4 kp
        by_cases hlt : 1 < i
        · have g1 : decide (1 < (i : Int)) = true := decide_eq_true (by omega)
          have g2 : decide (1 < i) = true := decide_eq_true hlt
          have hU : (if bigB ⟨true, ks, vs, ns⟩ 0 i then downN ⟨true, ks, vs, ns⟩ (i - 1) else i) = H2 := by
            have hU := HU.out
            rw [show i = (i - 2) + 2 by omega, downN] at hU
            rw [show i - 2 + 2 = i by omega, show i - 2 + 1 = i - 1 by omega] at hU
            exact hU
          rw [← HN.out] at r1
          have CP := part_any (HP4.out.sm (Sm.below HB')) 0 i (by omega) (by rw [← HN.out]; omega) (by rw [HV.out, ← HN.out]; omega)
          rw [← HN.out] at CP
          have CP := Lib.hid CP
          have HE := Lib.hid (HOK.out 0 i)
          have HUU := Lib.hid hU
          have HM := Lib.hid hi
          have HBR := Lib.hid HB'
          clear hU hi HB' kp h21
          generalize hbg : bigB ⟨true, ks, vs, ns⟩ 0 i = bg at HUU
          have HBG := Lib.hid hbg
          clear hbg
          have hb : decide (900 < ((encP (partP ⟨true, ks, vs, ns⟩ 0 i)).length : Int)) = bg := by rw [← HBG.out, bigB, decide_eq_decide]; omega
          have hb' : decide (900 < (encP (partP ⟨true, ks, vs, ns⟩ 0 i)).length) = bg := HBG.out
          generalize hL : (encP (partP ⟨true, ks, vs, ns⟩ 0 i)).length = L at hb hb'
          have HL := Lib.hid hL
          clear hL
          cases bg with
          | true =>
            have hU2 := HUU.out
            rw [if_pos (by rfl)] at hU2
            have HU2 := Lib.hid hU2
            clear hU2 HUU
            go_wp2_with (first
              | (go_at_call 77; refine CP.out.mono ?_; rintro e w5 ⟨hb5, v, rfl, hv5⟩
                 have CB := bytes_any hv5 HE.out
                 rw [HL.out] at CB
                 have CB := Lib.hid CB
                 have HB5 := Lib.hid hb5
                 clear hv5 hb5)
              | (go_at_call 28; refine CB.out.mono ?_; rintro e w6 ⟨rfl, hb6⟩
                 have HB6 := Lib.hid hb6
                 clear hb6))
            go_roundg (i - 1)
            case measure => have := HM.out; omega
            case rel => exact ⟨i - 1, by go_num, by omega, by omega, by omega, Lib.hid (HBR.out.trans ((HB5.out.trans (HB6.out.mono HB5.out.size)).mono HBR.out.size)), HU2⟩
          | false =>
            have hU2 : i = H2 := HUU.out
            subst hU2
            clear HUU
            go_wp2_with (first
              | (go_at_call 77; refine CP.out.mono ?_; rintro e w5 ⟨hb5, v, rfl, hv5⟩
                 have CB := bytes_any hv5 HE.out
                 rw [HL.out] at CB
                 have CB := Lib.hid CB
                 have HB5 := Lib.hid hb5
                 clear hv5 hb5)
              | (go_at_call 28; refine CB.out.mono ?_; rintro e w6 ⟨rfl, hb6⟩
                 have HB6 := Lib.hid hb6
                 clear hb6))
            go_meet
            exact ⟨rfl, Lib.hid (HBR.out.trans ((HB5.out.trans (HB6.out.mono HB5.out.size)).mono HBR.out.size))⟩
        · obtain rfl : i = 1 := by omega
          have hU := HU.out
          rw [downN] at hU
          subst hU
          have HBR := Lib.hid HB'
          clear HB' kp h21 hi
          go_wp2_with fail
          go_meet
          exact ⟨rfl, HBR⟩
    case rest =>
      obtain ⟨rfl, HB⟩ := hcut
      obtain ⟨wd, rfl⟩ : ∃ wd : World, wd = wc := ⟨_, rfl⟩
      have hbd := HB.out
      have h2n : H2 < n := by omega
      have h20 : 1 ≤ H2 := by omega
      have hzd : w.heap.size + 3 ≤ wd.heap.size := Nat.le_trans HS4.out hbd.size
      have kp := HKP4.out.below hbd HKP4.out.lt
      have kx := HKX4.out.below hbd HKX4.out.lt
      have ky := HKY4.out.below hbd HKY4.out.lt
      have hpr := HP4.out.sm (Sm.below hbd)
      have hvn : vs.length = n := by rw [HN.out]; exact HV.out
      have hc1 : n ≤ d1 := by rw [HN.out]; exact hpr.k.le
      have hc2 : vs.length ≤ d2 := hpr.v.le
      rw [← HN.out] at kp
      have C1 : ∀ W, Calls Try.prog 77 #[.agg #[.bool true, .slice B1 n d1, .slice B2 vs.length d2, .slice B3 ns.length d3], .int .i64 0, .int .i64 (H2 : Int)] W fun e w' =>
          e = .returned (.agg #[.bool true, .slice (cutA B1 0 H2) H2 H2, .slice (cutA B2 0 H2) H2 H2, .slice none 0 0]) ∧ Below W.heap.size W w' := fun W => by
        have := part_exact (w := W) (A1 := B1) (A2 := B2) (lf := true) (v3 := .slice B3 ns.length d3) 0 H2 (by omega) (Nat.le_of_lt h2n) (by omega) hc1 hc2
        simpa using this
      have C2 : ∀ W, Calls Try.prog 77 #[.agg #[.bool true, .slice B1 n d1, .slice B2 vs.length d2, .slice B3 ns.length d3], .int .i64 (H2 : Int), .int .i64 (n : Int)] W fun e w' =>
          e = .returned (.agg #[.bool true, .slice (cutA B1 H2 n) (n - H2) (n - H2), .slice (cutA B2 H2 n) (n - H2) (n - H2), .slice none 0 0]) ∧ Below W.heap.size W w' := fun W =>
        part_exact (w := W) (A1 := B1) (A2 := B2) (lf := true) (v3 := .slice B3 ns.length d3) H2 n (Nat.le_of_lt h2n) (Nat.le_refl _) (by omega) hc1 hc2
      have SF : Hid (∀ V, Below wd.heap.size wd V → V.cell? ⟨w.heap.size, 0, none⟩ = some (.bool true) ∧ V.cell? ⟨w.heap.size, 1, none⟩ = some (.slice B1 n d1) ∧ V.cell? ⟨w.heap.size, 2, none⟩ = some (.slice B2 vs.length d2) ∧ V.cell? ⟨w.heap.size, 3, none⟩ = some (.slice B3 ns.length d3)) := Lib.hid fun V hV => cells4 (kp.below hV kp.lt)
      have hqa := partA hpr (Nat.zero_le H2) (show H2 ≤ ks.length by have := HN.out; omega) (show H2 ≤ vs.length by omega)
      have hqb := partA hpr (Nat.le_of_lt h2n) (show n ≤ ks.length by have := HN.out; omega) (show n ≤ vs.length by omega)
      have C1 := Lib.hid C1
      have C2 := Lib.hid C2
      have HKX := Lib.hid kx
      have HKY := Lib.hid ky
      have HQA := Lib.hid hqa
      have HQB := Lib.hid hqb
      have HBD := Lib.hid hbd
      have HZD := Lib.hid hzd
      have HVN := Lib.hid hvn
      have HPR := Lib.hid hpr
      clear hbd kp kx ky hpr hc1 hc2 hvn h21 h11 hzd hqa hqb
      go_upto_region 11 with fail
      have HL0 := Lib.hid (Later.refl wd)
      have ZF0 : Hid (∀ s, wd.heap.size ≤ s → wd.heap.size ≤ s) := Lib.hid (fun _ h => h)
      have ZS0 : Hid (∀ V, Later wd V → (Later wd) V) := Lib.hid (fun _ h => h)
      refine walk_start 9 (S := Later wd) (T := Later wd) (by kernel_rfl) (fun r => wd.heap.size ≤ r) (fun _ h => h.size) ZS0.out (closed_later _) (Later.refl _).drew ?_
      refine wt 0 62 ?_ (fun V hV => ?_) ?_
      rotate_left 1
      · (obtain ⟨q0, q1, q2, q3⟩ := SF.out V hV; clear hV; go_simp; (try with_reducible rfl))
      try simp only [pa, List.set]
      refine wt 1 63 ?_ (fun V hV => ?_) ?_
      rotate_left 1
      · (clear hV; go_simp; (try with_reducible rfl))
      try simp only [pa, List.set]
      refine wt 3 65 ?_ (fun V hV => ?_) ?_
      rotate_left 1
      · (obtain ⟨q0, q1, q2, q3⟩ := SF.out V hV; clear hV; go_simp; (try with_reducible rfl))
      try simp only [pa, List.set]
      refine wt 4 66 ?_ (fun V hV => ?_) ?_
      rotate_left 1
      · (clear hV; go_simp; (try with_reducible rfl))
      try simp only [pa, List.set]
      refine wt 5 67 ?_ (fun V hV => ?_) ?_
      rotate_left 1
      · (clear hV; go_simp; (try with_reducible rfl))
      try simp only [pa, List.set]
      refine walk_pend ⟨8, 8, (.cells #[.bool false, .slice none 0 0, .slice none 0 0, .slice none 0 0] 54), fun r => .pointer (some ⟨r, 0, none⟩)⟩ ⟨_, rfl, rfl, rfl, fun W => ?_⟩ ?_
      · (go_simp; (try with_reducible rfl))
      refine walk_pend ⟨7, 7, (.cells #[.bool false, .slice none 0 0, .slice none 0 0, .slice none 0 0] 54), fun r => .pointer (some ⟨r, 0, none⟩)⟩ ⟨_, rfl, rfl, rfl, fun W => ?_⟩ ?_
      · (go_simp; (try with_reducible rfl))
      refine walk_core 2 rfl (by kernel_rfl) (fun _ _ _ _ _ h => h) (fun V hV K hK => ?_)
      have hV0 := HL0.out.trans hV
      have hSV := ZS0.out V hV
      go_simp
      go_at_call 77
      refine (C1.out _).mono ?_
      rintro e x2 ⟨rfl, hb⟩
      have HT2 := Lib.hid (hV.of hb)
      have HL1 := Lib.hid (hV0.of hb)
      have hsize := hb.size
      have hkeep := fun (r : Nat) (_ : True) (h : r < V.heap.size) => hb.block r h
      have ZF1 : Hid (∀ s, x2.heap.size ≤ s → _) := Lib.hid (fun s h => ZF0.out s (Nat.le_trans hV.size (Nat.le_trans hsize h)))
      have ZS1 : Hid (∀ V, Later x2 V → (Later wd) V) := Lib.hid (fun V' h => ZS0.out V' ((hV.of hb).trans h))
      refine hK.out _ _ (Later wd) (Later x2) _ (fun r _ h => hkeep r trivial h) (fun _ h _ => h) (fun _ h => h) ZS1.out (fun V' h => ZF1.out _ h.size) (Later.refl _) (closed_later _) ?_
      clear hK K hV hsize hkeep hV0 hSV hb
      try simp only [pa, List.set]
      refine walk_core 6 rfl (by kernel_rfl) (fun _ _ _ _ _ h => h) (fun V hV K hK => ?_)
      have hV0 := HL1.out.trans hV
      have hSV := ZS1.out V hV
      go_simp
      go_at_call 77
      refine (C2.out _).mono ?_
      rintro e x6 ⟨rfl, hb⟩
      have HT6 := Lib.hid (hV.of hb)
      have HL2 := Lib.hid (hV0.of hb)
      have hsize := hb.size
      have hkeep := fun (r : Nat) (_ : True) (h : r < V.heap.size) => hb.block r h
      have ZF2 : Hid (∀ s, x6.heap.size ≤ s → _) := Lib.hid (fun s h => ZF1.out s (Nat.le_trans hV.size (Nat.le_trans hsize h)))
      have ZS2 : Hid (∀ V, Later x6 V → (Later wd) V) := Lib.hid (fun V' h => ZS1.out V' ((hV.of hb).trans h))
      refine hK.out _ _ (Later wd) (Later x6) _ (fun r _ h => hkeep r trivial h) (fun _ h _ => h) (fun _ h => h) ZS2.out (fun V' h => ZF2.out _ h.size) (Later.refl _) (closed_later _) ?_
      clear hK K hV hsize hkeep hV0 hSV hb
      try simp only [pa, List.set]
      refine walk_force (by kernel_rfl) (by kernel_rfl) (by kernel_rfl) (by kernel_rfl) (fun r7 x7 hV hr7 hB7 => ?_)
      have lt7 : r7 < x7.heap.size := (Array.getElem?_eq_some_iff.1 hr7).1
      have HL3 := Lib.hid (HL2.out.trans hV)
      have ZF3 : Hid (∀ s, x7.heap.size ≤ s → _ ∧ s ≠ r7) := Lib.hid (fun s h => ⟨ZF2.out s (Nat.le_trans hV.size h), Nat.ne_of_gt (Nat.lt_of_lt_of_le lt7 h)⟩)
      have ZS3 : Hid (∀ V, Later x7 V → (Later wd) V) := Lib.hid (fun V' h => ZS2.out V' (hV.trans h))
      refine ⟨Later wd, Later x7, Later.refl _, fun _ h => h, ZS3.out, fun V' h => ZF2.out _ (Nat.le_trans hV.size h.size), fun V' h => Nat.lt_of_lt_of_le lt7 h.size, closed_later _, ?_⟩
      try simp only [pa, List.set]
      have HT7 := Lib.hid hV
      clear hV
      refine walk_force (by kernel_rfl) (by kernel_rfl) (by kernel_rfl) (by kernel_rfl) (fun r8 x8 hV hr8 hB8 => ?_)
      have lt8 : r8 < x8.heap.size := (Array.getElem?_eq_some_iff.1 hr8).1
      have HL4 := Lib.hid (HL3.out.trans hV)
      have ZF4 : Hid (∀ s, x8.heap.size ≤ s → _ ∧ s ≠ r8) := Lib.hid (fun s h => ⟨ZF3.out s (Nat.le_trans hV.size h), Nat.ne_of_gt (Nat.lt_of_lt_of_le lt8 h)⟩)
      have ZS4 : Hid (∀ V, Later x8 V → (Later wd) V) := Lib.hid (fun V' h => ZS3.out V' (hV.trans h))
      refine ⟨Later wd, Later x8, Later.refl _, fun _ h => h, ZS4.out, fun V' h => ZF3.out _ (Nat.le_trans hV.size h.size), fun V' h => Nat.lt_of_lt_of_le lt8 h.size, closed_later _, ?_⟩
      try simp only [pa, List.set]
      have HT8 := Lib.hid hV
      clear hV
      refine walk_exit (fun V hV => ?_)
      have hV0 := HL4.out.trans hV
      have hSV := ZS4.out V hV
      try simp only [pa, List.set]
      obtain ⟨W, rfl⟩ : ∃ W : World, W = V := ⟨_, rfl⟩
      clear ZF0 ZF1 ZF2 ZF3 ZF4 ZS0 ZS1 ZS2 ZS3 ZS4
      have hsB : wd.heap.size ≤ r8 := hB8.1
      have hrB : wd.heap.size ≤ r7 := hB7
      have hne : r8 ≠ r7 := hB8.2
      have hs : Blk W r8 54 #[.bool false, .slice none 0 0, .slice none 0 0, .slice none 0 0] := Blk.below (show Blk x8 r8 _ _ from hr8) hV lt8
      have hr : Blk W r7 54 #[.bool false, .slice none 0 0, .slice none 0 0, .slice none 0 0] := (Blk.below (Blk.below (show Blk x7 r7 _ _ from hr7) HT8.out lt7) hV (Nat.lt_of_lt_of_le lt7 HT8.out.size))
      have hV := hV0
      generalize r8 = s at *
      generalize r7 = r at *
      have u7 := upd4 hr (.bool true) (.slice (cutA B1 0 H2) H2 H2) (.slice (cutA B2 0 H2) H2 H2) (.slice none 0 0)
      obtain ⟨W7, hW7⟩ : ∃ W7, W7 = (((W.setCell ⟨r, 0, none⟩ (.bool true)).setCell ⟨r, 1, none⟩ (.slice (cutA B1 0 H2) H2 H2)).setCell ⟨r, 2, none⟩ (.slice (cutA B2 0 H2) H2 H2)).setCell ⟨r, 3, none⟩ (.slice none 0 0) := ⟨_, rfl⟩
      rw [← hW7] at u7
      have ks7 := u7.far hs hne
      have u8 := upd4 ks7 (.bool true) (.slice (cutA B1 H2 n) (n - H2) (n - H2)) (.slice (cutA B2 H2 n) (n - H2) (n - H2)) (.slice none 0 0)
      obtain ⟨W8, hW8⟩ : ∃ W8, W8 = (((W7.setCell ⟨s, 0, none⟩ (.bool true)).setCell ⟨s, 1, none⟩ (.slice (cutA B1 H2 n) (n - H2) (n - H2))).setCell ⟨s, 2, none⟩ (.slice (cutA B2 H2 n) (n - H2) (n - H2))).setCell ⟨s, 3, none⟩ (.slice none 0 0) := ⟨_, rfl⟩
      rw [← hW8] at u8
      have kr8 := u8.far u7.blk hne.symm
      have hb8 : Below wd.heap.size wd W8 := u8.below (u7.below (show Below _ _ _ from hV) hrB (Nat.le_refl _)) hsB (Nat.le_refl _)
      have hm8 : Sm wd W8 := (Sm.below (show Below _ _ _ from hV)).trans ((u7.sm hr (by decide) (by decide)).trans (u8.sm ks7 (by decide) (by decide)))
      obtain ⟨z0, z1, z2, z3⟩ := cells4 hr
      obtain ⟨f0, f1, f2, f3⟩ := frozen4 hr
      obtain ⟨y0, y1, y2, y3⟩ := cells4 ks7
      obtain ⟨g0, g1, g2, g3⟩ := frozen4 ks7
      have KR := Lib.hid kr8
      have KS := Lib.hid u8.blk
      have HB8 := Lib.hid hb8
      have HM8 := Lib.hid hm8
      have HW7 := Lib.hid hW7
      have HW8 := Lib.hid hW8
      clear hr hs u7 ks7 u8 kr8 hb8 hm8 hW7 hW8 hV
      refine wpAnyJ_one (i := 9) (by kernel_rfl) rfl (fun K hK => ?_)
      simp only [List.getElem_toArray, List.getElem_cons_succ, List.getElem_cons_zero]
      go_simp
      refine hK.out _ _ (fun h _ => absurd rfl h) ?_
      clear hK K
      try simp only [pa, List.set]
      rw [← HW7.out]
      clear z0 z1 z2 z3 f0 f1 f2 f3
      refine wpAnyJ_one (i := 10) (by kernel_rfl) rfl (fun K hK => ?_)
      simp only [List.getElem_toArray, List.getElem_cons_succ, List.getElem_cons_zero]
      go_simp
      refine hK.out _ _ (fun _ h => absurd ((show _ = true by kernel_rfl).symm.trans h) (by decide)) ?_
      clear hK K
      try simp only [pa, List.set]
      rw [← HW8.out]
      clear y0 y1 y2 y3 g0 g1 g2 g3
      refine wpAnyJ_done (by kernel_rfl) ?_ _
      obtain ⟨ad2, hcut, hsp, ⟨cs2, hbk2⟩, hcell⟩ := HQB.out.k.get (i := 0) (x := ks.getD H2 ByteArray.empty) (by
        show ((ks.take n).drop H2)[0]? = _
        rw [List.getElem?_drop, List.getElem?_take, if_pos (by omega)]
        exact getD_some _ (by have := HN.out; omega))
      have hc8 := hcell W8 (fun g cs => (HM8.out g cs).1)
      rw [show ad2.add 0 = ad2 by simp [Addr.add]] at hc8
      have hne2 : ¬ (n - H2 = 0) := by omega
      have HCUT := Lib.hid hcut
      have KS2 : Hid (Blk W8 s 54 #[.bool true, .slice (some ad2) (n - H2) (n - H2), .slice (cutA B2 H2 n) (n - H2) (n - H2), .slice none 0 0]) := Lib.hid (by rw [← hcut]; exact KS.out)
      have kx8 := HKX.out.below HB8.out HKX.out.lt
      have ky8 := HKY.out.below HB8.out HKY.out.lt
      have hbk8 := (HM8.out ad2.block cs2).1 hbk2
      have na1 : w.heap.size + 1 ≠ ad2.block := fun e => by rw [← e] at hbk8; exact kx8.ne_ hbk8 (by decide) rfl
      have na2 : w.heap.size + 2 ≠ ad2.block := fun e => by rw [← e] at hbk8; exact ky8.ne_ hbk8 (by decide) rfl
      have nr1 : w.heap.size + 1 ≠ r := by have := HZD.out; omega
      have nr2 : w.heap.size + 2 ≠ r := by have := HZD.out; omega
      have ns1 : w.heap.size + 1 ≠ s := by have := HZD.out; omega
      have ns2 : w.heap.size + 2 ≠ s := by have := HZD.out; omega
      obtain ⟨r0, r1, r2, r3⟩ := cells4 KR.out
      obtain ⟨s0, s1, s2, s3⟩ := cells4 KS2.out
      obtain ⟨x0, x1, x2, x3⟩ := cells4 kx8
      obtain ⟨y0, y1, y2, y3⟩ := cells4 ky8
      obtain ⟨xf0, xf1, xf2, xf3⟩ := frozen4 kx8
      obtain ⟨yf0, yf1, yf2, yf3⟩ := frozen4 ky8
      have i1 : (1 : Int) ≤ ((n - H2 : Nat) : Int) := by omega
      have i0 : (0 : Int) < ((n - H2 : Nat) : Int) := by omega
      have i2 : 0 < n - H2 := by omega
      have u9 := upd4 kx8 (.bool true) (.slice (cutA B1 0 H2) H2 H2) (.slice (cutA B2 0 H2) H2 H2) (.slice none 0 0)
      have ky9 := u9.far (show Blk W8 (w.heap.size + 1 + 1) 54 #[.bool false, .slice none 0 0, .slice none 0 0, .slice none 0 0] from ky8) (show w.heap.size + 1 + 1 ≠ w.heap.size + 1 by omega)
      have u10 := upd4 ky9 (.bool true) (.slice (some ad2) (n - H2) (n - H2)) (.slice (cutA B2 H2 n) (n - H2) (n - H2)) (.slice none 0 0)
      have HM10 : Hid (Sm wd _) := Lib.hid (HM8.out.trans ((u9.sm kx8 (by decide) (by decide)).trans (u10.sm ky9 (by decide) (by decide))))
      have HK1 := Lib.hid (u10.far u9.blk (show w.heap.size + 1 ≠ w.heap.size + 1 + 1 by omega))
      have HK2 := Lib.hid u10.blk
      have HB10 : Hid (Below w.heap.size w _) := Lib.hid (u10.below (u9.below (HB4.out.trans ((HBD.out.mono (by have := HS4.out; omega)).trans (HB8.out.mono (by have := HZD.out; omega)))) (by omega) (Nat.le_refl _)) (by omega) (Nat.le_refl _))
      clear hcell hcut hsp hbk2 hbk8 kx8 ky8 u9 ky9 u10
      go_wp2_with fail
      go_region_held3 (fun V => V.cell? ⟨r, 0, none⟩ = some (.bool true) ∧ V.cell? ⟨r, 1, none⟩ = some (.slice (cutA B1 0 H2) H2 H2) ∧ V.cell? ⟨r, 2, none⟩ = some (.slice (cutA B2 0 H2) H2 H2) ∧ V.cell? ⟨r, 3, none⟩ = some (.slice none 0 0) ∧
          V.cell? ⟨s, 0, none⟩ = some (.bool true) ∧ V.cell? ⟨s, 1, none⟩ = some (.slice (some ad2) (n - H2) (n - H2)) ∧ V.cell? ⟨s, 2, none⟩ = some (.slice (cutA B2 H2 n) (n - H2) (n - H2)) ∧ V.cell? ⟨s, 3, none⟩ = some (.slice none 0 0) ∧
          V.cell? ad2 = some (.string (ks.getD H2 ByteArray.empty)))
        (go_keep) (fail)
      all_goals
        obtain ⟨W9, hW9⟩ : ∃ W9, W9 = ((((((((W8.setCell ⟨w.heap.size + 1, 0, none⟩ (.bool true)).setCell ⟨w.heap.size + 1, 1, none⟩ (.slice (cutA B1 0 H2) H2 H2)).setCell ⟨w.heap.size + 1, 2, none⟩ (.slice (cutA B2 0 H2) H2 H2)).setCell ⟨w.heap.size + 1, 3, none⟩ (.slice none 0 0)).setCell ⟨w.heap.size + 1 + 1, 0, none⟩ (.bool true)).setCell ⟨w.heap.size + 1 + 1, 1, none⟩ (.slice (some ad2) (n - H2) (n - H2))).setCell ⟨w.heap.size + 1 + 1, 2, none⟩ (.slice (cutA B2 H2 n) (n - H2) (n - H2))).setCell ⟨w.heap.size + 1 + 1, 3, none⟩ (.slice none 0 0)).drew := ⟨_, rfl⟩
        rw [← hW9]
        have HW9 := Lib.hid hW9
        clear hW9
        go_wp2_with fail
        have k1 : Blk W9 (w.heap.size + 1) 54 #[.bool true, .slice (cutA B1 0 H2) H2 H2, .slice (cutA B2 0 H2) H2 H2, .slice none 0 0] := by rw [HW9.out]; exact HK1.out.drew
        have k2 : Blk W9 (w.heap.size + 1 + 1) 54 #[.bool true, .slice (some ad2) (n - H2) (n - H2), .slice (cutA B2 H2 n) (n - H2) (n - H2), .slice none 0 0] := by rw [HW9.out]; exact HK2.out.drew
        have hb9 : Below w.heap.size w W9 := by rw [HW9.out]; exact HB10.out.drew
        have hm9 : Sm wd W9 := by rw [HW9.out]; exact HM10.out.drew
        refine bodyPost_ret_by (results_csc rfl _ _ (w.heap.size + 1) (w.heap.size + 1 + 1) 54 _ _ (0, 0) (0, 0) _ rfl rfl k1 k2 Try.underlying54 rfl (by kernel_rfl) (by kernel_rfl)) rfl ?_
        rw [HSA.out, ← HN.out]
        refine ⟨hb9, _, _, rfl, ⟨cutA B1 0 H2, H2 - 0, cutA B2 0 H2, H2 - 0, none, 0, ?_, HQA.out.sm hm9⟩, ⟨cutA B1 H2 n, n - H2, cutA B2 H2 n, n - H2, none, 0, ?_, HQB.out.sm hm9⟩⟩
        · unfold pgc
          simp only [partP, List.length_nil]
          rw [len_cut ks (by have := HN.out; omega), len_cut vs (by have := HVN.out; omega)]
          simp
        · unfold pgc
          simp only [partP, List.length_nil]
          rw [len_cut ks (by have := HN.out; omega), len_cut vs (by have := HVN.out; omega), HCUT.out]
end
end Go.Proofs.Ytafeddjcomeniaa
end

/- page.Split of a branch, and of any page that is great. Conditions: the page reads in memory; it may be, and has few keys. -/
section
namespace Go.Proofs.Ytafeddjcomeniaa
open Go.RowKit
set_option linter.unusedVariables false
set_option linter.unusedSimpArgs false

section
variable {w : World} {A1 A2 A3 : Option Addr} {c1 c2 c3 : Nat} {ks vs : List ByteArray} {ns : List Int}
set_option maxRecDepth 100000 in
set_option maxHeartbeats 8000000 in
theorem split_branch (h : PgA w A1 c1 A2 c2 A3 c3 ⟨false, ks, vs, ns⟩) (hs : Ok ⟨false, ks, vs, ns⟩) (h2 : 3 ≤ ks.length) :
    Calls Try.prog 61 #[.agg (pgc A1 c1 A2 c2 A3 c3 ⟨false, ks, vs, ns⟩)] w (SplitPost w (brA ks ns) (brB ks ns) (ks.getD (ks.length / 2) ByteArray.empty)) := by
  have hn0 : ks.length ≤ 1000 := hs.few
  have hv : ns.length = ks.length + 1 := by
    rcases good_shape hs.good with ⟨e, _⟩ | ⟨_, _, a⟩
    · cases e
    · exact a
  have hf := good_few hs
  unfold pgc
  dsimp only at *
  obtain ⟨W0, hW0⟩ : ∃ W0, W0 = w.alloc (.cells #[.bool false, .slice A1 ks.length c1, .slice A2 vs.length c2, .slice A3 ns.length c3] 54) := ⟨_, rfl⟩
  obtain ⟨W1, hW1⟩ : ∃ W1, W1 = W0.alloc (.cells #[.bool false, .slice none 0 0, .slice none 0 0, .slice none 0 0] 54) := ⟨_, rfl⟩
  obtain ⟨W2, hW2⟩ : ∃ W2, W2 = W1.alloc (.cells #[.bool false, .slice none 0 0, .slice none 0 0, .slice none 0 0] 54) := ⟨_, rfl⟩
  have hs0 : W0.heap.size = w.heap.size + 1 := by rw [hW0]; simp
  have hs1 : W1.heap.size = w.heap.size + 2 := by rw [hW1]; simp [hs0]
  have hs2 : W2.heap.size = w.heap.size + 3 := by rw [hW2]; simp [hs1]
  have hb2 : Below w.heap.size w W2 := by rw [hW2, hW1, hW0]; exact ((below_new _ _).alloc (by simp) _).alloc (by simp; omega) _
  have kp : Blk W2 w.heap.size 54 #[.bool false, .slice A1 ks.length c1, .slice A2 vs.length c2, .slice A3 ns.length c3] := by rw [hW2, hW1, hW0]; exact ((Blk.new _ _ _).alloc _).alloc _
  have kx : Blk W2 (w.heap.size + 1) 54 #[.bool false, .slice none 0 0, .slice none 0 0, .slice none 0 0] := by rw [hW2, hW1, ← hs0]; exact (Blk.new _ _ _).alloc _
  have ky : Blk W2 (w.heap.size + 2) 54 #[.bool false, .slice none 0 0, .slice none 0 0, .slice none 0 0] := by rw [hW2, ← hs1]; exact Blk.new _ _ _
  have HC := clone_own (h.sm (Sm.below hb2)) (show ks.length ≤ 1001 ∧ vs.length ≤ 1001 ∧ ns.length ≤ 1001 by omega)
  unfold pgc at HC
  dsimp only at HC
  have HC := Lib.hid HC
  obtain ⟨q0, q1, q2, q3⟩ := cells4 kp
  have HKP := Lib.hid kp
  have HKX := Lib.hid kx
  have HKY := Lib.hid ky
  have HB2 := Lib.hid hb2
  have HS2 := Lib.hid hs2
  have HV := Lib.hid hv
  have HW0 := Lib.hid hW0
  have HW1 := Lib.hid hW1
  have HW2 := Lib.hid hW2
  have t1 : decide ((ks.length : Int) < 3) = false := decide_eq_false (by omega)
  have t2 : decide (ks.length < 3) = false := decide_eq_false (by omega)
  clear h hs hf hW0 hW1 hW2 hb2 hs0 hs1 hs2 kp kx ky hv
  go_enter Try.func61, Try.ntmps61
  go_upto_region 1 with fail
  rw [← HW0.out, ← HW1.out, ← HW2.out]
  go_wp2_with fail
  refine HC.out.mono ?_
  rintro e w3 ⟨hb3, v1, v2, v3, rfl, ho3⟩
  have kp3 := HKP.out.below hb3 HKP.out.lt
  have kx3 := HKX.out.below hb3 HKX.out.lt
  have ky3 := HKY.out.below hb3 HKY.out.lt
  have u := upd4 kp3 (.bool false) v1 v2 v3
  obtain ⟨W4, hW4⟩ : ∃ W4, W4 = (((w3.setCell ⟨w.heap.size, 0, none⟩ (.bool false)).setCell ⟨w.heap.size, 1, none⟩ v1).setCell ⟨w.heap.size, 2, none⟩ v2).setCell ⟨w.heap.size, 3, none⟩ v3 := ⟨_, rfl⟩
  rw [← hW4] at u
  obtain ⟨B1, d1, B2, d2, B3, d3, e1, e2, e3, hp4⟩ := (ho3.upd u kp3 (by decide) (by decide)).rows
  subst e1 e2 e3
  have kp4 := u.blk
  have kx4 := u.far kx3 (show w.heap.size + 1 ≠ w.heap.size by omega)
  have ky4 := u.far ky3 (show w.heap.size + 2 ≠ w.heap.size by omega)
  have hb4 : Below w.heap.size w W4 := u.below (HB2.out.trans (hb3.mono HB2.out.size)) (Nat.le_refl _) (Nat.le_refl _)
  have hs4 : w.heap.size + 3 ≤ W4.heap.size := by rw [u.size]; have := hb3.size; rw [HS2.out] at this; omega
  obtain ⟨q0, q1, q2, q3⟩ := cells4 kp3
  obtain ⟨f0, f1, f2, f3⟩ := frozen4 kp3
  obtain ⟨r0, r1, r2, r3⟩ := cells4 kp4
  have HP4 := Lib.hid hp4
  have HKP4 := Lib.hid kp4
  have HKX4 := Lib.hid kx4
  have HKY4 := Lib.hid ky4
  have HB4 := Lib.hid hb4
  have HS4 := Lib.hid hs4
  have HW4 := Lib.hid hW4
  clear hW4 kp3 kx3 ky3 ho3 hp4 kp4 kx4 ky4 hb4 hs4 hb3 u HC HKP HKX HKY HB2 HW0 HW1 HW2
  go_upto_region 6 with fail
  rw [← HW4.out]
  clear HW4 q0 q1 q2 q3 f0 f1 f2 f3
  obtain ⟨m, hm⟩ : ∃ m, m = ks.length / 2 := ⟨_, rfl⟩
  have e2 : (ks.length : Int) / 2 = (m : Int) := by omega
  rw [e2]
  clear e2
  have HM := Lib.hid hm
  have hp := HP4.out
  have hv := HV.out
  have hk1 : ks.length ≤ d1 := hp.k.le
  have hk3 : ns.length ≤ d3 := hp.n.le
  have hm1 : m + 1 ≤ ks.length := by omega
  have em : ((m : Int) + 1) = ((m + 1 : Nat) : Int) := by omega
  have y1 : (ks.take m).length = m := by rw [List.length_take]; omega
  have y2 : (ns.take (m + 1)).length = m + 1 := by rw [List.length_take]; omega
  have y3 : (ks.drop (m + 1)).length = ks.length - (m + 1) := List.length_drop
  have y4 : (ns.drop (m + 1)).length = ns.length - (m + 1) := List.length_drop
  have r1 := cut_j (P := Try.prog) Try.underlying52 sz_str B1 (n := ks.length) (show m ≤ d1 by omega)
  have r2 := cut_j (P := Try.prog) Try.underlying39 sz_u64 B3 (n := ns.length) (show m + 1 ≤ d3 by omega)
  have r3 := cut_i (P := Try.prog) Try.underlying52 sz_str B1 (c := d1) (show m + 1 ≤ ks.length by omega)
  have r4 := cut_i (P := Try.prog) Try.underlying39 sz_u64 B3 (c := d3) (show m + 1 ≤ ns.length by omega)
  rw [← em] at r2 r3 r4
  have hap : PgA W4 B1 m none 0 B3 (m + 1) (brA ks ns) := by unfold brA; rw [← hm]; exact ⟨hp.k.take m (Nat.le_refl _) (by have := hp.k.cap; omega), Row.nil _ _ (Nat.zero_le _), hp.n.take (m + 1) (Nat.le_refl _) (by have := hp.n.cap; omega)⟩
  have hbp : PgA W4 (cutA B1 (m + 1) d1) (d1 - (m + 1)) none 0 (cutA B3 (m + 1) d3) (d3 - (m + 1)) (brB ks ns) := by unfold brB; rw [← hm]; exact ⟨hp.k.drop (by show m + 1 ≤ ks.length; omega), Row.nil _ _ (Nat.zero_le _), hp.n.drop (by show m + 1 ≤ ns.length; omega)⟩
  obtain ⟨⟨kb, ko, sp⟩, had, hsp, ⟨cs2, hbk⟩, hcell⟩ := hp.k.get (i := m) (getD_some ByteArray.empty (show m < ks.length by omega))
  obtain rfl : sp = none := hsp
  subst had
  rw [Addr.add_lit] at hcell
  generalize cutA (some ⟨kb, ko, none⟩) (m + 1) d1 = Ab at *
  generalize cutA B3 (m + 1) d3 = Ad at *
  have HAP := Lib.hid hap
  have HBP := Lib.hid hbp
  have HAL : Hid ((brA ks ns).keys.length = m ∧ (brA ks ns).kids.length = m + 1) := Lib.hid (by unfold brA; rw [← hm]; exact ⟨y1, y2⟩)
  have HBL : Hid ((brB ks ns).keys.length = ks.length - (m + 1) ∧ (brB ks ns).kids.length = ns.length - (m + 1)) := Lib.hid (by unfold brB; rw [← hm]; exact ⟨y3, y4⟩)
  have HKC := Lib.hid hcell
  have HBK := Lib.hid hbk
  generalize ks.length - (m + 1) = k1 at *
  generalize ns.length - (m + 1) = k2 at *
  generalize d1 - (m + 1) = kc1 at *
  generalize d3 - (m + 1) = kc2 at *
  have SF : Hid (∀ V, Later W4 V → V.cell? ⟨w.heap.size, 0, none⟩ = some (.bool false) ∧ V.cell? ⟨w.heap.size, 1, none⟩ = some (.slice (some ⟨kb, ko, none⟩) ks.length d1) ∧ V.cell? ⟨w.heap.size, 2, none⟩ = some (.slice B2 vs.length d2) ∧ V.cell? ⟨w.heap.size, 3, none⟩ = some (.slice B3 ns.length d3)) := Lib.hid fun V hV => cells4 (HKP4.out.below hV HKP4.out.lt)
  have i5 : (m : Int) < (ks.length : Int) := by omega
  have i6 : (0 : Int) ≤ (m : Int) := by omega
  have HN0 := Lib.hid hn0
  clear hp hv hk1 hk3 y1 y2 y3 y4 hap hbp hcell hbk hm h2 hm1 em
  go_upto_region 13 with fail
  clear r0 t1 t2
  have ew : IntKind.i64.wrap ((m : Int) + 1) = (m : Int) + 1 := IntWalk.i64_in _ (by omega)
  have HL0 := Lib.hid (Later.refl W4)
  have ZF0 : Hid (∀ s, W4.heap.size ≤ s → W4.heap.size ≤ s) := Lib.hid (fun _ h => h)
  have ZS0 : Hid (∀ V, Later W4 V → (Later W4) V) := Lib.hid (fun _ h => h)
  refine walk_start 14 (S := Later W4) (T := Later W4) (by kernel_rfl) (fun r => W4.heap.size ≤ r) (fun _ h => h.size) ZS0.out (closed_later _) (Later.refl _).drew ?_
  refine wt 0 75 ?_ (fun V hV => ?_) ?_
  rotate_left 1
  · (clear hV; go_simp; (try with_reducible rfl))
  try simp only [pa, List.set]
  refine wt 1 76 ?_ (fun V hV => ?_) ?_
  rotate_left 1
  · (obtain ⟨q0, q1, q2, q3⟩ := SF.out V ((HL0.out.trans hV)); clear hV; go_simp; (try with_reducible rfl))
  try simp only [pa, List.set]
  refine wt 2 77 ?_ (fun V hV => ?_) ?_
  rotate_left 1
  · (clear hV; go_simp; (try with_reducible rfl))
  try simp only [pa, List.set]
  refine wt 3 78 ?_ (fun V hV => ?_) ?_
  rotate_left 1
  · (clear hV; go_simp; (try with_reducible rfl))
  try simp only [pa, List.set]
  refine wt 4 79 ?_ (fun V hV => ?_) ?_
  rotate_left 1
  · (clear hV; go_simp; (try with_reducible rfl))
  try simp only [pa, List.set]
  refine wt 5 80 ?_ (fun V hV => ?_) ?_
  rotate_left 1
  · (clear hV; go_simp; (try with_reducible rfl))
  try simp only [pa, List.set]
  refine wt 6 81 ?_ (fun V hV => ?_) ?_
  rotate_left 1
  · (obtain ⟨q0, q1, q2, q3⟩ := SF.out V ((HL0.out.trans hV)); clear hV; go_simp; (try with_reducible rfl))
  try simp only [pa, List.set]
  refine wt 7 82 ?_ (fun V hV => ?_) ?_
  rotate_left 1
  · (clear hV; go_simp; (try with_reducible rfl))
  try simp only [pa, List.set]
  refine wt 8 83 ?_ (fun V hV => ?_) ?_
  rotate_left 1
  · (clear hV; go_simp; (try with_reducible rfl))
  try simp only [pa, List.set]
  refine wt 9 84 ?_ (fun V hV => ?_) ?_
  rotate_left 1
  · (clear hV; go_simp; (try with_reducible rfl))
  try simp only [pa, List.set]
  refine wt 10 85 ?_ (fun V hV => ?_) ?_
  rotate_left 1
  · (clear hV; go_simp; (try with_reducible rfl))
  try simp only [pa, List.set]
  refine wt 11 86 ?_ (fun V hV => ?_) ?_
  rotate_left 1
  · (clear hV; go_simp; (try with_reducible rfl))
  try simp only [pa, List.set]
  refine wt 12 87 ?_ (fun V hV => ?_) ?_
  rotate_left 1
  · (clear hV; go_simp; (try with_reducible rfl))
  try simp only [pa, List.set]
  refine walk_pend ⟨13, 9, (.cells #[.bool false, .slice none 0 0, .slice none 0 0, .slice none 0 0] 54), fun r => .pointer (some ⟨r, 0, none⟩)⟩ ⟨_, rfl, rfl, rfl, fun W => ?_⟩ ?_
  · (go_simp; (try with_reducible rfl))
  refine walk_force (by kernel_rfl) (by kernel_rfl) (by kernel_rfl) (by kernel_rfl) (fun r13 x13 hV hr13 hB13 => ?_)
  have lt13 : r13 < x13.heap.size := (Array.getElem?_eq_some_iff.1 hr13).1
  have HL1 := Lib.hid (HL0.out.trans hV)
  have ZF1 : Hid (∀ s, x13.heap.size ≤ s → _ ∧ s ≠ r13) := Lib.hid (fun s h => ⟨ZF0.out s (Nat.le_trans hV.size h), Nat.ne_of_gt (Nat.lt_of_lt_of_le lt13 h)⟩)
  refine ⟨Later x13, Later x13, Later.refl _, fun V' h => hV.trans h, fun _ h => h, fun V' h => ZF0.out _ (Nat.le_trans hV.size h.size), fun V' h => Nat.lt_of_lt_of_le lt13 h.size, closed_later _, ?_⟩
  try simp only [pa, List.set]
  have HT13 := Lib.hid hV
  clear hV
  refine walk_exit (fun V hV => ?_)
  have hV0 := HL1.out.trans hV
  try simp only [pa, List.set]
  have kr : Blk V r13 54 #[.bool false, .slice none 0 0, .slice none 0 0, .slice none 0 0] := Blk.below (show Blk x13 r13 54 #[.bool false, .slice none 0 0, .slice none 0 0, .slice none 0 0] from hr13) hV lt13
  have hge : W4.heap.size ≤ r13 := hB13
  have u5 := upd4 kr (.bool false) (.slice (some ⟨kb, ko, none⟩) m m) (.slice none 0 0) (.slice B3 (m + 1) (m + 1))
  obtain ⟨W5, hW5⟩ : ∃ W5, W5 = (((V.setCell ⟨r13, 0, none⟩ (.bool false)).setCell ⟨r13, 1, none⟩ (.slice (some ⟨kb, ko, none⟩) m m)).setCell ⟨r13, 2, none⟩ (.slice none 0 0)).setCell ⟨r13, 3, none⟩ (.slice B3 (m + 1) (m + 1)) := ⟨_, rfl⟩
  rw [← hW5] at u5
  have HL45 : Hid (Later W4 W5) := Lib.hid (u5.below (show Below _ _ _ from hV0) hge (Nat.le_refl _))
  have HKR := Lib.hid u5.blk
  have HGE := Lib.hid hge
  obtain ⟨z0, z1, z2, z3⟩ := cells4 kr
  obtain ⟨f0, f1, f2, f3⟩ := frozen4 kr
  have HW5 := Lib.hid hW5
  clear kr hge u5 hW5 hV hV0 HL0 r1 r2
  refine wpAnyJ_one (i := 14) (by kernel_rfl) rfl (fun K hK => ?_)
  simp only [List.getElem_toArray, List.getElem_cons_succ, List.getElem_cons_zero]
  go_simp
  refine hK.out _ _ (fun h _ => absurd rfl h) ?_
  clear hK K
  try simp only [pa, List.set]
  refine wpAnyJ_done (by kernel_rfl) ?_ _
  rw [← HW5.out]
  clear z0 z1 z2 z3 f0 f1 f2 f3
  generalize r13 = r at *
  go_upto_region 14 with fail
  have ew : IntKind.i64.wrap ((m : Int) + 1) = (m : Int) + 1 := IntWalk.i64_in _ (by have := HN0.out; omega)
  have HL0 := Lib.hid (Later.refl W5)
  have ZF0 : Hid (∀ s, W5.heap.size ≤ s → W5.heap.size ≤ s) := Lib.hid (fun _ h => h)
  have ZS0 : Hid (∀ V, Later W5 V → (Later W5) V) := Lib.hid (fun _ h => h)
  refine walk_start 12 (S := Later W5) (T := Later W5) (by kernel_rfl) (fun r => W5.heap.size ≤ r) (fun _ h => h.size) ZS0.out (closed_later _) (Later.refl _).drew ?_
  refine wt 0 88 ?_ (fun V hV => ?_) ?_
  rotate_left 1
  · (clear hV; go_simp; (try with_reducible rfl))
  try simp only [pa, List.set]
  refine wt 1 89 ?_ (fun V hV => ?_) ?_
  rotate_left 1
  · (obtain ⟨q0, q1, q2, q3⟩ := SF.out V (HL45.out.trans (HL0.out.trans hV)); clear hV; go_simp; (try with_reducible rfl))
  try simp only [pa, List.set]
  refine wt 2 90 ?_ (fun V hV => ?_) ?_
  rotate_left 1
  · (clear hV; go_simp; (try with_reducible rfl))
  try simp only [pa, List.set]
  refine wt 3 91 ?_ (fun V hV => ?_) ?_
  rotate_left 1
  · (clear hV; go_simp; (try with_reducible rfl))
  try simp only [pa, List.set]
  refine wt 4 92 ?_ (fun V hV => ?_) ?_
  rotate_left 1
  · (clear hV; go_simp; (try with_reducible rfl))
  try simp only [pa, List.set]
  refine wt 5 93 ?_ (fun V hV => ?_) ?_
  rotate_left 1
  · (clear hV; go_simp; (try with_reducible rfl))
  try simp only [pa, List.set]
  refine wt 6 94 ?_ (fun V hV => ?_) ?_
  rotate_left 1
  · (obtain ⟨q0, q1, q2, q3⟩ := SF.out V (HL45.out.trans (HL0.out.trans hV)); clear hV; go_simp; (try with_reducible rfl))
  try simp only [pa, List.set]
  refine wt 7 95 ?_ (fun V hV => ?_) ?_
  rotate_left 1
  · (clear hV; go_simp; (try with_reducible rfl))
  try simp only [pa, List.set]
  refine wt 8 96 ?_ (fun V hV => ?_) ?_
  rotate_left 1
  · (clear hV; go_simp; (try with_reducible rfl))
  try simp only [pa, List.set]
  refine wt 9 97 ?_ (fun V hV => ?_) ?_
  rotate_left 1
  · (clear hV; go_simp; (try with_reducible rfl))
  try simp only [pa, List.set]
  refine wt 10 98 ?_ (fun V hV => ?_) ?_
  rotate_left 1
  · (clear hV; go_simp; (try with_reducible rfl))
  try simp only [pa, List.set]
  refine walk_pend ⟨11, 10, (.cells #[.bool false, .slice none 0 0, .slice none 0 0, .slice none 0 0] 54), fun r => .pointer (some ⟨r, 0, none⟩)⟩ ⟨_, rfl, rfl, rfl, fun W => ?_⟩ ?_
  · (go_simp; (try with_reducible rfl))
  refine walk_force (by kernel_rfl) (by kernel_rfl) (by kernel_rfl) (by kernel_rfl) (fun r11 x11 hV hr11 hB11 => ?_)
  have lt11 : r11 < x11.heap.size := (Array.getElem?_eq_some_iff.1 hr11).1
  have HL1 := Lib.hid (HL0.out.trans hV)
  have ZF1 : Hid (∀ s, x11.heap.size ≤ s → _ ∧ s ≠ r11) := Lib.hid (fun s h => ⟨ZF0.out s (Nat.le_trans hV.size h), Nat.ne_of_gt (Nat.lt_of_lt_of_le lt11 h)⟩)
  refine ⟨Later x11, Later x11, Later.refl _, fun V' h => hV.trans h, fun _ h => h, fun V' h => ZF0.out _ (Nat.le_trans hV.size h.size), fun V' h => Nat.lt_of_lt_of_le lt11 h.size, closed_later _, ?_⟩
  try simp only [pa, List.set]
  have HT11 := Lib.hid hV
  clear hV
  refine walk_exit (fun V hV => ?_)
  have hV0 := HL1.out.trans hV
  try simp only [pa, List.set]
  have kr : Blk V r11 54 #[.bool false, .slice none 0 0, .slice none 0 0, .slice none 0 0] := Blk.below (show Blk x11 r11 54 #[.bool false, .slice none 0 0, .slice none 0 0, .slice none 0 0] from hr11) hV lt11
  have hge : W5.heap.size ≤ r11 := hB11
  have u6 := upd4 kr (.bool false) (.slice Ab k1 kc1) (.slice none 0 0) (.slice Ad k2 kc2)
  obtain ⟨W6, hW6⟩ : ∃ W6, W6 = (((V.setCell ⟨r11, 0, none⟩ (.bool false)).setCell ⟨r11, 1, none⟩ (.slice Ab k1 kc1)).setCell ⟨r11, 2, none⟩ (.slice none 0 0)).setCell ⟨r11, 3, none⟩ (.slice Ad k2 kc2) := ⟨_, rfl⟩
  rw [← hW6] at u6
  have hl56 : Later W5 W6 := u6.below (show Below _ _ _ from hV0) hge (Nat.le_refl _)
  have hl46 : Later W4 W6 := HL45.out.trans hl56
  have hm6 : Sm W4 W6 := Sm.later hl46
  have ks6 := u6.blk
  have kr6 := HKR.out.below hl56 HKR.out.lt
  have kx6 := HKX4.out.below hl46 HKX4.out.lt
  have ky6 := HKY4.out.below hl46 HKY4.out.lt
  have hbk6 := (hm6 kb cs2).1 HBK.out
  have hc6 := HKC.out W6 (fun g cs => (hm6 g cs).1)
  have h4 := HS4.out
  have h5 := (show Below _ _ _ from HL45.out).size
  have h6 := HGE.out
  have nr1 : w.heap.size + 1 ≠ r := by omega
  have nr2 : w.heap.size + 2 ≠ r := by omega
  have ns1 : w.heap.size + 1 ≠ r11 := by omega
  have ns2 : w.heap.size + 2 ≠ r11 := by omega
  have np2 : w.heap.size + 2 ≠ w.heap.size := by omega
  have np3 : w.heap.size ≠ w.heap.size + 1 + 1 := by omega
  have na1 : w.heap.size + 1 ≠ kb := fun e => by rw [← e] at hbk6; exact kx6.ne_ hbk6 (by decide) rfl
  have na2 : w.heap.size + 2 ≠ kb := fun e => by rw [← e] at hbk6; exact ky6.ne_ hbk6 (by decide) rfl
  have u9 := upd4 kx6 (.bool false) (.slice (some ⟨kb, ko, none⟩) m m) (.slice none 0 0) (.slice B3 (m + 1) (m + 1))
  have ky9 := u9.far (show Blk W6 (w.heap.size + 1 + 1) 54 #[.bool false, .slice none 0 0, .slice none 0 0, .slice none 0 0] from ky6) (show w.heap.size + 1 + 1 ≠ w.heap.size + 1 by omega)
  have u10 := upd4 ky9 (.bool false) (.slice Ab k1 kc1) (.slice none 0 0) (.slice Ad k2 kc2)
  have HM10 : Hid (Sm W4 _) := Lib.hid (hm6.trans ((u9.sm kx6 (by decide) (by decide)).trans (u10.sm ky9 (by decide) (by decide))))
  have HK1 := Lib.hid (u10.far u9.blk (show w.heap.size + 1 ≠ w.heap.size + 1 + 1 by omega))
  have HK2 := Lib.hid u10.blk
  have HB10 : Hid (Below w.heap.size w _) := Lib.hid (u10.below (u9.below (HB4.out.trans ((show Below _ _ _ from hl46).mono (by omega))) (by omega) (Nat.le_refl _)) (by omega) (Nat.le_refl _))
  obtain ⟨z0, z1, z2, z3⟩ := cells4 kr
  obtain ⟨f0, f1, f2, f3⟩ := frozen4 kr
  obtain ⟨q0, q1, q2, q3⟩ := SF.out W6 hl46
  obtain ⟨r0, r1, r2, r3⟩ := cells4 kr6
  obtain ⟨s0, s1, s2, s3⟩ := cells4 ks6
  obtain ⟨x0, x1, x2, x3⟩ := cells4 kx6
  obtain ⟨y0, y1, y2, y3⟩ := cells4 ky6
  obtain ⟨xf0, xf1, xf2, xf3⟩ := frozen4 kx6
  obtain ⟨yf0, yf1, yf2, yf3⟩ := frozen4 ky6
  have HW6 := Lib.hid hW6
  clear kr hge u6 hW6 hV hV0 HL0 hl56 hl46 hm6 ks6 kr6 kx6 ky6 hbk6 h4 h5 h6 u9 ky9 u10
  refine wpAnyJ_one (i := 12) (by kernel_rfl) rfl (fun K hK => ?_)
  simp only [List.getElem_toArray, List.getElem_cons_succ, List.getElem_cons_zero]
  go_simp
  refine hK.out _ _ (fun h _ => absurd rfl h) ?_
  clear hK K
  try simp only [pa, List.set]
  refine wpAnyJ_done (by kernel_rfl) ?_ _
  rw [← HW6.out]
  clear z0 z1 z2 z3 f0 f1 f2 f3
  go_upto_region 15 with fail
  go_region_held3 (fun V => V.cell? ⟨r, 0, none⟩ = some (.bool false) ∧ V.cell? ⟨r, 1, none⟩ = some (.slice (some ⟨kb, ko, none⟩) m m) ∧ V.cell? ⟨r, 2, none⟩ = some (.slice none 0 0) ∧ V.cell? ⟨r, 3, none⟩ = some (.slice B3 (m + 1) (m + 1)) ∧ V.cell? ⟨r11, 0, none⟩ = some (.bool false) ∧ V.cell? ⟨r11, 1, none⟩ = some (.slice Ab k1 kc1) ∧ V.cell? ⟨r11, 2, none⟩ = some (.slice none 0 0) ∧ V.cell? ⟨r11, 3, none⟩ = some (.slice Ad k2 kc2) ∧ V.cell? ⟨w.heap.size, 1, none⟩ = some (.slice (some ⟨kb, ko, none⟩) ks.length d1) ∧
      V.cell? ⟨kb, ko + m, none⟩ = some (.string (ks.getD m ByteArray.empty)))
    (go_keep) (fail)
  all_goals
    obtain ⟨W9, hW9⟩ : ∃ W9, W9 = ((((((((W6.setCell ⟨w.heap.size + 1, 0, none⟩ (.bool false)).setCell ⟨w.heap.size + 1, 1, none⟩ (.slice (some ⟨kb, ko, none⟩) m m)).setCell ⟨w.heap.size + 1, 2, none⟩ (.slice none 0 0)).setCell ⟨w.heap.size + 1, 3, none⟩ (.slice B3 (m + 1) (m + 1))).setCell ⟨w.heap.size + 1 + 1, 0, none⟩ (.bool false)).setCell ⟨w.heap.size + 1 + 1, 1, none⟩ (.slice Ab k1 kc1)).setCell ⟨w.heap.size + 1 + 1, 2, none⟩ (.slice none 0 0)).setCell ⟨w.heap.size + 1 + 1, 3, none⟩ (.slice Ad k2 kc2)).drew := ⟨_, rfl⟩
    rw [← hW9]
    have HW9 := Lib.hid hW9
    clear hW9
    go_wp2_with fail
    have k1' : Blk W9 (w.heap.size + 1) 54 #[.bool false, .slice (some ⟨kb, ko, none⟩) m m, .slice none 0 0, .slice B3 (m + 1) (m + 1)] := by rw [HW9.out]; exact HK1.out.drew
    have k2' : Blk W9 (w.heap.size + 1 + 1) 54 #[.bool false, .slice Ab k1 kc1, .slice none 0 0, .slice Ad k2 kc2] := by rw [HW9.out]; exact HK2.out.drew
    have hb9 : Below w.heap.size w W9 := by rw [HW9.out]; exact HB10.out.drew
    have hm9 : Sm W4 W9 := by rw [HW9.out]; exact HM10.out.drew
    refine bodyPost_ret_by (results_csc rfl _ _ (w.heap.size + 1) (w.heap.size + 1 + 1) 54 _ _ (0, 0) (0, 0) _ rfl rfl k1' k2' Try.underlying54 rfl (by kernel_rfl) (by kernel_rfl)) rfl ?_
    rw [← HM.out]
    refine ⟨hb9, _, _, rfl, ⟨some ⟨kb, ko, none⟩, m, none, 0, B3, m + 1, ?_, HAP.out.sm hm9⟩, ⟨Ab, kc1, none, 0, Ad, kc2, ?_, HBP.out.sm hm9⟩⟩
    · unfold pgc
      rw [HAL.out.1, HAL.out.2]
      rfl
    · unfold pgc
      rw [HBL.out.1, HBL.out.2]
      rfl
end
/-- A page of more than 900 bytes can be split. -/
theorem great_split {p : Pg} (h : Ok p) (hg : 900 < (encP p).length) : (p.leaf = true ∧ 2 ≤ p.keys.length) ∨ (p.leaf = false ∧ 3 ≤ p.keys.length) := by
  have k1 : ∀ s ∈ p.keys, s.size < 18446744073709551616 := fun s hm => by have := (good_key_size h.good s hm).2; omega
  have k2 : ∀ s ∈ p.vals, s.size < 18446744073709551616 := fun s hm => by have := good_val_size h.good s hm; omega
  have h1 := sizes_bound 40 p.keys (fun s hs => (good_key_size h.good s hs).2)
  have h2 := sizes_bound 400 p.vals (good_val_size h.good)
  have a1 := encKV_le p.keys p.vals k1 k2
  have a2 := encK_le p.keys k1
  have a3 := encN_le p.kids h.nums
  have a4 := putU_le (u := p.keys.length) (by have := h.few; omega)
  unfold encP encB at hg
  rcases good_shape h.good with ⟨a, b, c⟩ | ⟨a, b, c⟩
  · refine .inl ⟨a, ?_⟩
    rw [a] at hg
    simp only [if_true, List.length_cons, List.length_append] at hg
    rw [c] at a3
    omega
  · refine .inr ⟨a, ?_⟩
    rw [a] at hg
    simp only [Bool.false_eq_true, if_false, List.length_cons, List.length_append] at hg
    omega
theorem split_any {w : World} {cs : Array Value} {p : Pg} (h : PgV w cs p) (ho : Ok p) (hg : 900 < (encP p).length) :
    ∃ a k b, splitP p = some (a, k, b) ∧ 1 ≤ b.keys.length ∧ Calls Try.prog 61 #[.agg cs] w (SplitPost w a b k) := by
  obtain ⟨A1, c1, A2, c2, A3, c3, rfl, h⟩ := h
  obtain ⟨lf, ks, vs, ns⟩ := p
  rcases great_split ho hg with ⟨e, h2⟩ | ⟨e, h2⟩
  · obtain rfl : lf = true := e
    have hs := splitAt_le ⟨true, ks, vs, ns⟩ h2
    refine ⟨_, _, _, ?_, ?_, split_leaf h ho h2⟩
    · unfold splitP; rw [if_pos rfl, if_pos h2]
    · show 1 ≤ ((ks.take ks.length).drop _).length
      rw [List.length_drop, List.take_length]
      have := hs.2
      show 1 ≤ ks.length - _
      have : splitAt ⟨true, ks, vs, ns⟩ < ks.length := this
      omega
  · obtain rfl : lf = false := e
    refine ⟨_, _, _, ?_, ?_, split_branch h ho h2⟩
    · unfold splitP; rw [if_neg (by simp), if_pos h2]
    · show 1 ≤ (ks.drop (ks.length / 2 + 1)).length
      have h2 : 3 ≤ ks.length := h2
      rw [List.length_drop]
      omega
end Go.Proofs.Ytafeddjcomeniaa
end

/- tree.add: a page onto the shelf, in two if it is great. Conditions: the shelf and the page lie in memory; the page may be, and has few keys. -/
section
namespace Go.Proofs.Ytafeddjcomeniaa
open Go.RowKit
set_option linter.unusedVariables false
set_option linter.unusedSimpArgs false

theorem DKept.others {S : Nat → Prop} {w w' : World} (h : DKept S w w') (hS : ∀ k, S k → ∃ t cs, Blk w k t cs) : KeepsOthers w w' :=
  ⟨h.size, fun k o hk hc => (h.block k (Array.getElem?_eq_some_iff.1 hk).1 fun hs => by
    obtain ⟨t, cs, hb⟩ := hS k hs
    have hb' : w.heap[k]? = some _ := hb
    rw [hb'] at hk
    cases hk; cases hc).trans hk⟩
theorem later_others {w w' : World} (h : Later w w') : KeepsOthers w w' :=
  ⟨(show Below _ _ _ from h).size, fun k o hk _ => ((show Below _ _ _ from h).block k (Array.getElem?_eq_some_iff.1 hk).1).trans hk⟩
/-- The shelf was written: what else is as it was. -/
structure Wr (B b : Nat) (ill : Int) (s' : Sh) (w w' : World) : Prop where
  sh : ∃ v', ShAt B w' b ill s' v'
  below : Below B w w'
  far : ∀ g t cs, Far t → Blk w g t cs → Blk w' g t cs
  sm : Sm w w'
  oth : KeepsOthers w w'
theorem Wr.size {B b : Nat} {ill : Int} {s1 : Sh} {w w1 : World} (h : Wr B b ill s1 w w1) : w.heap.size ≤ w1.heap.size := h.oth.size
theorem Wr.trans {B b : Nat} {ill : Int} {s1 s2 : Sh} {w w1 w2 : World} (h : Wr B b ill s1 w w1) (k : Wr B b ill s2 w1 w2) : Wr B b ill s2 w w2 :=
  ⟨k.sh, h.below.trans k.below, fun g t cs ht x => k.far g t cs ht (h.far g t cs ht x), h.sm.trans k.sm, h.oth.trans k.oth⟩
theorem Wr.later {B b : Nat} {ill : Int} {s1 : Sh} {w w1 w2 : World} (h : Wr B b ill s1 w w1) (hB : B ≤ w.heap.size) (k : Later w1 w2) : Wr B b ill s1 w w2 := by
  obtain ⟨v', hs⟩ := h.sh
  exact ⟨⟨v', hs.later k⟩, h.below.trans ((show Below _ _ _ from k).mono (Nat.le_trans hB h.size)), fun g t cs ht x => (h.far g t cs ht x).below k (h.far g t cs ht x).lt, h.sm.trans (Sm.later k), h.oth.trans (later_others k)⟩
theorem Wr.from_ {B b : Nat} {ill : Int} {s1 : Sh} {w w1 w2 : World} (hB : B ≤ w.heap.size) (k : Later w w1) (h : Wr B b ill s1 w1 w2) : Wr B b ill s1 w w2 :=
  ⟨h.sh, ((show Below _ _ _ from k).mono hB).trans h.below, fun g t cs ht x => h.far g t cs ht (x.below k x.lt), (Sm.later k).trans h.sm, (later_others k).trans h.oth⟩
theorem Wr.upd {B b g : Nat} {ill : Int} {s1 : Sh} {w w1 w2 : World} {t : TypeId} {cs cs0 : Array Value} (h : Wr B b ill s1 w w1) (u : Upd w1 w2 g t cs) (hb : Blk w1 g t cs0) (ht : Far t) (hg : w.heap.size ≤ g) (hB : B ≤ w.heap.size) : Wr B b ill s1 w w2 := by
  obtain ⟨v', hs⟩ := h.sh
  exact ⟨⟨v', hs.updFar u hb ht⟩, u.below h.below (by omega) hB, fun g' t' cs' ht' x => u.far (h.far g' t' cs' ht' x) (by have := x.lt; omega), h.sm.trans (u.sm hb ht.s ht.n), h.oth.trans (u.kept.others fun k e => by subst e; exact ⟨_, _, hb⟩)⟩
theorem ShAdd.wr {B b : Nat} {ill : Int} {s : Sh} {v : Value} {p : Pg} {w w' : World} {e : Ending} (h : ShAdd B b ill s v p w e w') (hs : ShAt B w b ill s v) (hB : B ≤ w.heap.size) : Wr B b ill (addS ill s p).1 w w' := by
  obtain ⟨v', _, h1, h2, h3, _⟩ := h
  refine ⟨⟨v', h1⟩, h2.below hB fun i hi => ?_, fun g t cs ht x => h2.blk x fun hi => ?_, h3, h2.others fun k hi => ?_⟩
  · rcases hi with rfl | hi
    · exact hs.hb
    · exact (hs.rowlt i hi).1
  · rcases hi with rfl | hi
    · exact x.ne_ hs.blk ht.h rfl
    · obtain ⟨L, h4, _⟩ := hs.row
      exact own_blk' h4 x ht.p.symm hi
  · rcases hi with rfl | hi
    · exact ⟨_, _, hs.blk⟩
    · obtain ⟨L, h4, _⟩ := hs.row
      rcases h4.2 with ⟨e, _⟩ | ⟨g, cap, cur, e, _, hb, _⟩
      · rw [e] at hi; cases hi
      · rw [e] at hi
        cases hi
        exact ⟨_, _, hb⟩
def addedC (a : Added) : Array Value := #[.int .u64 a.n, .bool a.sp.isSome, .string (match a.sp with | some (k, _) => k | none => ⟨#[]⟩), .int .u64 (match a.sp with | some (_, o) => o | none => 0)]
/-- What add answers. -/
def AddPost (B b : Nat) (ill : Int) (s : Sh) (v : Value) (p : Pg) (w : World) (e : Ending) (w' : World) : Prop :=
  (∃ x y z u, e = .returned (.tuple #[.agg #[.int .u64 x, .bool y, .string z, .int .u64 u], .int .i64 (if (halves ill s p).2.isSome then 0 else 4)]) ∧ ∀ a, (halves ill s p).2 = some a → #[Value.int .u64 x, .bool y, .string z, .int .u64 u] = addedC a) ∧ Wr B b ill (halves ill s p).1 w w' ∧ DKept (fun k => k = b ∨ v.ownBlock = some k) w w'
theorem far_added : Far 85 := ⟨by decide, by decide, by decide, by decide⟩
set_option maxRecDepth 100000 in
set_option maxHeartbeats 8000000 in
theorem add_any {B b : Nat} {w : World} {ill : Int} {s : Sh} {v : Value} {p : Pg} {cs : Array Value} (h : ShAt B w b ill s v) (hB : B ≤ w.heap.size) (hn : 0 ≤ s.n) (hn2 : s.n < 1000000000) (hl : s.S.length ≤ 99990) (hp : PgV w cs p) (ho : Ok p) :
    Calls Try.prog 31 #[shV b, .agg cs] w (AddPost B b ill s v p w) := by
  obtain ⟨W0, hW0⟩ : ∃ W0, W0 = (w.alloc (.cells cs 54)).alloc (.cells #[.int .u64 0, .bool false, .string ⟨#[]⟩, .int .u64 0] 85) := ⟨_, rfl⟩
  have hb0 : Later w W0 := by rw [hW0]; exact (below_new _ _).alloc (by simp) _
  have hs0 : W0.heap.size = w.heap.size + 2 := by rw [hW0]; simp
  have kp : Blk W0 w.heap.size 54 cs := by rw [hW0]; exact (Blk.new _ _ _).alloc _
  have kz : Blk W0 (w.heap.size + 1) 85 #[.int .u64 0, .bool false, .string ⟨#[]⟩, .int .u64 0] := by
    rw [hW0]
    have := Blk.new (w.alloc (.cells cs 54)) 85 #[.int .u64 0, .bool false, .string ⟨#[]⟩, .int .u64 0]
    simpa using this
  have hp0 := hp.below hb0
  have CB := Lib.hid (bytes_any hp0 ho)
  have hbd : B ≤ W0.heap.size := by omega
  have HB := Lib.hid hB
  have H0 := Lib.hid (h.later hb0)
  have HVL : Hid (∀ k, v.ownBlock = some k → k < w.heap.size) := Lib.hid fun k e => (h.rowlt _ e).2
  have HLB := Lib.hid h.blk.lt
  have HP0 := Lib.hid hp0
  have HB0 := Lib.hid hb0
  have HS0 := Lib.hid hs0
  have HKP := Lib.hid kp
  have HKZ := Lib.hid kz
  have HW0 := Lib.hid hW0
  have HO := Lib.hid ho
  obtain ⟨A1, c1, A2, c2, A3, c3, hcs, -⟩ := hp
  have HCS := Lib.hid hcs
  unfold pgc at hcs
  subst hcs
  obtain ⟨q0, q1, q2, q3⟩ := cells4 kp
  obtain ⟨z0, z1, z2, z3⟩ := cells4 kz
  obtain ⟨f0, f1, f2, f3⟩ := frozen4 kz
  clear h hB hW0 hb0 hs0 kp kz hp0 ho hbd
  generalize hk1 : p.keys.length = k1 at *
  generalize hk2 : p.vals.length = k2 at *
  generalize hk3 : p.kids.length = k3 at *
  generalize hlf : p.leaf = lf at *
  clear hk1 hk2 hk3 hlf
  have hmet := fun w => method_add ⟨b, 0, none⟩ w
  unfold shV
  go_enter Try.func31, Try.ntmps31
  go_upto_region 1 with fail
  rw [← HW0.out]
  go_wp2_with fail
  refine CB.out.mono ?_
  rintro e w1 ⟨rfl, hb1⟩
  have hs1 := H0.out.later hb1
  have hp1 := HP0.out.below hb1
  have kp1 := HKP.out.below hb1 HKP.out.lt
  have kz1 := HKZ.out.below hb1 HKZ.out.lt
  have hL1 : Later w w1 := HB0.out.trans hb1
  have HL1 := Lib.hid hL1
  by_cases hgr : 900 < (encP p).length
  · have g1 : decide (900 < ((encP p).length : Int)) = true := decide_eq_true (by omega)
    have g2 : decide (900 < (encP p).length) = true := decide_eq_true hgr
    obtain ⟨pa, kk, pb, hsp, hbl, CS0⟩ := split_any hp1 HO.out hgr
    have CS := Lib.hid CS0
    have hha : halves ill s p = match addS ill s pa with
        | (s1, none) => (s1, none)
        | (s1, some x) => match addS ill s1 pb with
          | (s2, none) => (s2, none)
          | (s2, some y) => (s2, some ⟨x, some (kk, y)⟩) := by
      unfold halves; rw [if_pos hgr, hsp]; rfl
    have HHA := Lib.hid hha
    have HS1 := Lib.hid hs1
    have HKZ1 := Lib.hid kz1
    obtain ⟨y0, y1, y2, y3⟩ := cells4 kp1
    generalize (encP p).length = N at *
    clear hgr hha hs1 hp1 kp1 kz1 hL1 hb1 CB q0 q1 q2 q3 z0 z1 z2 z3 f0 f1 f2 f3 CS0 hsp
    go_wp2_with fail
    refine CS.out.mono ?_
    rintro e w2 ⟨hb2, ca, cb, rfl, hva, hvb⟩
    obtain ⟨D1, d1, D2, d2, D3, d3, rfl, hpa⟩ := hva
    obtain ⟨E1, e1, E2, e2, E3, e3, rfl, hpb⟩ := hvb
    have hva : PgV w2 (pgc D1 d1 D2 d2 D3 d3 pa) pa := ⟨_, _, _, _, _, _, rfl, hpa⟩
    have hvb : PgV w2 (pgc E1 e1 E2 e2 E3 e3 pb) pb := ⟨_, _, _, _, _, _, rfl, hpb⟩
    unfold pgc at hva hvb ⊢
    obtain ⟨W3, hW3⟩ : ∃ W3, W3 = (w2.alloc (.cells #[.bool pa.leaf, .slice D1 pa.keys.length d1, .slice D2 pa.vals.length d2, .slice D3 pa.kids.length d3] 54)).alloc (.cells #[.bool pb.leaf, .slice E1 pb.keys.length e1, .slice E2 pb.vals.length e2, .slice E3 pb.kids.length e3] 54) := ⟨_, rfl⟩
    have hl3 : Later w2 W3 := by rw [hW3]; exact (below_new _ _).alloc (by simp) _
    have k6 : Blk W3 w2.heap.size 54 #[.bool pa.leaf, .slice D1 pa.keys.length d1, .slice D2 pa.vals.length d2, .slice D3 pa.kids.length d3] := by rw [hW3]; exact (Blk.new _ _ _).alloc _
    have k8 : Blk W3 (w2.heap.size + 1) 54 #[.bool pb.leaf, .slice E1 pb.keys.length e1, .slice E2 pb.vals.length e2, .slice E3 pb.kids.length e3] := by
      rw [hW3]
      have := Blk.new (w2.alloc (.cells #[.bool pa.leaf, .slice D1 pa.keys.length d1, .slice D2 pa.vals.length d2, .slice D3 pa.kids.length d3] 54)) 54 #[.bool pb.leaf, .slice E1 pb.keys.length e1, .slice E2 pb.vals.length e2, .slice E3 pb.kids.length e3]
      simpa using this
    have hl23 : Later w1 W3 := (show Later w1 w2 from hb2).trans hl3
    have HL3 := Lib.hid (HL1.out.trans hl23)
    have hs3 := HS1.out.later hl23
    have HKZ3 := Lib.hid (HKZ1.out.below hl23 HKZ1.out.lt)
    have hBW : B ≤ W3.heap.size := by have := HB.out; have := (show Below _ _ _ from HL3.out).size; omega
    have hva3 := hva.below hl3
    have HVB3 := Lib.hid (hvb.below hl3)
    have CA := Lib.hid (shAdd_any hs3 hBW hn (by omega) (by omega) hva3)
    have HS3 := Lib.hid hs3
    have HBW := Lib.hid hBW
    obtain ⟨q0, q1, q2, q3⟩ := cells4 k6
    obtain ⟨r0, r1, r2, r3⟩ := cells4 k8
    have HK8 := Lib.hid k8
    have HQ8 : Hid (w.heap.size ≤ w2.heap.size) := Lib.hid (by have := (show Below _ _ _ from HL1.out).size; have := hb2.size; omega)
    have HW3 := Lib.hid hW3
    obtain ⟨q, hq⟩ : ∃ q, q = w2.heap.size := ⟨_, rfl⟩
    rw [← hq] at q0 q1 q2 q3 r0 r1 r2 r3 HK8 HQ8
    have HQ := Lib.hid hq
    generalize pa.keys.length = m1 at *
    generalize pa.vals.length = m2 at *
    generalize pa.kids.length = m3 at *
    generalize pa.leaf = la at *
    generalize pb.keys.length = n1 at *
    generalize pb.vals.length = n2 at *
    generalize pb.kids.length = n3 at *
    generalize pb.leaf = lb at *
    have n1p : decide ((0 : Int) < (n1 : Int)) = true := decide_eq_true (by omega)
    have n1q : decide (0 < n1) = true := decide_eq_true (by omega)
    clear hb2 hva hvb hpa hpb hW3 hl3 k6 k8 hl23 hs3 hBW hva3 CS y0 y1 y2 y3 g1 g2
    go_upto_region 3 with fail
    rw [← HW3.out, ← HQ.out]
    clear hq
    go_wp2_with fail
    refine CA.out.mono ?_
    rintro e w4 hsa
    have hwr4 := (show ShAdd B b ill s v pa W3 e w4 from hsa).wr HS3.out HBW.out
    obtain ⟨v4, he, hsh4, hk4, hm4, hn4⟩ := hsa
    subst he
    have kz4 := hwr4.far _ _ _ far_added HKZ3.out
    have hw4 := hwr4.from_ HB.out HL3.out
    have HD4 : Hid (DKept (fun k => k = b ∨ v.ownBlock = some k) w w4) := Lib.hid ((DKept.of_below (S := fun k => k = b ∨ v.ownBlock = some k) (show Below _ _ _ from HL3.out)).trans hk4 (fun _ _ h => h))
    have HKZ4 := Lib.hid kz4
    have HW4 := Lib.hid hw4
    obtain ⟨z0, z1, z2, z3⟩ := cells4 kz4
    obtain ⟨f0, f1, f2, f3⟩ := frozen4 kz4
    rcases addS_ok ill s pa with ⟨sx, ea, _, hnx⟩ | ⟨sx, ea, gx, hnx⟩
    · have u := upd4 kz4 (.int .u64 0) (.bool false) (.string ⟨#[]⟩) (.int .u64 0)
      have HU := Lib.hid u
      have FIN : Hid (∀ w', Upd w4 w' (w.heap.size + 1) 85 #[.int .u64 0, .bool false, .string ⟨#[]⟩, .int .u64 0] → AddPost B b ill s v p w (.returned (.tuple #[.agg #[.int .u64 0, .bool false, .string ⟨#[]⟩, .int .u64 0], .int .i64 4])) w') := Lib.hid fun w' u => by
        unfold AddPost
        have hw2 := HW4.out.upd u HKZ4.out far_added (by omega) HB.out
        rw [HHA.out, ea]
        rw [ea] at hw2
        exact ⟨⟨_, _, _, _, rfl, fun a ha => by cases ha⟩, hw2, HD4.out.upd u (by omega)⟩
      rw [ea]
      clear hwr4 hsh4 hk4 hm4 hn4 kz4 hw4 u CA q0 q1 q2 q3 r0 r1 r2 r3 ea
      go_wp2_with fail
      refine bodyPost_ret_by (results_cs rfl _ _ (w.heap.size + 1) 85 _ (0, 0) _ rfl HU.out.blk Try.underlying85 rfl (by kernel_rfl)) rfl ?_
      exact FIN.out _ HU.out
    · obtain ⟨nn, hnn⟩ : ∃ nn : Int, nn = ((s.S.length + 1 : Nat) : Int) := ⟨_, rfl⟩
      rw [← hnn] at ea
      clear hnn
      rw [ea] at hsh4 hw4
      have k84 := hk4.blk HK8.out (fun e => by
        rcases e with e | e
        · have := HLB.out; have := HQ8.out; omega
        · have := HVL.out _ e; have := HQ8.out; omega)
      obtain ⟨x0, x1, x2, x3⟩ := cells4 k84
      have hvb4 := HVB3.out.sm hm4
      have hlx : sx.S.length = s.S.length + 1 := by rw [gx.S]; simp
      have CA2 := Lib.hid (shAdd_any hsh4 (Nat.le_trans HBW.out hk4.size) (by dsimp only; omega) (by dsimp only; omega) (by dsimp only; omega) hvb4)
      have HSH4 := Lib.hid hsh4
      have HN4 := Lib.hid hn4
      have HBX : Hid (B ≤ w4.heap.size) := Lib.hid (Nat.le_trans HBW.out hk4.size)
      have HEA := Lib.hid ea
      have HW4' := Lib.hid hw4
      rw [ea]
      dsimp only at CA2
      clear hwr4 hsh4 hk4 hm4 hn4 kz4 hw4 CA q0 q1 q2 q3 r0 r1 r2 r3 z0 z1 z2 z3 f0 f1 f2 f3 k84 hvb4 hlx ea gx HW4
      go_wp2_with fail
      refine CA2.out.mono ?_
      rintro e w5 hsa
      have hwr5 := (show ShAdd B b ill sx v4 pb w4 e w5 from hsa).wr HSH4.out HBX.out
      obtain ⟨v5, he, hsh5, hk5, hm5, hn5⟩ := hsa
      subst he
      have kz5 := hwr5.far _ _ _ far_added HKZ4.out
      obtain ⟨z0, z1, z2, z3⟩ := cells4 kz5
      obtain ⟨f0, f1, f2, f3⟩ := frozen4 kz5
      have u := upd4 kz5 (.int .u64 nn) (.bool true) (.string kk) (.int .u64 ((addS ill sx pb).2.getD 0))
      have HU := Lib.hid u
      have HKZ5 := Lib.hid kz5
      have HW5 := Lib.hid (HW4'.out.trans hwr5)
      have HD5 : Hid (DKept (fun k => k = b ∨ v.ownBlock = some k) w w5) := Lib.hid (HD4.out.trans hk5 fun k hk h => by
        rcases h with h | h
        · exact .inl h
        · rcases HN4.out k h with h | h
          · exact .inr h
          · exact absurd hk (by have := (show Below _ _ _ from HL3.out).size; omega))
      have FIN : Hid (∀ w', Upd w5 w' (w.heap.size + 1) 85 #[.int .u64 nn, .bool true, .string kk, .int .u64 ((addS ill sx pb).2.getD 0)] → AddPost B b ill s v p w (.returned (.tuple #[.agg #[.int .u64 nn, .bool true, .string kk, .int .u64 ((addS ill sx pb).2.getD 0)], .int .i64 (if (addS ill sx pb).2.isSome then 0 else 4)])) w') := Lib.hid fun w' u => by
        unfold AddPost
        have hw2 := HW5.out.upd u HKZ5.out far_added (by omega) HB.out
        rw [HHA.out, HEA.out]
        dsimp only
        rcases addS_ok ill sx pb with ⟨s2, e2, _, _⟩ | ⟨s2, e2, _, _⟩
        · simp only [e2] at hw2 ⊢
          exact ⟨⟨_, _, _, _, rfl, fun a ha => by cases ha⟩, hw2, HD5.out.upd u (by omega)⟩
        · simp only [e2] at hw2 ⊢
          exact ⟨⟨_, _, _, _, rfl, fun a ha => by cases ha; rfl⟩, hw2, HD5.out.upd u (by omega)⟩
      generalize (addS ill sx pb).2.getD 0 = x at *
      generalize (if (addS ill sx pb).2.isSome then (0 : Int) else 4) = er at *
      clear hwr5 hsh5 hk5 hm5 hn5 kz5 u CA2 x0 x1 x2 x3
      go_wp2_with fail
      refine bodyPost_ret_by (results_cs rfl _ _ (w.heap.size + 1) 85 _ (0, 0) _ rfl HU.out.blk Try.underlying85 rfl (by kernel_rfl)) rfl ?_
      exact FIN.out _ HU.out
  · have g1 : decide (900 < ((encP p).length : Int)) = false := decide_eq_false (by omega)
    have g2 : decide (900 < (encP p).length) = false := decide_eq_false hgr
    have CA := Lib.hid (shAdd_any hs1 (by have := HB.out; have := (show Below _ _ _ from hL1).size; omega) hn (by omega) (by omega) hp1)
    have hha : halves ill s p = match addS ill s p with | (s1, none) => (s1, none) | (s1, some x) => (s1, some ⟨x, none⟩) := by
      unfold halves; rw [if_neg hgr]; rfl
    have HHA := Lib.hid hha
    have HS1 := Lib.hid hs1
    have HKZ1 := Lib.hid kz1
    obtain ⟨y0, y1, y2, y3⟩ := cells4 kp1
    generalize (encP p).length = N at *
    clear hgr hha hs1 hp1 kp1 kz1 hL1 hb1 CB q0 q1 q2 q3 z0 z1 z2 z3 f0 f1 f2 f3
    go_wp2_with fail
    refine CA.out.mono ?_
    rintro e w2 hsa
    have hwr := (show ShAdd B b ill s v p w1 e w2 from hsa).wr HS1.out (by have := HB.out; have := (show Below _ _ _ from HL1.out).size; omega)
    obtain ⟨v', he, _, hk2, _, _⟩ := hsa
    have HD2 : Hid (DKept (fun k => k = b ∨ v.ownBlock = some k) w w2) := Lib.hid ((DKept.of_below (S := fun k => k = b ∨ v.ownBlock = some k) (show Below _ _ _ from HL1.out)).trans hk2 (fun _ _ h => h))
    subst he
    clear hk2
    have kz2 := hwr.far _ _ _ far_added HKZ1.out
    obtain ⟨z0, z1, z2, z3⟩ := cells4 kz2
    obtain ⟨f0, f1, f2, f3⟩ := frozen4 kz2
    have u := upd4 kz2 (.int .u64 ((addS ill s p).2.getD 0)) (.bool false) (.string ⟨#[]⟩) (.int .u64 0)
    have HU := Lib.hid u
    have HWR := Lib.hid hwr
    have HKZ2 := Lib.hid kz2
    have FIN : Hid (∀ w', Upd w2 w' (w.heap.size + 1) 85 #[.int .u64 ((addS ill s p).2.getD 0), .bool false, .string ⟨#[]⟩, .int .u64 0] → AddPost B b ill s v p w (.returned (.tuple #[.agg #[.int .u64 ((addS ill s p).2.getD 0), .bool false, .string ⟨#[]⟩, .int .u64 0], .int .i64 (if (addS ill s p).2.isSome then 0 else 4)])) w') := Lib.hid fun w' u => by
      unfold AddPost
      have hw2 := (HWR.out.from_ HB.out HL1.out).upd u HKZ2.out far_added (by omega) HB.out
      rw [HHA.out]
      generalize addS ill s p = o at *
      obtain ⟨s1, o⟩ := o
      have hd2 := HD2.out.upd u (by omega)
      cases o with
      | none => exact ⟨⟨_, _, _, _, rfl, fun a ha => by cases ha⟩, hw2, hd2⟩
      | some x => exact ⟨⟨_, _, _, _, rfl, fun a ha => by cases ha; rfl⟩, hw2, hd2⟩
    generalize (addS ill s p).2.getD 0 = x at *
    generalize (if (addS ill s p).2.isSome then (0 : Int) else 4) = er at *
    clear hwr kz2 u CA y0 y1 y2 y3 g1 g2
    go_wp2_with fail
    refine bodyPost_ret_by (results_cs rfl _ _ (w.heap.size + 1) 85 _ (0, 0) _ rfl HU.out.blk Try.underlying85 rfl (by kernel_rfl)) rfl ?_
    exact FIN.out _ HU.out
end Go.Proofs.Ytafeddjcomeniaa
end

/- slices.Backward at []tree.step: what its iterator does for every loop body that keeps the slice's own memory. Conditions: a row of 4096 elements at most. -/
section
namespace Go.Proofs.Ytafeddjcomeniaa
open Go.RowKit
set_option linter.unusedVariables false
attribute [local go_sem] Oper.semAt_some

/-- A round keeps the slice's own box and its row. -/
def KpB (Bs g : Nat) (W W' : World) : Prop := W'.heap[Bs]? = W.heap[Bs]? ∧ W'.heap[g]? = W.heap[g]?
/-- The cells of a row of steps. -/
def RowC (w : World) (g len : Nat) (L : List (Array Value)) : Prop := L.length = len ∧ ∀ (i : Nat) c, L[i]? = some c → c.size = 5 ∧ ∀ j, j < 5 → w.cell? ⟨g, i * 5 + j, none⟩ = c[j]?
theorem RowC.keep {w W : World} {g len : Nat} {L : List (Array Value)} (h : RowC w g len L) (e : W.heap[g]? = w.heap[g]?) : RowC W g len L := ⟨h.1, fun i c hc => ⟨(h.2 i c hc).1, fun j hj => by
  have := (h.2 i c hc).2 j hj
  unfold World.cell? at this ⊢
  rw [e]; exact this⟩⟩

set_option maxRecDepth 100000 in
set_option maxHeartbeats 2000000 in
theorem back1_in (F : Fence) (n : Nat) (h97 : F.fn 63) (hro : F.round = none) (hn : 1 ≤ n) (l Bs g len cap : Nat) (L : List (Array Value)) (hlen : len ≤ 4096) (J Jx : Nat → World → Prop)
    (hY : ∀ k W, J k W → k < len → YieldAt F (n - 1) Try.prog l #[.int .i64 ((len - 1 - k : Nat) : Int), .agg (L[len - 1 - k]?.getD #[])] W fun e W' =>
      (e = .returned (.bool true) ∧ J (k + 1) W' ∧ KpB Bs g W W') ∨ (e = .returned (.bool false) ∧ Jx k W'))
    (W : World) (hBs : Blk W Bs 81 #[.slice (some ⟨g, 0, none⟩) len cap]) (ho : RowC W g len L) (h0 : J 0 W) :
    CallsIn F n Try.prog 63 #[.func (.yield l) #[] #[], .pointer (some ⟨Bs, 0, none⟩)] W fun e W' => (∃ v, e = .returned v) ∧
      (J len W' ∨ ∃ k, k < len ∧ Jx k W') := by
  have hbc : W.cell? ⟨Bs, 0, none⟩ = some (.slice (some ⟨g, 0, none⟩) len cap) := (hBs.cell 0).trans rfl
  have HL := Lib.hid hlen
  have e1 : IntKind.i64.wrap ((len : Int) - 1) = (len : Int) - 1 := IntWalk.i64_in _ (by omega)
  refine callsIn_of_wp Try.func63 rfl h97 ?_ hro
  simp only [Try.ntmps63, List.size_toArray, List.length_cons, List.length_nil, Nat.reduceAdd, Nat.reduceSub, Array.replicate_succ, Array.replicate_zero, List.push_toArray, List.append_toArray, List.nil_append, List.cons_append]
  gi_wp2
  gi_loopw [3] (fun i wr => ∃ k : Nat, k ≤ len ∧ i = .int .i64 ((len : Int) - 1 - (k : Int)) ∧ J k wr ∧ KpB Bs g W wr)
    (fun i _ => (intOf i + 1).toNat)
  case atStart => exact ⟨0, Nat.zero_le _, by congr 1; omega, h0, rfl, rfl⟩
  case round =>
    obtain ⟨k, hk, rfl, hJs, hkp⟩ := hrel
    by_cases hlt : k < len
    · obtain ⟨i, hi⟩ : ∃ i, i = len - 1 - k := ⟨_, rfl⟩
      have hil : i < len := by omega
      have ei : (len : Int) - 1 - (k : Int) = (i : Int) := by omega
      have HI := Lib.hid hi
      rw [ei]
      have hbc' : wr.cell? ⟨Bs, 0, none⟩ = some (.slice (some ⟨g, 0, none⟩) len cap) := ((show Blk wr Bs _ _ from hkp.1.trans hBs).cell 0).trans rfl
      have ho' := ho.keep hkp.2
      obtain ⟨c, hvi⟩ : ∃ c, L[i]? = some c := ⟨_, List.getElem?_eq_getElem (by rw [ho.1]; omega)⟩
      obtain ⟨hc5, hcc⟩ := ho'.2 i c hvi
      obtain ⟨c0, c1, c2, c3, c4, rfl⟩ : ∃ c0 c1 c2 c3 c4, c = #[c0, c1, c2, c3, c4] := ⟨c[0], c[1], c[2], c[3], c[4], by
        apply Array.ext
        · simpa using hc5
        · intro j h1 h2
          have h2 : j < 5 := h2
          match j, h2 with
          | 0, _ => rfl
          | 1, _ => rfl
          | 2, _ => rfl
          | 3, _ => rfl
          | 4, _ => rfl⟩
      have d0 : wr.cell? ⟨g, i * 5, none⟩ = some c0 := hcc 0 (by decide)
      have d1 : wr.cell? ⟨g, i * 5 + 1, none⟩ = some c1 := hcc 1 (by decide)
      have d2 : wr.cell? ⟨g, i * 5 + 2, none⟩ = some c2 := hcc 2 (by decide)
      have d3 : wr.cell? ⟨g, i * 5 + 3, none⟩ = some c3 := hcc 3 (by decide)
      have d4 : wr.cell? ⟨g, i * 5 + 4, none⟩ = some c4 := hcc 4 (by decide)
      obtain ⟨fn, tmps, assign, body, hy, hR⟩ := hY k wr hJs hlt
      rw [← hi, hvi, Option.getD_some] at hy
      have hi0 : (0 : Int) ≤ (i : Int) := by omega
      have hilt : (i : Int) < (len : Int) := by omega
      have ew : IntKind.i64.wrap ((i : Int) - 1) = (i : Int) - 1 := IntWalk.i64_in _ (by omega)
      have HKP := Lib.hid hkp
      have HKL := Lib.hid hk
      clear hi hkp hk ho' hvi hcc hc5
      gi_wp2
      refine hR.mono ?_
      rintro e W3 (⟨rfl, hJ3, hk3⟩ | ⟨rfl, hJx3⟩)
      · gi_wp2
        go_roundw
        case rel => exact ⟨k + 1, by omega, by congr 1; have := HI.out; omega, hJ3, hk3.1.trans HKP.out.1, hk3.2.trans HKP.out.2⟩
        case measure => simp [intOf]
      · gi_wp2
        refine bodyPost_ret (results_none rfl _ _ _) rfl ?_
        exact ⟨⟨_, rfl⟩, .inr ⟨k, hlt, hJx3⟩⟩
    · obtain rfl : k = len := by omega
      have hneg : ¬ (0 : Int) ≤ (k : Int) - 1 - (k : Int) := by omega
      gi_wp2
      go_end0
      exact ⟨⟨_, rfl⟩, .inl hJs⟩

theorem back_in (w : World) (A : Option Addr) (n c : Nat) :
    Calls Try.prog 33 #[.slice A n c] w fun e w' => e = .returned (.func (.func 63) #[] #[.pointer (some ⟨w.heap.size, 0, none⟩)]) ∧ w' = w.alloc (.cells #[.slice A n c] 81) := by
  go_enter Try.func33, Try.ntmps33
  go_wp2
  go_ret
  exact ⟨rfl, rfl⟩

/-- The loop's own two blocks: its record, and the calls put off. -/
def Bk (D : Nat) (r : Loop) (W : World) : Prop := W.heap[D + 1]? = some (.loop r) ∧ W.heap[D]? = some (.deferred (some []))
theorem Bk.keep {D : Nat} {r : Loop} {W W' : World} (h : Bk D r W) (k : KeepsFrom D W W') : Bk D r W' := ⟨k.same _ _ (Nat.le_succ _) h.1 rfl, k.same _ _ (Nat.le_refl _) h.2 rfl⟩
theorem Bk.put {D : Nat} {r : Loop} {W : World} (h : Bk D r W) (r' : Loop) : Bk D r' (W.putObj (D + 1) (.loop r')) := ⟨World.putObj_heap_same (Array.getElem?_eq_some_iff.1 h.1).1, (World.putObj_heap_other (by omega)).trans h.2⟩
/-- What speaks of cells, and of what lay ahead, abides the turn of the loop's record. -/
def Abid (D : Nat) (I : World → Prop) : Prop := ∀ W W' row, I W → W.grownBy W' row → (∀ r, row = some r → D ≤ r ∧ ∃ o : Obj, W.heap[r]? = some o ∧ o.isCells = false) → I W'
theorem Abid.put {D : Nat} {I : World → Prop} (h : Abid D I) {r : Loop} {W : World} (hb : Bk D r W) (r' : Loop) (hi : I W) : I (W.putObj (D + 1) (.loop r')) :=
  h W _ _ hi (grownBy_putObj' W (D + 1) _) fun q e => by cases e; exact ⟨Nat.le_succ _, _, hb.1, rfl⟩
theorem Abid.alloc {D : Nat} {I : World → Prop} (h : Abid D I) {W : World} (o : Obj) (hi : I W) : I (W.alloc o) := h W _ none hi (World.grownBy_alloc W o none) fun r e => by cases e
/-- A loop over a function that hands out its elements in a known order: encs k in round k. The variable may have a cell of its own. -/
theorem rangeFunc_down {F : Fence} {n : Nat} {P : Program} {g : Operand} {ps : Array Tmp} {assign body : Code} {Q : Exit → Act → World → Prop} {a : Act} {w : World} (mk : Act → Nat → Nat → Act) (R : Nat → Nat → World → Prop)
    (hro : F.round = none) (h1 : 1 ≤ n) {gf : Nat} {lb : Array Value} (hg : a.eval g = .func (.func gf) #[] lb) (hFg : F.fn gf) (eg : ∀ args w, (callFunc gf args).run P w = .ok (.enter gf args) w)
    {encs : Nat → Array Value} {Kp : World → World → Prop} {N : Nat}
    (hseq : ∀ (l : Nat) (J Jx : Nat → World → Prop) (W : World), Later w W → (∀ k W1, J k W1 → k < N → YieldAt F (n - 1 - 1) P l (encs k) W1 fun e W' => (e = .returned (.bool true) ∧ J (k + 1) W' ∧ Kp W1 W') ∨ (e = .returned (.bool false) ∧ Jx k W')) → J 0 W →
      CallsIn F (n - 1) P gf (#[.func (.yield l) #[] #[]] ++ lb) W fun e W' => (∃ v, e = .returned v) ∧ (J N W' ∨ ∃ k, k < N ∧ Jx k W'))
    (hKt : ∀ {A B C : World}, Kp A B → Kp B C → Kp A C) (hKb : ∀ (W : World) (l : Nat) (o' : Obj), w.heap.size ≤ l → Kp W (W.putObj l o')) (hps : ∀ k, (encs k).size = ps.size)
    (I : Nat → World → Prop) (Ix : World → Prop) (hI : ∀ k, Abid w.heap.size (I k)) (hIx : Abid w.heap.size Ix) (h0 : I 0 w) (hR : ∀ k h, Abid w.heap.size (R k h))
    (hassign : ∀ (l k : Nat) (W : World) (K : Act → World → Prop), I k W → k < N → (∀ h W', KeepsFrom w.heap.size W W' → Kp W W' → I k W' → R k h W' → K (mk a k h) W') →
      assign.wpIn (F.inRound l) (n - 1 - 1) P (Exit.then K (fun _ _ _ => False)) { tmps := (ps.zip (encs k)).foldl (fun t (p, v) => t.setIfInBounds p v) a.tmps, defers := [] } W)
    (hbody : ∀ (l k h : Nat) (W : World), I k W → R k h W → k < N → body.wpIn (F.inRound l) (n - 1 - 1) P (ownPostG w.heap.size Kp (fun (_ : List Unit) W' => I (k + 1) W') (fun c _ W' => c = .ret ∧ Ix W') [] W) (mk a k h) W)
    (hdone : ∀ (D : Nat) (W : World), w.heap.size ≤ D → I N W → W.heap[D]? = some (.deferred (some [])) → Q .normal { a with defers := { target := .collected D, args := #[] } :: a.defers } W)
    (hstop : ∀ (D : Nat) (W : World), w.heap.size ≤ D → Ix W → W.heap[D]? = some (.deferred (some [])) → Code.ret.wpIn F n P Q { a with defers := { target := .collected D, args := #[] } :: a.defers } W) :
    (Code.rangeFunc g ps assign body).wpIn F n P Q a w := by
  refine wpIn_rangeFunc fun fn hfn => ?_
  rw [hro]
  obtain ⟨D, hD⟩ : ∃ D, D = w.heap.size := ⟨_, rfl⟩
  obtain ⟨rc, hrc⟩ : ∃ rc : LoopState → Option Code → Loop, ∀ st pe, rc st pe = { state := st, pending := pe, fn := fn, tmps := a.tmps, params := ps, assign := assign, body := body, defers := w.heap.size } := ⟨_, fun _ _ => rfl⟩
  obtain ⟨W1, hW1⟩ : ∃ W1, W1 = (w.alloc (.deferred (some []))).alloc (.loop (rc .ready none)) := ⟨_, rfl⟩
  have hl1 : Later w W1 := by rw [hW1]; exact (below_new _ _).alloc (by simp) _
  have hb1 : Bk D (rc .ready none) W1 := by
    rw [hW1, hD]
    refine ⟨?_, (Below.heap_alloc _ _ _ (by simp)).trans (World.alloc_heap_new w _)⟩
    have := World.alloc_heap_new (w.alloc (.deferred (some []))) (.loop (rc .ready none))
    rwa [World.size_alloc] at this
  have hi1 : I 0 W1 := by rw [hW1]; exact (hI 0).alloc _ ((hI 0).alloc _ h0)
  refine ⟨D + 1, [{ target := .collected D, args := #[] }], W1, { target := .fn (.func gf) lb, args := #[.func (.yield (D + 1)) #[] #[]] }, W1, gf, #[.func (.yield (D + 1)) #[] #[]] ++ lb, W1, ?_, ?_, ?_, ?_, fun _ => h1, ?_⟩
  · rw [hW1, hrc, hD]; exact run_enterLoop_outer _ _ _ _ _
  · simp only [resolve, hg]
    simp [go_sem]
  · intro f' hf'; simp [Target.leads] at hf'; subst hf'; exact hFg
  · simp [invoke, go_sem, eg]
  rw [← hD] at hI hIx hR hassign hbody hdone hstop hKb
  refine (hseq (D + 1) (fun k W => I k W ∧ Bk D (rc .ready none) W) (fun _ W => Ix W ∧ Bk D (rc .done (some .ret)) W) W1 hl1 ?_ ⟨hi1, hb1⟩).mono ?_
  · rintro k W ⟨hi, hb⟩ hk
    have hy := run_yield (P := P) (args := encs k) hb.1 (by rw [hrc]; exact hps k)
    rw [hrc] at hy
    refine ⟨fn, _, assign, body, hy, roundIn_of_wpIn hfn (hassign (D + 1) k W _ hi hk fun h W2 hk2 hkp2 hi2 hr2 => ?_)⟩
    have hb2 := hb.keep hk2
    refine ⟨_, run_beginRound hb2.1 (by rw [hrc]), ?_⟩
    obtain ⟨rb, hrb⟩ : ∃ rb : Loop, rb = { rc .ready none with state := .busy } := ⟨_, rfl⟩
    rw [← hrb]
    have hb3 := hb2.put rb
    refine wpIn_mono (hbody (D + 1) k h _ ((hI k).put hb2 rb hi2) ((hR k h).put hb2 rb hr2) hk) ?_
    have hkp3 : Kp W (W2.putObj (D + 1) (.loop rb)) := hKt hkp2 (hKb _ _ _ (Nat.le_succ _))
    have fin : ∀ (j : Option Code) (W4 : World), KeepsFrom D (W2.putObj (D + 1) (.loop rb)) W4 → (Instr.endRound (D + 1) j).run P W4 = .ok (.bool j.isNone) (W4.putObj (D + 1) (.loop (rc (if j.isNone then .ready else .done) j))) ∧ Bk D rb W4 := fun j W4 hk4 => by
      have hb4 := hb3.keep hk4
      have := run_endRound (P := P) j hb4.1
      rw [hrb, hrc] at this
      refine ⟨?_, hb4⟩
      rw [hrc]
      exact this
    rintro e a4 W4 hp
    cases e with
    | normal =>
      obtain ⟨hk4, hkp4, hi4⟩ := hp
      obtain ⟨hr, hb4⟩ := fin none W4 hk4
      exact ⟨_, _, hr, .inl ⟨rfl, ⟨(hI (k + 1)).put hb4 _ hi4, hb4.put _⟩, hKt (hKt hkp3 hkp4) (hKb _ _ _ (Nat.le_succ _))⟩⟩
    | ret =>
      obtain ⟨hk4, _, hi4⟩ := hp
      obtain ⟨hr, hb4⟩ := fin (some .ret) W4 hk4
      exact ⟨_, _, hr, .inr ⟨rfl, hIx.put hb4 _ hi4, hb4.put _⟩⟩
    | exit id => obtain ⟨_, h, _⟩ := hp; cases h
    | goto t => obtain ⟨_, h, _⟩ := hp; cases h
    | panic ch => exact hp.elim
    | outgrown => exact hp.elim
  · rintro e W2 ⟨⟨v, rfl⟩, ⟨hi, hb⟩ | ⟨k, _, hi, hb⟩⟩
    · refine ⟨none, W2.putObj (D + 1) (.loop { rc .ready none with state := .exhausted }), ?_, hdone D _ (Nat.le_refl _) ((hI N).put hb _ hi) (hb.put _).2⟩
      have := run_endLoop (P := P) hb.1 (by rw [hrc]; simp)
      rw [hrc] at this ⊢; exact this
    · refine ⟨some .ret, W2.putObj (D + 1) (.loop { rc .done (some .ret) with state := .exhausted }), ?_, hstop D _ (Nat.le_refl _) (hIx.put hb _ hi) (hb.put _).2⟩
      have := run_endLoop (P := P) hb.1 (by rw [hrc]; simp)
      rw [hrc] at this ⊢; exact this
end Go.Proofs.Ytafeddjcomeniaa
end

/- The way back up of tree.Put: what each step wants; pages' kids are never just one. Plain Lean, and what a written box leaves. No program here. Conditions: none. -/
section
namespace Go.Proofs.Ytafeddjcomeniaa
open Go Go.RowKit
set_option linter.unusedVariables false

/-- No page has just one kid. -/
def Two (S : List Pg) : Prop := ∀ p ∈ S, p.kids.length ≠ 1
theorem Two.app {S : List Pg} {p : Pg} (h : Two S) (hp : p.kids.length ≠ 1) : Two (S ++ [p]) := fun q hq => by
  rcases List.mem_append.mp hq with hq | hq
  · exact h q hq
  · rw [List.mem_singleton] at hq; subst hq; exact hp
theorem two_good {p : Pg} (hg : goodB p = true) (hn : 1 ≤ p.keys.length) : p.kids.length ≠ 1 := by
  rcases good_shape hg with ⟨_, _, h⟩ | ⟨_, _, h⟩
  · rw [h]; simp
  · omega
theorem two_addS {ill : Int} {s : Sh} {p : Pg} (h : Two s.S) (hp : p.kids.length ≠ 1) : Two (addS ill s p).1.S := by
  unfold addS
  split
  · exact h
  · exact h.app hp
theorem two_split {p a b : Pg} {k : ByteArray} (hg : goodB p = true) (h : splitP p = some (a, k, b)) : a.kids.length ≠ 1 ∧ b.kids.length ≠ 1 := by
  unfold splitP at h
  split at h
  · split at h
    · cases h
      exact ⟨by simp [partP], by simp [partP]⟩
    · cases h
  · rename_i hl
    split at h
    · rename_i h3
      cases h
      rcases good_shape hg with ⟨e, _⟩ | ⟨_, _, hk⟩
      · exact absurd e hl
      · constructor
        · show (p.kids.take (p.keys.length / 2 + 1)).length ≠ 1
          rw [List.length_take]; omega
        · show (p.kids.drop (p.keys.length / 2 + 1)).length ≠ 1
          rw [List.length_drop]; omega
    · cases h
theorem two_halves {ill : Int} {s : Sh} {p : Pg} (h : Two s.S) (hg : goodB p = true) (hn : 1 ≤ p.keys.length) : Two (halves ill s p).1.S := by
  unfold halves
  split
  · rename_i a k b hs
    have hs : splitP p = some (a, k, b) := by
      split at hs
      · exact hs
      · cases hs
    obtain ⟨ha, hb⟩ := two_split hg hs
    have h1 := two_addS (ill := ill) h ha
    generalize addS ill s a = o at *
    obtain ⟨s1, o⟩ := o
    cases o with
    | none => exact h1
    | some x =>
      dsimp only
      have h2 := two_addS (ill := ill) h1 hb
      dsimp only at h2
      generalize addS ill s1 b = o at *
      obtain ⟨s2, o⟩ := o
      cases o with
      | none => exact h2
      | some x => exact h2
  · have h1 := two_addS (ill := ill) h (two_good hg hn)
    generalize addS ill s p = o at *
    obtain ⟨s1, o⟩ := o
    cases o with
    | none => exact h1
    | some x => exact h1

/-- What a page that is put wants. -/
structure Puts (p : Pg) (s : Sh) : Prop where
  ok : Ok p
  ne : 1 ≤ p.keys.length
  n0 : 0 ≤ s.n
  n1 : s.n < 1000000000
  len : s.S.length ≤ 99990
/-- What each step on the way up wants, ahead of its add. -/
def Runs (ill : Int) (key val : ByteArray) : List (Pg × Nat) → Sh → Prop
  | [], _ => True
  | (p, i) :: rest, s =>
    match rest with
    | [] => p.leaf = true ∧ Ok p ∧ Puts (putP p key val) s
    | _ :: _ => Runs ill key val rest s ∧ p.leaf = false ∧ Ok p ∧ i ≤ p.keys.length ∧ ∀ s1 a, putW ill key val rest s = (s1, some a) → Puts (updP p i a) s1
theorem Runs.drop {ill : Int} {key val : ByteArray} {s : Sh} : ∀ {l : List (Pg × Nat)} (j : Nat), Runs ill key val l s → Runs ill key val (l.drop j) s
  | _, 0, h => h
  | [], _ + 1, h => h
  | [_], _ + 1, h => by simp [Runs]
  | _ :: y :: l, j + 1, h => by
    rw [List.drop_succ_cons]
    exact Runs.drop j h.1
theorem Runs.two {ill : Int} {key val : ByteArray} {s : Sh} (h2 : Two s.S) : ∀ {l : List (Pg × Nat)}, Runs ill key val l s → Two (putW ill key val l s).1.S
  | [], h => h2
  | [(p, i)], h => two_halves h2 h.2.2.ok.good h.2.2.ne
  | (p, i) :: y :: l, h => by
    have h1 := Runs.two h2 h.1
    have h5 := h.2.2.2.2
    unfold putW
    generalize putW ill key val (y :: l) s = o at *
    obtain ⟨s1, o⟩ := o
    cases o with
    | none => exact h1
    | some a =>
      have := h5 s1 a rfl
      exact two_halves h1 this.ok.good this.ne
theorem drop_get {α : Type} {l : List α} {j : Nat} {x : α} (h : l[j]? = some x) : l.drop j = x :: l.drop (j + 1) := by
  obtain ⟨hj, e⟩ := List.getElem?_eq_some_iff.1 h
  rw [List.drop_eq_getElem_cons hj, e]
/-- A step that is not the last. -/
theorem runs_at {ill : Int} {key val : ByteArray} {s : Sh} {l : List (Pg × Nat)} (h : Runs ill key val l s) {j : Nat} {p : Pg} {i : Nat} (hj : l[j]? = some (p, i)) (hlt : j + 1 < l.length) {s1 : Sh} {a : Added} (e : putW ill key val (l.drop (j + 1)) s = (s1, some a)) :
    p.leaf = false ∧ Ok p ∧ i ≤ p.keys.length ∧ Puts (updP p i a) s1 ∧ putW ill key val (l.drop j) s = halves ill s1 (updP p i a) := by
  have h1 := h.drop j
  rw [drop_get hj] at h1 ⊢
  obtain ⟨y, hy⟩ : ∃ y, l[j + 1]? = some y := ⟨_, List.getElem?_eq_getElem hlt⟩
  rw [drop_get hy] at h1 e ⊢
  obtain ⟨_, h2, h3, h4, h5⟩ := h1
  refine ⟨h2, h3, h4, h5 s1 a e, ?_⟩
  unfold putW
  rw [e]
theorem runs_last {ill : Int} {key val : ByteArray} {s : Sh} {l : List (Pg × Nat)} (h : Runs ill key val l s) {j : Nat} {p : Pg} {i : Nat} (hj : l[j]? = some (p, i)) (hlt : j + 1 = l.length) :
    p.leaf = true ∧ Ok p ∧ Puts (putP p key val) s ∧ putW ill key val (l.drop j) s = halves ill s (putP p key val) := by
  have h1 := h.drop j
  rw [drop_get hj, List.drop_of_length_le (by omega)] at h1 ⊢
  obtain ⟨h2, h3, h4⟩ := h1
  exact ⟨h2, h3, h4, rfl⟩
/-- A step that fails: so do all above. -/
theorem putW_none {ill : Int} {key val : ByteArray} {s s1 : Sh} {l : List (Pg × Nat)} : ∀ (j : Nat), j < l.length → putW ill key val (l.drop j) s = (s1, none) → putW ill key val l s = (s1, none)
  | 0, _, h => h
  | j + 1, hj, h => by
    refine putW_none j (by omega) ?_
    obtain ⟨⟨p, i⟩, hx⟩ : ∃ x, l[j]? = some x := ⟨_, List.getElem?_eq_getElem (by omega)⟩
    obtain ⟨y, hy⟩ : ∃ y, l[j + 1]? = some y := ⟨_, List.getElem?_eq_getElem hj⟩
    rw [drop_get hx]
    rw [drop_get hy] at h ⊢
    unfold putW
    rw [h]

section
variable {B b g : Nat} {w w' : World} {ill : Int} {s : Sh} {v : Value}
/-- A number's own cell is written: no page of the shelf has its kids there. -/
theorem PgV.box {cs : Array Value} {p : Pg} {x : Value} (h : PgV w cs p) (h1 : p.kids.length ≠ 1) (hb : Blk w g 27 #[x]) (hk : DKept (fun k => k = g) w w') : PgV w' cs p := by
  obtain ⟨A1, c1, A2, c2, A3, c3, e, hp⟩ := h
  refine ⟨A1, c1, A2, c2, A3, c3, e, hp.k.keep fun g' cs' hb' => hk.blk hb' fun e => hb'.ne_ hb (by decide) e, hp.v.keep fun g' cs' hb' => hk.blk hb' fun e => hb'.ne_ hb (by decide) e, hp.n.le, hp.n.cap, fun h0 => ?_⟩
  obtain ⟨g', o, cs', e', hb', hc⟩ := hp.n.at_ h0
  refine ⟨g', o, cs', e', hk.blk hb' fun e => ?_, hc⟩
  subst e
  have e2 : cs' = #[x] := by
    have hx : w.heap[g']? = some _ := hb
    have hy : w.heap[g']? = some _ := hb'
    rw [hx] at hy; cases hy; rfl
  subst e2
  have a0 := hc 0 _ (List.getElem?_eq_getElem h0)
  have a1 := hc 1 _ (List.getElem?_eq_getElem (by omega))
  have b0 := (Array.getElem?_eq_some_iff.1 a0).1
  have b1 := (Array.getElem?_eq_some_iff.1 a1).1
  simp at b0 b1
theorem ShAt.box {x : Value} (h : ShAt B w b ill s v) (h2 : Two s.S) (hb : Blk w g 27 #[x]) (hk : DKept (fun k => k = g) w w') : ShAt B w' b ill s v := by
  obtain ⟨L, h3, h4, h5⟩ := h.row
  refine ⟨hk.blk h.blk fun e => h.blk.ne_ hb (by decide) e, h.hb, L, ⟨h3.1, ?_⟩, h4, fun i cs p hi hp => (h5 i cs p hi hp).box (h2 p (List.mem_of_getElem? hp)) hb hk⟩
  rcases h3.2 with e | ⟨g', cap, cur, e, hg, hb', r⟩
  · exact .inl e
  · have hb' : Blk w g' _ _ := hb'
    exact .inr ⟨g', cap, cur, e, hg, hk.blk hb' fun e => hb'.ne_ hb (by decide) e, r⟩
theorem Sm.new {w0 : World} {t : TypeId} {cs : Array Value} (h : Sm w0 w) (hg : w0.heap.size ≤ g) (hk : DKept (fun k => k = g) w w') : Sm w0 w' := fun g' cs' =>
  ⟨fun x => hk.blk ((h g' cs').1 x) (by have := x.lt; omega), fun x => hk.blk ((h g' cs').2 x) (by have := x.lt; omega)⟩
/-- A number's new cell is written. -/
theorem Wr.box {w0 : World} {x : Value} (h : Wr B b ill s w0 w) (h2 : Two s.S) (hb : Blk w g 27 #[x]) (hk : DKept (fun k => k = g) w w') (hg : w0.heap.size ≤ g) (hB : B ≤ w0.heap.size) : Wr B b ill s w0 w' := by
  obtain ⟨v', hs⟩ := h.sh
  exact ⟨⟨v', hs.box h2 hb hk⟩, h.below.trans (hk.below (Nat.le_trans hB h.size) fun i e => by subst e; omega), fun g' t' cs' ht x => hk.blk (h.far g' t' cs' ht x) (by have := x.lt; omega), Sm.new (t := 27) (cs := #[]) h.sm hg hk, h.oth.trans (hk.others fun k e => by subst e; exact ⟨_, _, hb⟩)⟩
end
end Go.Proofs.Ytafeddjcomeniaa
end

/- A region that draws its order, within a round of a loop over a function: what goes outside goes there. No program here. Conditions: no operation defers; nothing is let out. -/
section
namespace Go.Proofs.Ytafeddjcomeniaa
open Go.RowKit
/-- An exit that no panic comes to. -/
def calm (Q : Exit → Act → World → Prop) : Exit → Act → World → Prop
  | .panic _, _, _ => False
  | e, a, w => Q e a w
theorem calm_le (Q : Exit → Act → World → Prop) : ∀ e a w, calm Q e a w → Q e a w := by
  intro e a w h
  cases e <;> first | exact h | exact False.elim h
theorem calm_n {Q : Exit → Act → World → Prop} {a : Act} {w : World} (h : Q .normal a w) : calm Q .normal a w := h
section
variable {P : Program} {ops : Array Oper} {Q : Exit → Act → World → Prop} {l n : Nat}
theorem oper_round {o : Oper} {a : Act} {w : World} {K : Act → World → Prop} (hd : ∀ c, o.op ≠ .defer c) (h : o.wp P a w K Q) : o.wpIn (Fence.wide.inRound l) n P a w K Q := by
  unfold Oper.wp at h
  refine ⟨fun _ _ => trivial, ?_⟩
  rw [Oper.semAt_eq _ _ _ hd]
  generalize (execOp a.eval o).run P w = r at *
  cases r with
  | ok x w' =>
    cases x <;> simp only [Oper.upon, Oper.uponIn] at h ⊢ <;>
      first
        | exact h
        | exact ⟨fun h => by simp [Fence.wide] at h, CallsIn.inRound l (callsIn_wide.2 h)⟩
        | exact ⟨fun h => by simp [Fence.wide] at h, fun c cs _ => by
            obtain ⟨v, w'', hv, hs⟩ := h c cs
            exact ⟨v, w'', hv, (stepsIn_wide (P := P)).2 hs⟩⟩
  | halt x w' => cases x <;> simp only [Oper.upon, Oper.uponIn] at h ⊢ <;> exact h
theorem wpOp_round (hd : ∀ (i : Nat) (o : Oper), ops[i]? = some o → ∀ c, o.op ≠ .defer c) (hQ : ¬ LetsOut Q) {i : Nat} {K : Act → World → Prop} {a : Act} {w : World} (h : wpOp P ops Q i K a w) : wpOpIn (Fence.wide.inRound l) n P ops Q i K a w := by
  unfold wpOp at h
  unfold wpOpIn
  cases ho : ops[i]? with
  | none => rw [ho] at h; exact h
  | some o =>
    rw [ho] at h
    simp only [] at h ⊢
    split
    · rename_i hw
      rw [if_pos hw] at h
      exact oper_round (hd i o ho) (h.resolve_right fun h => hQ h.2)
    · rename_i hw
      rw [if_neg hw] at h
      exact ⟨fun _ _ => trivial, h⟩
theorem wpAny_round (hd : ∀ (i : Nat) (o : Oper), ops[i]? = some o → ∀ c, o.op ≠ .defer c) (hQ : ¬ LetsOut Q) {md : Region.Mode} : ∀ (fuel : Nat) (listed : Array Bool) (a : Act) (w : World), wpAny P md ops Q fuel listed a w → wpAnyIn (Fence.wide.inRound l) n P md ops Q fuel listed a w
  | 0, _, _, _, h => h
  | fuel + 1, _, _, _, h => ⟨h.1, fun i hi => wpOp_round hd hQ (wpOp_mono (fun a' w' h' => wpAny_round hd hQ fuel _ a' w' h') (h.2 i hi))⟩
theorem round_region {id : Nat} {a : Act} {w : World} (hm : P.follows .mixedOrders = true) (hd : ∀ (i : Nat) (o : Oper), ops[i]? = some o → ∀ c, o.op ≠ .defer c) (hQ : ¬ LetsOut Q)
    (h : wpAny P .any ops Q ops.size (Array.replicate ops.size false) a w.drew) : (Code.region id ops true).wpIn (Fence.wide.inRound l) n P Q a w :=
  wpIn_region_any hm (wpAny_round hd hQ _ _ _ _ h)
def noDefer (ops : Array Oper) : Bool := ops.all fun o => match o.op with | .defer _ => false | _ => true
theorem noDefer_at (h : noDefer ops = true) (i : Nat) (o : Oper) (ho : ops[i]? = some o) (c) : o.op ≠ .defer c := by
  intro e
  unfold noDefer at h
  rw [Array.all_eq_true_iff_forall_mem] at h
  have := h o (Array.mem_of_getElem? ho)
  rw [e] at this
  cases this
theorem walk_startR {id : Nat} (j0 : Nat) {a : Act} {w : World} {S T : World → Prop} (hm : P.follows .mixedOrders = true) (F : Nat → Prop) (hB : ∀ W, T W → F W.heap.size) (hST : ∀ W, T W → S W) (hc : Closed T) (hT : T w.drew) (hd : noDefer ops = true) (hQ : ¬ LetsOut Q) (h : WalkS P .any ops Q j0 F ops.size [] (Array.replicate ops.size false) a S T) : (Code.region id ops true).wpIn (Fence.wide.inRound l) n P Q a w :=
  round_region hm (noDefer_at hd) hQ (wpAny_of_J (j0 := j0) (S := S) _ _ _ _ (
    h hB hST hc (fun _ h => (by cases h)) [] [] w.drew (List.Perm.refl _) hT ⟨(fun _ h => by cases h), List.nodup_nil⟩))
end
end Go.Proofs.Ytafeddjcomeniaa
end

/- page.Put on a leaf: a leaf that has a key. Conditions: the page reads in memory; it may be, and has few keys. -/
section
namespace Go.Proofs.Ytafeddjcomeniaa
open Go.RowKit
set_option linter.unusedVariables false
set_option linter.unusedSimpArgs false

/-- A page handed back. -/
def PgPost (w : World) (q : Pg) (e : Ending) (w' : World) : Prop := Below w.heap.size w w' ∧ ∃ cs, e = .returned (.agg cs) ∧ PgV w' cs q
theorem own_set {w : World} {B n : Nat} {A : Option Addr} {c i : Nat} {l : List ByteArray} {v : ByteArray} (h : w.ownsRow B 9 1 (.slice A n c) n (l.map Value.string)) (hi : i < n) (v : ByteArray) :
    ∃ g cs, A = some ⟨g, 0, none⟩ ∧ B ≤ g ∧ Blk w g 9 cs ∧ (∃ u, w.cell? ⟨g, i, none⟩ = some u) ∧ (w.setCell ⟨g, i, none⟩ (.string v)).ownsRow B 9 1 (.slice A n c) n ((l.set i v).map Value.string) := by
  rcases h.2 with ⟨e1, e2⟩ | ⟨g, cap, cur, e1, hg, hb, h2, h3, h4, h5⟩
  · omega
  · injection e1 with e1 _ e3
    subst e1 e3
    have hb : Blk w g 9 cur := hb
    rw [Nat.mul_one] at h4 h5
    have hl := h.1
    rw [Nat.mul_one] at hl
    refine ⟨g, cur, rfl, hg, hb, ⟨cur[i], by rw [hb.cell, Array.getElem?_eq_getElem (by omega)]⟩, by rw [List.length_map, List.length_set]; simpa using hl, .inr ⟨g, c, _, rfl, hg, hb.set_ i (.string v), h2, h3, by simp [h4], ?_⟩⟩
    rw [Nat.mul_one, Array.toList_setIfInBounds, List.take_set, h5, List.map_set]

section
variable {w : World} {A1 A2 A3 : Option Addr} {c1 c2 c3 : Nat} {ks vs : List ByteArray} {ns : List Int}
set_option maxRecDepth 100000 in
set_option maxHeartbeats 8000000 in
theorem put_a (key val : ByteArray) (h : PgA w A1 c1 A2 c2 A3 c3 ⟨true, ks, vs, ns⟩) (hk : ks.length ≤ 1000) (hr : Rise ks) (hv : vs.length = ks.length) (hn : ns.length ≤ 1000) : Calls Try.prog 32 #[.agg (pgc A1 c1 A2 c2 A3 c3 ⟨true, ks, vs, ns⟩), .string key, .string val] w (PgPost w (putP ⟨true, ks, vs, ns⟩ key val)) := by
  unfold pgc
  dsimp only at *
  obtain ⟨W1, hW1⟩ : ∃ W1, W1 = (w.alloc (.cells #[.bool true, .slice A1 ks.length c1, .slice A2 vs.length c2, .slice A3 ns.length c3] 54)).alloc (.cells #[.bool false, .slice none 0 0, .slice none 0 0, .slice none 0 0] 54) := ⟨_, rfl⟩
  have hb1 : Below w.heap.size w W1 := by rw [hW1]; exact (below_new _ _).alloc (by simp) _
  have hs1 : W1.heap.size = w.heap.size + 2 := by rw [hW1]; simp
  have kp : Blk W1 w.heap.size 54 #[.bool true, .slice A1 ks.length c1, .slice A2 vs.length c2, .slice A3 ns.length c3] := by rw [hW1]; exact (Blk.new _ _ _).alloc _
  have kz : Blk W1 (w.heap.size + 1) 54 #[.bool false, .slice none 0 0, .slice none 0 0, .slice none 0 0] := by
    rw [hW1]
    have := Blk.new (w.alloc (.cells #[.bool true, .slice A1 ks.length c1, .slice A2 vs.length c2, .slice A3 ns.length c3] 54)) 54 #[.bool false, .slice none 0 0, .slice none 0 0, .slice none 0 0]
    simpa using this
  have CC := Lib.hid (clone_own (h.sm (Sm.below hb1)) (show ks.length ≤ 1001 ∧ vs.length ≤ 1001 ∧ ns.length ≤ 1001 by omega))
  obtain ⟨q0, q1, q2, q3⟩ := cells4 kp
  have HW1 := Lib.hid hW1
  have HB1 := Lib.hid hb1
  have HKP := Lib.hid kp
  have HKZ := Lib.hid kz
  have HS1 := Lib.hid hs1
  have HR := Lib.hid hr
  have HV := Lib.hid hv
  have HK := Lib.hid hk
  clear h hr hv hk hn hW1 hb1 kp kz hs1
  unfold pgc at CC
  dsimp only at CC
  go_enter Try.func32, Try.ntmps32
  go_upto_region 1 with fail
  rw [← HW1.out]
  go_wp2_with fail
  refine CC.out.mono ?_
  rintro e w3 ⟨hb3, v1, v2, v3, rfl, ho3⟩
  have s1 := HS1.out
  have kp3 := HKP.out.below hb3 HKP.out.lt
  have kz3 := HKZ.out.below hb3 HKZ.out.lt
  have u := upd4 kp3 (.bool true) v1 v2 v3
  obtain ⟨W4, hW4⟩ : ∃ W4, W4 = (((w3.setCell ⟨w.heap.size, 0, none⟩ (.bool true)).setCell ⟨w.heap.size, 1, none⟩ v1).setCell ⟨w.heap.size, 2, none⟩ v2).setCell ⟨w.heap.size, 3, none⟩ v3 := ⟨_, rfl⟩
  rw [← hW4] at u
  obtain ⟨B1, d1, e1⟩ := own_shape ho3.k
  obtain ⟨B2, d2, e2⟩ := own_shape ho3.v
  obtain ⟨B3, d3, e3⟩ := own_shape ho3.n
  subst e1 e2 e3
  have ho4 := ho3.upd u kp3 (by decide) (by decide)
  have kp4 := u.blk
  have kz4 := u.far kz3 (by omega)
  have hb4 : Below w.heap.size w W4 := u.below (HB1.out.trans (hb3.mono HB1.out.size)) (Nat.le_refl _) (Nat.le_refl _)
  obtain ⟨B1', d1', B2', d2', B3', d3', x1, x2, x3, hp4⟩ := ho4.rows
  injection x1 with x1 _ x1'
  injection x2 with x2 _ x2'
  injection x3 with x3 _ x3'
  subst x1 x1' x2 x2' x3 x3'
  have CF := find_a key hp4 HK.out HR.out
  unfold pgc at CF
  dsimp only at CF
  have CF := Lib.hid CF
  obtain ⟨z0, z1, z2, z3⟩ := cells4 kp3
  obtain ⟨f0, f1, f2, f3⟩ := frozen4 kp3
  obtain ⟨y0, y1, y2, y3⟩ := cells4 kp4
  have HO4 := Lib.hid ho4
  have HKP4 := Lib.hid kp4
  have HKZ4 := Lib.hid kz4
  have HB4 := Lib.hid hb4
  have HS4 : Hid (W1.heap.size ≤ W4.heap.size) := Lib.hid (by rw [u.size]; exact hb3.size)
  have HW4 := Lib.hid hW4
  clear hb3 ho3 kp3 kz3 u hW4 ho4 kp4 kz4 hb4 hp4 CC q0 q1 q2 q3
  go_upto_region 4 with fail
  rw [← HW4.out]
  go_wp2_with fail
  refine CF.out.mono ?_
  rintro e w5 ⟨rfl, hb5⟩
  have ho5 := HO4.out.later hb5
  have kp5 := HKP4.out.below hb5 HKP4.out.lt
  have kz5 := HKZ4.out.below hb5 HKZ4.out.lt
  have hbw : Below w.heap.size w w5 := HB4.out.trans (hb5.mono HB4.out.size)
  have hs5 : w.heap.size + 2 ≤ w5.heap.size := by have := HS4.out; have := hb5.size; omega
  have hle := findN_le ks key
  have hpu : putP ⟨true, ks, vs, ns⟩ key val = if thereB ks key then ⟨true, ks, vs.set (findN ks key) val, ns⟩ else ⟨true, ks.take (findN ks key) ++ [key] ++ ks.drop (findN ks key), vs.take (findN ks key) ++ [val] ++ vs.drop (findN ks key), ns⟩ := rfl
  have hth : thereB ks key = true → findN ks key < ks.length := fun h => by
    unfold thereB at h
    simp only [Bool.and_eq_true, decide_eq_true_eq] at h
    exact h.1
  rw [s1] at ho5
  generalize findN ks key = f at *
  have HTH := Lib.hid hth
  have HPU := Lib.hid hpu
  clear hb5 CF z0 z1 z2 z3 f0 f1 f2 f3 y0 y1 y2 y3 HO4 HKP4 HKZ4 HB4 HS4 HW4 hpu hth
  cases hT : thereB ks key with
  | true =>
    have hlt := HTH.out hT
    have hvl := HV.out
    obtain ⟨g, cur, rfl, hg, hbg, ⟨u0, hu0⟩, hset⟩ := own_set (v := val) ho5.v (show f < vs.length by omega) val
    obtain ⟨W6, hW6⟩ : ∃ W6, W6 = w5.setCell ⟨g, f, none⟩ (.string val) := ⟨_, rfl⟩
    have u6 := upd1 hbg f (.string val)
    rw [← hW6] at hset u6
    have n1 : (Value.slice B1 ks.length d1).ownBlock ≠ some g := fun e => ho5.ne g e rfl
    have ho6 : PgOwn W6 (w.heap.size + 2) (.slice B1 ks.length d1) (.slice (some ⟨g, 0, none⟩) vs.length d2) (.slice B3 ns.length d3) ⟨true, ks, vs.set f val, ns⟩ := ⟨own_upd ho5.k u6 n1, by simpa using hset, own_upd ho5.n u6 (own_blk ho5.n hbg (by decide)), ho5.ne⟩
    have kp6 := u6.far kp5 (show w.heap.size ≠ g by omega)
    have kz6 := u6.far kz5 (show w.heap.size + 1 ≠ g by omega)
    have hb6 : Below w.heap.size w W6 := u6.below hbw (by omega) (Nat.le_refl _)
    have u7 := upd4 kz6 (.bool true) (.slice B1 ks.length d1) (.slice (some ⟨g, 0, none⟩) vs.length d2) (.slice B3 ns.length d3)
    have hfz := hbg.frozen f
    obtain ⟨x0, x1, x2, x3⟩ := cells4 kp5
    obtain ⟨y0, y1, y2, y3⟩ := cells4 kp6
    obtain ⟨z0, z1, z2, z3⟩ := cells4 kz6
    obtain ⟨f0, f1, f2, f3⟩ := frozen4 kz6
    have i1 : (0 : Int) ≤ (f : Int) := by omega
    have i2 : (f : Int) < (vs.length : Int) := by omega
    have i3 : f < vs.length := by omega
    have HU7 := Lib.hid u7
    have HT := Lib.hid hT
    have HO6 := Lib.hid (ho6.upd u7 kz6 (by decide) (by decide))
    have HB6 := Lib.hid hb6
    have HW6 := Lib.hid hW6
    clear hset u6 n1 ho6 kp6 kz6 hb6 u7 hW6 hbg ho5 kp5 kz5 hbw hs5 hle hT hlt hvl hg s1
    go_upto_region 7 with fail
    rw [← HW6.out]
    go_wp2_with fail
    refine bodyPost_ret_by (results_c1 rfl _ _ (w.heap.size + 1) 54 _ (0, 0) _ rfl HU7.out.blk Try.underlying54 rfl (by kernel_rfl)) rfl ?_
    rw [HPU.out, if_pos HT.out]
    exact ⟨HU7.out.below HB6.out (by omega) (Nat.le_refl _), _, rfl, HO6.out.pgv⟩
  | false =>
    obtain ⟨L1, hL1⟩ : ∃ L, L = ks.take f ++ [key] ++ ks.drop f := ⟨_, rfl⟩
    obtain ⟨L2, hL2⟩ : ∃ L, L = vs.take f ++ [val] ++ vs.drop f := ⟨_, rfl⟩
    have hHP := HPU.out
    rw [hT, if_neg Bool.false_ne_true, ← hL1, ← hL2] at hHP
    have HP := Lib.hid hHP
    have HLK := Lib.hid hL1
    have HLV := Lib.hid hL2
    have SF : Hid (∀ V, Below (w.heap.size + 2) w5 V → V.cell? ⟨w.heap.size, 0, none⟩ = some (.bool true) ∧ V.cell? ⟨w.heap.size, 1, none⟩ = some (.slice B1 ks.length d1) ∧ V.cell? ⟨w.heap.size, 2, none⟩ = some (.slice B2 vs.length d2) ∧ V.cell? ⟨w.heap.size, 3, none⟩ = some (.slice B3 ns.length d3)) := Lib.hid fun V hV => cells4 (kp5.below hV (by omega))
    have HO5 := Lib.hid ho5
    have HKP := Lib.hid kp5
    have HKZ := Lib.hid kz5
    have HBW := Lib.hid hbw
    clear hHP hL1 hL2 ho5 kp5 kz5 hbw hT
    go_wp2_with fail
    have HL0 := Lib.hid (Later.refl w5)
    have ZF0 : Hid (∀ s, w5.heap.size ≤ s → w5.heap.size ≤ s) := Lib.hid (fun _ h => h)
    have ZS0 : Hid (∀ V, Later w5 V → (Below (w.heap.size + 2) w5) V) := Lib.hid (fun V' h => (show Below _ _ _ from h).mono (show w.heap.size + 2 ≤ w5.heap.size by first | omega | (simp; done) | (simp; omega)))
    refine walk_start 13 (S := Below (w.heap.size + 2) w5) (T := Later w5) (by kernel_rfl) (fun r => w5.heap.size ≤ r) (fun _ h => h.size) ZS0.out (closed_later _) (Later.refl _).drew ?_
    refine wt 0 28 ?_ (fun V hV => ?_) ?_
    rotate_left 1
    · (clear hV; go_simp; (try with_reducible rfl))
    try simp only [pa, List.set]
    refine wt 1 29 ?_ (fun V hV => ?_) ?_
    rotate_left 1
    · (obtain ⟨q0, q1, q2, q3⟩ := SF.out V hV; clear hV; go_simp; (try with_reducible rfl))
    try simp only [pa, List.set]
    refine wt 2 30 ?_ (fun V hV => ?_) ?_
    rotate_left 1
    · (clear hV; go_simp; (try with_reducible rfl))
    try simp only [pa, List.set]
    refine wt 3 31 ?_ (fun V hV => ?_) ?_
    rotate_left 1
    · (clear hV; go_simp; (try with_reducible rfl))
    try simp only [pa, List.set]
    refine wt 6 34 ?_ (fun V hV => ?_) ?_
    rotate_left 1
    · (clear hV; go_simp; (try with_reducible rfl))
    try simp only [pa, List.set]
    refine wt 7 35 ?_ (fun V hV => ?_) ?_
    rotate_left 1
    · (obtain ⟨q0, q1, q2, q3⟩ := SF.out V hV; clear hV; go_simp; (try with_reducible rfl))
    try simp only [pa, List.set]
    refine wt 8 36 ?_ (fun V hV => ?_) ?_
    rotate_left 1
    · (clear hV; go_simp; (try with_reducible rfl))
    try simp only [pa, List.set]
    refine wt 9 37 ?_ (fun V hV => ?_) ?_
    rotate_left 1
    · (clear hV; go_simp; (try with_reducible rfl))
    try simp only [pa, List.set]
    refine walk_pend ⟨10, 38, (.cells #[.string val] 9), fun r => .slice (some ⟨r, 0, none⟩) 1 1⟩ ⟨_, rfl, rfl, rfl, fun W => ?_⟩ ?_
    · (go_simp; (try with_reducible rfl))
    refine walk_pend ⟨4, 32, (.cells #[.string key] 9), fun r => .slice (some ⟨r, 0, none⟩) 1 1⟩ ⟨_, rfl, rfl, rfl, fun W => ?_⟩ ?_
    · (go_simp; (try with_reducible rfl))
    refine walk_force (by kernel_rfl) (by kernel_rfl) (by kernel_rfl) (by kernel_rfl) (fun r4 x4 hV hr4 hB4 => ?_)
    have lt4 : r4 < x4.heap.size := (Array.getElem?_eq_some_iff.1 hr4).1
    have HL1 := Lib.hid (HL0.out.trans hV)
    have ZF1 : Hid (∀ s, x4.heap.size ≤ s → _ ∧ s ≠ r4) := Lib.hid (fun s h => ⟨ZF0.out s (Nat.le_trans hV.size h), Nat.ne_of_gt (Nat.lt_of_lt_of_le lt4 h)⟩)
    have ZS1 : Hid (∀ V, Later x4 V → (Below (w.heap.size + 2) w5) V) := Lib.hid (fun V' h => ZS0.out V' (hV.trans h))
    refine ⟨Below (w.heap.size + 2) w5, Later x4, Later.refl _, fun _ h => h, ZS1.out, fun V' h => ZF0.out _ (Nat.le_trans hV.size h.size), fun V' h => Nat.lt_of_lt_of_le lt4 h.size, closed_later _, ?_⟩
    try simp only [pa, List.set]
    have HT4 := Lib.hid hV
    clear hV
    refine walk_core 5 rfl (by kernel_rfl) (fun _ _ _ _ _ h => h) (fun V hV K hK => ?_)
    have hV0 := HL1.out.trans hV
    have hSV := ZS1.out V hV
    go_simp
    go_at_call 36
    have k4 : Blk V r4 9 #[.string key] := Blk.below (show Blk x4 r4 _ _ from hr4) hV lt4
    have hr4b : w5.heap.size ≤ r4 := hB4
    have hlt5 := fun (r : Nat) (h : (Value.slice B1 ks.length d1).ownBlock = some r) => (HO5.out.k.lt r h).2
    have hsv : w5.heap.size ≤ V.heap.size := (show Below _ _ _ from hV0).size
    refine (insLS key (own_later HO5.out.k hV0) (Nat.le_trans hs5 hsv) hle (by have := HK.out; show ks.length ≤ _; omega) k4 (fun e => by have := hlt5 _ e; omega)).mono ?_
    rw [← HLK.out]
    rintro e x5 ⟨E1, e1, rfl, h5, hk5, hn5⟩
    have hsize := hk5.size
    have hkeep := fun (r : Nat) (hF : w5.heap.size ≤ r ∧ r ≠ r4) (hl : r < V.heap.size) => hk5.block r hl (fun h => by have := hlt5 r h; omega)
    have hS := fun V' (h : Later x5 V') => (show Below (w.heap.size + 2) w5 V from (show Below _ _ _ from hV0).mono hs5).trans ((hk5.below (Nat.le_trans hs5 hsv) (fun i h => (HO5.out.k.lt i h).1)).trans ((show Below _ _ _ from h).mono (Nat.le_trans hs5 (Nat.le_trans hsv hsize))))
    have hold := fun (r : Nat) (hF : w5.heap.size ≤ r ∧ r ≠ r4) (hl : r < V.heap.size) => (⟨hF, fun e => by
      rcases hn5 r e with h | h
      · have := hlt5 r h; omega
      · omega⟩ : (w5.heap.size ≤ r ∧ r ≠ r4) ∧ (Value.slice E1 L1.length e1).ownBlock ≠ some r)
    have hnew := fun (s : Nat) (h : x5.heap.size ≤ s) (hF : w5.heap.size ≤ s ∧ s ≠ r4) => (⟨hF, fun e => by have := (h5.lt s e).2; omega⟩ : (w5.heap.size ≤ s ∧ s ≠ r4) ∧ (Value.slice E1 L1.length e1).ownBlock ≠ some s)
    have HO : Hid (PgOwn x5 (w.heap.size + 2) (.slice E1 L1.length e1) (.slice B2 vs.length d2) (.slice B3 ns.length d3) ⟨true, L1, vs, ns⟩) := Lib.hid ⟨h5, own_kept (own_later HO5.out.v hV0) hk5 (fun g hg h => HO5.out.ne g h hg), own_kept (own_later HO5.out.n hV0) hk5 (fun g hg h => own_ne HO5.out.k HO5.out.n (by decide) h hg), fun g h h' => by
      rcases hn5 g h with h'' | h''
      · exact HO5.out.ne g h'' h'
      · have := (HO5.out.v.lt g h').2; omega⟩
    have HS55 := Lib.hid (Nat.le_trans hsv hsize)
    clear k4 hlt5 hsv h5 hk5 hn5
    have ZF2 : Hid (∀ s, x5.heap.size ≤ s → (fun s => (w5.heap.size ≤ s ∧ s ≠ r4) ∧ (Value.slice E1 L1.length e1).ownBlock ≠ some s) s) := Lib.hid (fun s h => hnew s h (ZF1.out s (Nat.le_trans hV.size (Nat.le_trans hsize h))))
    have ZS2 : Hid (∀ V, Later x5 V → (Below (w.heap.size + 2) w5) V) := Lib.hid hS
    refine hK.out _ _ (Below (w.heap.size + 2) w5) (Later x5) (fun s => (w5.heap.size ≤ s ∧ s ≠ r4) ∧ (Value.slice E1 L1.length e1).ownBlock ≠ some s) hkeep hold (fun _ h => h) ZS2.out (fun V' h => ZF2.out _ h.size) (Later.refl _) (closed_later _) ?_
    clear hK K hV hsize hkeep hV0 hSV hS hnew hold
    try simp only [pa, List.set]
    refine wt 12 40 ?_ (fun V hV => ?_) ?_
    rotate_left 1
    · (clear hV; go_simp; (try with_reducible rfl))
    try simp only [pa, List.set]
    refine walk_force (by kernel_rfl) (by kernel_rfl) (by kernel_rfl) (by kernel_rfl) (fun r10 x10 hV hr10 hB10 => ?_)
    have lt10 : r10 < x10.heap.size := (Array.getElem?_eq_some_iff.1 hr10).1
    have ZF3 : Hid (∀ s, x10.heap.size ≤ s → _ ∧ s ≠ r10) := Lib.hid (fun s h => ⟨ZF2.out s (Nat.le_trans hV.size h), Nat.ne_of_gt (Nat.lt_of_lt_of_le lt10 h)⟩)
    have ZS3 : Hid (∀ V, Later x10 V → (Below (w.heap.size + 2) w5) V) := Lib.hid (fun V' h => ZS2.out V' (hV.trans h))
    refine ⟨Below (w.heap.size + 2) w5, Later x10, Later.refl _, fun _ h => h, ZS3.out, fun V' h => ZF2.out _ (Nat.le_trans hV.size h.size), fun V' h => Nat.lt_of_lt_of_le lt10 h.size, closed_later _, ?_⟩
    try simp only [pa, List.set]
    have HT10 := Lib.hid hV
    clear hV
    refine walk_core 11 rfl (by kernel_rfl) (fun _ _ _ _ _ h => h) (fun V hV K hK => ?_)
    have hSV := ZS3.out V hV
    go_simp
    go_at_call 36
    have h5V : Later x5 V := HT10.out.trans hV
    have k10 : Blk V r10 9 #[.string val] := Blk.below (show Blk x10 r10 _ _ from hr10) hV lt10
    have hsv : x5.heap.size ≤ V.heap.size := (show Below _ _ _ from h5V).size
    have hz := HS55.out
    have hlt11 := fun (r : Nat) (h : (Value.slice B2 vs.length d2).ownBlock = some r) => (HO5.out.v.lt r h).2
    have hr10b : w5.heap.size ≤ r10 := hB10.1.1
    refine (insLS val (own_later HO.out.v h5V) (by omega) (by have := HV.out; show f ≤ vs.length; omega) (by have := HK.out; have := HV.out; show vs.length ≤ _; omega) k10 (fun e => by have := hlt11 _ e; omega)).mono ?_
    rw [← HLV.out]
    rintro e x11 ⟨E2, e2, rfl, h11, hk11, hn11⟩
    have hsize := hk11.size
    have hkeep := fun (r : Nat) (hF : ((w5.heap.size ≤ r ∧ r ≠ r4) ∧ (Value.slice E1 L1.length e1).ownBlock ≠ some r) ∧ r ≠ r10) (hl : r < V.heap.size) => hk11.block r hl (fun h => by have := hlt11 r h; have := hF.1.1.1; omega)
    have hS := fun V' (h : Later x11 V') => (show Below (w.heap.size + 2) w5 V from hSV).trans ((hk11.below (by omega) (fun i h => (HO5.out.v.lt i h).1)).trans ((show Below _ _ _ from h).mono (by omega)))
    have HO2 : Hid (PgOwn x11 (w.heap.size + 2) (.slice E1 L1.length e1) (.slice E2 L2.length e2) (.slice B3 ns.length d3) ⟨true, L1, L2, ns⟩) := Lib.hid ⟨own_kept (own_later HO.out.k h5V) hk11 (fun g hg h => HO.out.ne g hg h), h11, own_kept (own_later HO.out.n h5V) hk11 (fun g hg h => own_ne HO.out.v HO.out.n (by decide) h hg), fun g h h' => by
      rcases hn11 g h' with h'' | h''
      · exact HO.out.ne g h h''
      · have := (HO.out.k.lt g h).2; omega⟩
    clear k10 hsv hz hlt11 h11 hk11 hn11 h5V
    have ZF4 : Hid (∀ s, x11.heap.size ≤ s → _) := Lib.hid (fun s h => ZF3.out s (Nat.le_trans hV.size (Nat.le_trans hsize h)))
    have ZS4 : Hid (∀ V, Later x11 V → (Below (w.heap.size + 2) w5) V) := Lib.hid hS
    refine hK.out _ _ (Below (w.heap.size + 2) w5) (Later x11) _ hkeep (fun _ h _ => h) (fun _ h => h) ZS4.out (fun V' h => ZF4.out _ h.size) (Later.refl _) (closed_later _) ?_
    clear hK K hV hsize hkeep hSV hS
    try simp only [pa, List.set]
    refine walk_exit (fun V hV => ?_)
    have hSV := ZS4.out V hV
    try simp only [pa, List.set]
    have kp := HKP.out.below hSV (by omega)
    have kz := HKZ.out.below hSV (by omega)
    have ho := HO2.out.later hV
    have u8 := upd1 kp 1 (.slice E1 L1.length e1)
    obtain ⟨W8, hW8⟩ : ∃ W8, W8 = V.setCell ⟨w.heap.size, 1, none⟩ (.slice E1 L1.length e1) := ⟨_, rfl⟩
    rw [← hW8] at u8
    have kp8 : Blk W8 w.heap.size 54 #[.bool true, .slice E1 L1.length e1, .slice B2 vs.length d2, .slice B3 ns.length d3] := u8.blk
    have u9 := upd1 kp8 2 (.slice E2 L2.length e2)
    obtain ⟨W9, hW9⟩ : ∃ W9, W9 = W8.setCell ⟨w.heap.size, 2, none⟩ (.slice E2 L2.length e2) := ⟨_, rfl⟩
    rw [← hW9] at u9
    have kp9 : Blk W9 w.heap.size 54 #[.bool true, .slice E1 L1.length e1, .slice E2 L2.length e2, .slice B3 ns.length d3] := u9.blk
    have kz9 := u9.far (u8.far kz (show w.heap.size + 1 ≠ w.heap.size by omega)) (show w.heap.size + 1 ≠ w.heap.size by omega)
    have hb9 : Below w.heap.size w W9 := u9.below (u8.below (HBW.out.trans ((show Below (w.heap.size + 2) w5 V from hSV).mono (by omega))) (Nat.le_refl _) (Nat.le_refl _)) (Nat.le_refl _) (Nat.le_refl _)
    have u7 := upd4 kz9 (.bool true) (.slice E1 L1.length e1) (.slice E2 L2.length e2) (.slice B3 ns.length d3)
    have ho7 := ((ho.upd u8 kp (by decide) (by decide)).upd u9 kp8 (by decide) (by decide)).upd u7 kz9 (by decide) (by decide)
    obtain ⟨z0, z1, z2, z3⟩ := cells4 kp
    obtain ⟨f0, f1, f2, f3⟩ := frozen4 kp
    obtain ⟨y0, y1, y2, y3⟩ := cells4 kp8
    obtain ⟨g0, g1, g2, g3⟩ := frozen4 kp8
    obtain ⟨x0, x1, x2, x3⟩ := cells4 kp9
    obtain ⟨j0, j1, j2, j3⟩ := cells4 kz9
    obtain ⟨i0, i1, i2, i3⟩ := frozen4 kz9
    have HU7 := Lib.hid u7
    have HO7 := Lib.hid ho7
    have HB9 := Lib.hid hb9
    have HW8 := Lib.hid hW8
    have HW9 := Lib.hid hW9
    clear kp kz ho u8 kp8 u9 kp9 kz9 hb9 u7 ho7 hW8 hW9 hSV hV
    refine wpAnyJ_one (i := 13) (by kernel_rfl) rfl (fun K hK => ?_)
    simp only [List.getElem_toArray, List.getElem_cons_succ, List.getElem_cons_zero]
    go_simp
    refine hK.out _ _ (fun h _ => absurd rfl h) ?_
    clear hK K
    try simp only [pa, List.set]
    rw [← HW8.out]
    clear z0 z1 z2 z3 f0 f1 f2 f3
    refine wpAnyJ_pure (i := 14) (d := some 41) (v := ?_) (by kernel_rfl) rfl rfl (Or.inl ⟨by rfl, ?_⟩) (fun _ h => absurd ((show _ = true by kernel_rfl).symm.trans h) (by decide)) ?_
    rotate_left 1
    · (intro V; go_simp; (try with_reducible rfl))
    try simp only [pa, List.set]
    refine wpAnyJ_one (i := 15) (by kernel_rfl) rfl (fun K hK => ?_)
    simp only [List.getElem_toArray, List.getElem_cons_succ, List.getElem_cons_zero]
    go_simp
    refine hK.out _ _ (fun _ h => absurd ((show _ = true by kernel_rfl).symm.trans h) (by decide)) ?_
    clear hK K
    try simp only [pa, List.set]
    refine wpAnyJ_done (by kernel_rfl) ?_ _
    rw [← HW9.out]
    clear y0 y1 y2 y3 g0 g1 g2 g3
    go_wp2_with fail
    refine bodyPost_ret_by (results_c1 rfl _ _ (w.heap.size + 1) 54 _ (0, 0) _ rfl HU7.out.blk Try.underlying54 rfl (by kernel_rfl)) rfl ?_
    rw [HP.out]
    exact ⟨HU7.out.below HB9.out (by omega) (Nat.le_refl _), _, rfl, HO7.out.pgv⟩
end
theorem put_v {w : World} {cs : Array Value} {p : Pg} (key val : ByteArray) (h : PgV w cs p) (ho : Ok p) (hl : p.leaf = true) : Calls Try.prog 32 #[.agg cs, .string key, .string val] w (PgPost w (putP p key val)) := by
  obtain ⟨A1, c1, A2, c2, A3, c3, rfl, h⟩ := h
  have hf := good_few ho
  have hr := good_rise ho.good
  rcases good_shape ho.good with ⟨_, a, b⟩ | ⟨e, _⟩
  · obtain ⟨lf, ks, vs, ns⟩ := p
    obtain rfl : lf = true := hl
    obtain rfl : ns = [] := b
    exact put_a key val h hf.1 hr a (by simp)
  · rw [hl] at e; cases e
end Go.Proofs.Ytafeddjcomeniaa
end

/- What lies in memory between two rounds of tree.Put's and tree.Drop's loops. No program here. Conditions: none. -/
section
namespace Go.Proofs.Ytafeddjcomeniaa
open Go.RowKit
set_option linter.unusedVariables false
set_option linter.unusedSimpArgs false

theorem Blk.c0 {w : World} {g : Nat} {t : TypeId} {x : Value} (h : Blk w g t #[x]) : w.cell? ⟨g, 0, none⟩ = some x := (h.cell 0).trans rfl
section
variable {B b : Nat} {w w' w0 : World} {ill : Int} {s : Sh} {v : Value}
theorem ShAt.cells (h : ShAt B w b ill s v) (hk : ∀ g t cs, Blk w g t cs → Blk w' g t cs) : ShAt B w' b ill s v := by
  obtain ⟨L, h3, h4, h5⟩ := h.row
  refine ⟨hk _ _ _ h.blk, h.hb, L, ⟨h3.1, ?_⟩, h4, fun i cs p hi hp => ?_⟩
  · rcases h3.2 with e | ⟨g', cap, cur, e, hg, hb', r⟩
    · exact .inl e
    · exact .inr ⟨g', cap, cur, e, hg, hk _ _ _ hb', r⟩
  · obtain ⟨A1, c1, A2, c2, A3, c3, e, hp⟩ := h5 i cs p hi hp
    exact ⟨A1, c1, A2, c2, A3, c3, e, hp.k.keep fun g cs => hk g _ cs, hp.v.keep fun g cs => hk g _ cs, hp.n.keep fun g cs => hk g _ cs⟩
theorem blk_row {W : World} {g : Nat} {t : TypeId} {cs : Array Value} {row : Option Nat} (h : Blk W g t cs) (hr : ∀ r, row = some r → ∃ o : Obj, W.heap[r]? = some o ∧ o.isCells = false) : some g ≠ row := by
  intro e
  obtain ⟨o, ho, hc⟩ := hr g e.symm
  unfold Blk at h
  rw [h] at ho
  injection ho with ho
  subst ho
  cases hc
theorem Wr.grown {row : Option Nat} (h : Wr B b ill s w0 w) (hB : B ≤ w0.heap.size) (hg : w.grownBy w' row) (hr : ∀ r, row = some r → w0.heap.size ≤ r ∧ ∃ o : Obj, w.heap[r]? = some o ∧ o.isCells = false) : Wr B b ill s w0 w' := by
  have hk : ∀ g t cs, Blk w g t cs → Blk w' g t cs := fun g t cs hb => hb.grown hg (blk_row hb fun r e => (hr r e).2)
  obtain ⟨v', hs⟩ := h.sh
  refine ⟨⟨v', hs.cells hk⟩, h.below.grown hg (Nat.le_trans hB h.size) fun k e => by have := (hr k e).1; omega, fun g t cs ht x => hk _ _ _ (h.far g t cs ht x), fun g cs => ⟨fun x => hk _ _ _ ((h.sm g cs).1 x), fun x => hk _ _ _ ((h.sm g cs).2 x)⟩, ⟨Nat.le_trans h.size hg.size, fun k o hk' hc => ?_⟩⟩
  have h1 := h.oth.same k o hk' hc
  refine (hg.block k (Array.getElem?_eq_some_iff.1 h1).1 fun e => ?_).trans h1
  have := (hr k e.symm).1
  have := (Array.getElem?_eq_some_iff.1 hk').1
  omega
/-- What a change of a tree answers. -/
def TPost (B b : Nat) (ill : Int) (s' : Sh) (n er : Int) (w : World) (e : Ending) (w' : World) : Prop := e = .returned (.tuple #[.int .u64 n, .int .i64 er]) ∧ Wr B b ill s' w w'
def putT (ill : Int) (key val : ByteArray) (root : Int) (l : List (Pg × Nat)) (s : Sh) : Sh × Int × Int :=
  if root = 0 then
    match addS ill s ⟨true, [key], [val], []⟩ with
    | (s1, none) => (s1, 0, 4)
    | (s1, some n) => (s1, n, 0)
  else if s.n < ill ∧ ill ≤ s.n + l.length then (⟨s.S, ill⟩, 0, 4)
  else match putW ill key val l ⟨s.S, s.n + l.length⟩ with
    | (s1, none) => (s1, 0, 4)
    | (s1, some ⟨n, none⟩) => (s1, n, 0)
    | (s1, some ⟨n, some (k, o)⟩) =>
      match addS ill s1 (rootP k n o) with
      | (s2, none) => (s2, 0, 4)
      | (s2, some m) => (s2, m, 0)
theorem Wr.of_kept {s' : Sh} {v' : Value} (h : ShAt B w b ill s v) (hk : DKept (fun k => k = b) w w') (hm : Sm w w') (hs : ShAt B w' b ill s' v') (hB : B ≤ w.heap.size) : Wr B b ill s' w w' :=
  ⟨⟨v', hs⟩, hk.below hB fun i e => by subst e; exact h.hb, fun g t cs ht x => hk.blk x fun e => x.ne_ h.blk ht.h e, hm, hk.others fun k e => by subst e; exact ⟨_, _, h.blk⟩⟩
theorem far_shelf : Far 79 := ⟨by decide, by decide, by decide, by decide⟩
theorem far_err : Far 28 := ⟨by decide, by decide, by decide, by decide⟩
/-- The two results are written. -/
theorem exit_two {r1 r2 : Nat} {x y n er : Int} (h : Wr B b ill s w0 w) (h2 : Two s.S) (k1 : Blk w r1 27 #[.int .u64 x]) (k2 : Blk w r2 28 #[.int .i64 y]) (h1 : w0.heap.size ≤ r1) (h3 : w0.heap.size ≤ r2) (hB : B ≤ w0.heap.size) :
    Wr B b ill s w0 ((w.setCell ⟨r1, 0, none⟩ (.int .u64 n)).setCell ⟨r2, 0, none⟩ (.int .i64 er)) ∧ ((w.setCell ⟨r1, 0, none⟩ (.int .u64 n)).setCell ⟨r2, 0, none⟩ (.int .i64 er)).cell? ⟨r1, 0, none⟩ = some (.int .u64 n) ∧ ((w.setCell ⟨r1, 0, none⟩ (.int .u64 n)).setCell ⟨r2, 0, none⟩ (.int .i64 er)).cell? ⟨r2, 0, none⟩ = some (.int .i64 er) := by
  have hne : r1 ≠ r2 := fun e => by subst e; exact k1.ne_ k2 (by decide) rfl
  have hw1 := h.box h2 k1 (w' := w.setCell ⟨r1, 0, none⟩ (.int .u64 n)) ((DKept.refl (S := fun k => k = r1)).set rfl) h1 hB
  have q1 : Blk (w.setCell ⟨r1, 0, none⟩ (.int .u64 n)) r1 27 #[.int .u64 n] := by have := k1.set_ 0 (.int .u64 n); simpa using this
  have q2 := k2.far (p := ⟨r1, 0, none⟩) hne.symm (.int .u64 n)
  have u := upd1 q2 0 (.int .i64 er)
  have q3 : Blk ((w.setCell ⟨r1, 0, none⟩ (.int .u64 n)).setCell ⟨r2, 0, none⟩ (.int .i64 er)) r2 28 #[.int .i64 er] := by simpa using u.blk
  have q4 := q1.far (p := ⟨r2, 0, none⟩) hne (.int .i64 er)
  exact ⟨hw1.upd u q2 ⟨by decide, by decide, by decide, by decide⟩ h3 hB, (q4.cell 0).trans rfl, (q3.cell 0).trans rfl⟩
/-- Between two rounds: the shelf, the results' cells, the box, the error's cell, another cell, the row of steps. -/
structure Rnd (B b : Nat) (ill : Int) (w W2 : World) (r1 r2 rb q r g : Nat) (t : TypeId) (s' : Sh) (er : Int) (ac : Array Value) (W : World) : Prop where
  wr : Wr B b ill s' w W
  k1 : Blk W r1 27 #[.int .u64 0]
  k2 : Blk W r2 28 #[.int .i64 0]
  kb : Blk W rb 79 #[.iface 23 (.pointer (some ⟨b, 0, none⟩))]
  ke : Blk W q 28 #[.int .i64 er]
  ka : Blk W r t ac
  row : W.heap[g]? = W2.heap[g]?
  sm : Sm W2 W
end
section
variable {B b : Nat} {w W2 W W' : World} {ill : Int} {r1 r2 rb q r g : Nat} {t : TypeId} {s s' : Sh} {er er' : Int} {ac ac' cur : Array Value}
theorem Rnd.later (h : Rnd B b ill w W2 r1 r2 rb q r g t s er ac W) (hB : B ≤ w.heap.size) (hg : g < W2.heap.size) (k : Later W W') : Rnd B b ill w W2 r1 r2 rb q r g t s er ac W' :=
  ⟨h.wr.later hB k, h.k1.below k h.k1.lt, h.k2.below k h.k2.lt, h.kb.below k h.kb.lt, h.ke.below k h.ke.lt, h.ka.below k h.ka.lt, ((show Below _ _ _ from k).block g (by
    obtain ⟨o, ho⟩ : ∃ o, W2.heap[g]? = some o := ⟨_, Array.getElem?_eq_getElem hg⟩
    have := h.row.trans ho
    exact (Array.getElem?_eq_some_iff.1 this).1)).trans h.row, h.sm.trans (Sm.later k)⟩
/-- The shelf is written. -/
theorem Rnd.wrote (h : Rnd B b ill w W2 r1 r2 rb q r g t s er ac W) (hg : Blk W2 g 89 cur) (ht : Far t) (k : Wr B b ill s' W W') : Rnd B b ill w W2 r1 r2 rb q r g t s' er ac W' :=
  ⟨h.wr.trans k, (k.sm _ _).2 h.k1, k.far _ _ _ far_err h.k2, k.far _ _ _ far_shelf h.kb, k.far _ _ _ far_err h.ke, k.far _ _ _ ht h.ka, (k.far _ _ _ far_step (h.row.trans hg)).trans hg.symm, h.sm.trans k.sm⟩
/-- A new cell beside is written. -/
theorem Rnd.upd {g' : Nat} {t' : TypeId} {cs cs' : Array Value} (h : Rnd B b ill w W2 r1 r2 rb q r g t s er ac W) (hB : B ≤ w.heap.size) (hg : Blk W2 g 89 cur) (u : Upd W W' g' t' cs') (hb : Blk W g' t' cs) (ht : Far t') (hw : w.heap.size ≤ g') (n : g' ≠ r1 ∧ g' ≠ r2 ∧ g' ≠ rb ∧ g' ≠ q ∧ g' ≠ r ∧ g' ≠ g) : Rnd B b ill w W2 r1 r2 rb q r g t s er ac W' :=
  ⟨h.wr.upd u hb ht hw hB, u.far h.k1 n.1.symm, u.far h.k2 n.2.1.symm, u.far h.kb n.2.2.1.symm, u.far h.ke n.2.2.2.1.symm, u.far h.ka n.2.2.2.2.1.symm, (u.far (show Blk W g _ _ from h.row.trans hg) n.2.2.2.2.2.symm).trans hg.symm, h.sm.trans (u.sm hb ht.s ht.n)⟩
theorem Rnd.updA (h : Rnd B b ill w W2 r1 r2 rb q r g t s er ac W) (hB : B ≤ w.heap.size) (hg : Blk W2 g 89 cur) (u : Upd W W' r t ac') (ht : Far t) (hw : w.heap.size ≤ r) (n : r ≠ r1 ∧ r ≠ r2 ∧ r ≠ rb ∧ r ≠ q ∧ r ≠ g) : Rnd B b ill w W2 r1 r2 rb q r g t s er ac' W' :=
  ⟨h.wr.upd u h.ka ht hw hB, u.far h.k1 n.1.symm, u.far h.k2 n.2.1.symm, u.far h.kb n.2.2.1.symm, u.far h.ke n.2.2.2.1.symm, u.blk, (u.far (show Blk W g _ _ from h.row.trans hg) n.2.2.2.2.symm).trans hg.symm, h.sm.trans (u.sm h.ka ht.s ht.n)⟩
theorem Rnd.updE (h : Rnd B b ill w W2 r1 r2 rb q r g t s er ac W) (hB : B ≤ w.heap.size) (hg : Blk W2 g 89 cur) (u : Upd W W' q 28 #[.int .i64 er']) (hw : w.heap.size ≤ q) (n : q ≠ r1 ∧ q ≠ r2 ∧ q ≠ rb ∧ q ≠ r ∧ q ≠ g) : Rnd B b ill w W2 r1 r2 rb q r g t s er' ac W' :=
  ⟨h.wr.upd u h.ke far_err hw hB, u.far h.k1 n.1.symm, u.far h.k2 n.2.1.symm, u.far h.kb n.2.2.1.symm, u.blk, u.far h.ka n.2.2.2.1.symm, (u.far (show Blk W g _ _ from h.row.trans hg) n.2.2.2.2.symm).trans hg.symm, h.sm.trans (u.sm h.ke (by decide) (by decide))⟩
theorem Rnd.grown {row : Option Nat} (h : Rnd B b ill w W2 r1 r2 rb q r g t s er ac W) (hB : B ≤ w.heap.size) (hg : Blk W2 g 89 cur) (hgr : W.grownBy W' row) (hr : ∀ r, row = some r → w.heap.size ≤ r ∧ ∃ o : Obj, W.heap[r]? = some o ∧ o.isCells = false) : Rnd B b ill w W2 r1 r2 rb q r g t s er ac W' := by
  have hk : ∀ g t cs, Blk W g t cs → Blk W' g t cs := fun g t cs hb => hb.grown hgr (blk_row hb fun r e => (hr r e).2)
  exact ⟨h.wr.grown hB hgr hr, hk _ _ _ h.k1, hk _ _ _ h.k2, hk _ _ _ h.kb, hk _ _ _ h.ke, hk _ _ _ h.ka, (hk _ _ _ (h.row.trans hg)).trans hg.symm, fun g cs => ⟨fun x => hk _ _ _ ((h.sm g cs).1 x), fun x => hk _ _ _ ((h.sm g cs).2 x)⟩⟩
theorem steps_row {B g n cap : Nat} {w : World} {L : List (Array Value)} (h1 : w.ownsRow B 89 5 (.slice (some ⟨g, 0, none⟩) n cap) n (L.flatMap Array.toList)) (h2 : L.length = n) (h5 : ∀ c ∈ L, c.size = 5) : RowC w g n L := by
  rcases h1.2 with ⟨e, _⟩ | ⟨g', cap', cur, e, hg, hb, hc, hm, hs, ht⟩
  · cases e
  · cases e
    have hb : Blk w g 89 cur := hb
    refine ⟨h2, fun i c hi => ⟨h5 c (List.mem_of_getElem? hi), fun j hj => ?_⟩⟩
    have hil := (List.getElem?_eq_some_iff.1 hi).1
    rw [hb.cell, ← Array.getElem?_toList, ← flatz_get L h5 i c hi j hj, ← ht, List.getElem?_take, if_pos (by omega)]
theorem RowC.take {g n m : Nat} {w : World} {L : List (Array Value)} (h : RowC w g n L) (hm : m ≤ n) : RowC w g m (L.take m) :=
  ⟨by rw [List.length_take, h.1]; omega, fun i c hi => h.2 i c (by
    rw [List.getElem?_take] at hi
    split at hi
    · exact hi
    · cases hi)⟩
/-- What a round leaves: the shelf is written, then the cell beside and the error's. -/
structure Tail (W w7 W8 W9 : World) (bs g : Nat) (cb : Array Value) : Prop where
  oth : KeepsOthers W W9
  kp : W9.heap[bs]? = W.heap[bs]? ∧ W9.heap[g]? = W.heap[g]?
  kbs : Blk W9 bs 81 cb
theorem far_steps : Far 81 := ⟨by decide, by decide, by decide, by decide⟩
theorem Rnd.tail {W6 w7 W8 W9 : World} {bs : Nat} {cb : Array Value} (h : Rnd B b ill w W2 r1 r2 rb q r g t s er ac W) (hB : B ≤ w.heap.size) (hg : Blk W2 g 89 cur) (ht : Far t) (hts : t ≠ 81) (hl : Later W W6) (hw : Wr B b ill s' W6 w7) (kbs : Blk W bs 81 cb)
    (u8 : Upd w7 W8 r t ac') (u9 : Upd W8 W9 q 28 #[.int .i64 er']) (hr : w.heap.size ≤ r) (hq : w.heap.size ≤ q) (n : r ≠ r1 ∧ r ≠ r2 ∧ r ≠ rb ∧ r ≠ q ∧ r ≠ g) (n' : q ≠ r1 ∧ q ≠ r2 ∧ q ≠ rb ∧ q ≠ r ∧ q ≠ g) :
    Rnd B b ill w W2 r1 r2 rb q r g t s' er' ac' W9 ∧ Tail W w7 W8 W9 bs g cb := by
  have h7 := (h.later hB hg.lt hl).wrote hg ht hw
  have h8 := h7.updA hB hg u8 ht hr n
  have h9 := h8.updE hB hg u9 hq n'
  have k7 := hw.far _ _ _ far_steps (kbs.below hl kbs.lt)
  have k8 := u8.far k7 (k7.ne_ h7.ka hts.symm)
  have k9 := u9.far k8 (k8.ne_ h8.ke (by decide))
  exact ⟨h9, ⟨((later_others hl).trans hw.oth).trans ((u8.kept.others fun k e => by subst e; exact ⟨_, _, h7.ka⟩).trans (u9.kept.others fun k e => by subst e; exact ⟨_, _, h8.ke⟩)), ⟨k9.trans (show W.heap[bs]? = _ from kbs).symm, h9.row.trans h.row.symm⟩, k9⟩⟩
/-- The two results are written, and the calls that were put off are taken. -/
theorem exit_defer {D r1 r2 : Nat} {x y n er : Int} {X : World} (h : Wr B b ill s w W) (h2 : Two s.S) (k1 : Blk W r1 27 #[.int .u64 x]) (k2 : Blk W r2 28 #[.int .i64 y]) (h1 : w.heap.size ≤ r1) (h3 : w.heap.size ≤ r2) (hB : B ≤ w.heap.size) (hD : w.heap.size ≤ D) (hDD : W.heap[D]? = some (.deferred (some [])))
    (hX : Later ((W.setCell ⟨r1, 0, none⟩ (.int .u64 n)).setCell ⟨r2, 0, none⟩ (.int .i64 er)) X) :
    X.heap[D]? = some (.deferred (some [])) ∧ Wr B b ill s w (X.putObj D (.deferred none)) ∧ (X.putObj D (.deferred none)).cell? ⟨r1, 0, none⟩ = some (.int .u64 n) ∧ (X.putObj D (.deferred none)).cell? ⟨r2, 0, none⟩ = some (.int .i64 er) := by
  have n1 : D ≠ r1 := fun e => by
    subst e
    have := hDD.symm.trans (show W.heap[D]? = some _ from k1); cases this
  have n2 : D ≠ r2 := fun e => by
    subst e
    have := hDD.symm.trans (show W.heap[D]? = some _ from k2); cases this
  obtain ⟨hw, x1, x2⟩ := exit_two (n := n) (er := er) h h2 k1 k2 h1 h3 hB
  have hlt := (Array.getElem?_eq_some_iff.1 hDD).1
  have hk : DKept (fun k => k = r1 ∨ k = r2) W ((W.setCell ⟨r1, 0, none⟩ (.int .u64 n)).setCell ⟨r2, 0, none⟩ (.int .i64 er)) := DKept.set (DKept.set DKept.refl (.inl rfl)) (.inr rfl)
  have hD1 : ((W.setCell ⟨r1, 0, none⟩ (.int .u64 n)).setCell ⟨r2, 0, none⟩ (.int .i64 er)).heap[D]? = some (.deferred (some [])) := (hk.block D hlt (fun e => e.elim n1 n2)).trans hDD
  have hD2 : X.heap[D]? = some (.deferred (some [])) := ((show Below _ _ _ from hX).block D (Array.getElem?_eq_some_iff.1 hD1).1).trans hD1
  have hg := grownBy_putObj' X D (.deferred none)
  have hr : ∀ r, some D = some r → ∃ o : Obj, X.heap[r]? = some o ∧ o.isCells = false := fun r e => by cases e; exact ⟨_, hD2, rfl⟩
  have y1 : X.cell? ⟨r1, 0, none⟩ = some (.int .u64 n) := (World.cell?_of_block ((show Below _ _ _ from hX).block r1 (World.block_lt_of_cell? _ _ x1))).trans x1
  have y2 : X.cell? ⟨r2, 0, none⟩ = some (.int .i64 er) := (World.cell?_of_block ((show Below _ _ _ from hX).block r2 (World.block_lt_of_cell? _ _ x2))).trans x2
  exact ⟨hD2, (hw.later hB hX).grown hB hg fun r e => ⟨by cases e; exact hD, hr r e⟩, cell_kept y1 hg hr, cell_kept y2 hg hr⟩
end
end Go.Proofs.Ytafeddjcomeniaa
end

/- tree.Put, walked. Conditions: the shelf lies in memory; the tree is good, at most 20 deep, with few items; what each step wants. -/
section
namespace Go.Proofs.Ytafeddjcomeniaa
open Go.RowKit
set_option linter.unusedVariables false
set_option linter.unusedSimpArgs false
attribute [local go_sem] Oper.semAt_some

theorem own_setN {w : World} {B n : Nat} {A : Option Addr} {c i : Nat} {l : List Int} (h : w.ownsRow B 27 1 (.slice A n c) n (l.map (Value.int .u64))) (hi : i < n) (v : Int) :
    ∃ g cs, A = some ⟨g, 0, none⟩ ∧ B ≤ g ∧ Blk w g 27 cs ∧ (∃ u, w.cell? ⟨g, i, none⟩ = some u) ∧ (w.setCell ⟨g, i, none⟩ (.int .u64 v)).ownsRow B 27 1 (.slice A n c) n ((l.set i v).map (Value.int .u64)) := by
  rcases h.2 with ⟨e1, e2⟩ | ⟨g, cap, cur, e1, hg, hb, h2, h3, h4, h5⟩
  · omega
  · injection e1 with e1 _ e3
    subst e1 e3
    have hb : Blk w g 27 cur := hb
    rw [Nat.mul_one] at h4 h5
    have hl := h.1
    rw [Nat.mul_one] at hl
    refine ⟨g, cur, rfl, hg, hb, ⟨cur[i], by rw [hb.cell, Array.getElem?_eq_getElem (by omega)]⟩, by rw [List.length_map, List.length_set]; simpa using hl, .inr ⟨g, c, _, rfl, hg, hb.set_ i (.int .u64 v), h2, h3, by simp [h4], ?_⟩⟩
    rw [Nat.mul_one, Array.toList_setIfInBounds, List.take_set, h5, List.map_set]
theorem results_put (tmps : Array Value) (W : World) (g1 g2 : Nat) (x y : Int) (h6 : tmps.getD 8 undef = .pointer (some ⟨g1, 0, none⟩)) (h7 : tmps.getD 9 undef = .pointer (some ⟨g2, 0, none⟩))
    (c1 : W.cell? ⟨g1, 0, none⟩ = some (.int .u64 x)) (c2 : W.cell? ⟨g2, 0, none⟩ = some (.int .i64 y)) : (results Try.f10 tmps).run Try.prog W = .ok (.tuple #[.int .u64 x, .int .i64 y]) W := by
  have h6' : tmps[8]?.getD undef = .pointer (some ⟨g1, 0, none⟩) := by simpa using h6
  have h7' : tmps[9]?.getD undef = .pointer (some ⟨g2, 0, none⟩) := by simpa using h7
  simp [results, Try.f10, go_sem, h6', h7', c1, c2]
set_option maxRecDepth 100000 in
set_option maxHeartbeats 8000000 in
theorem putT_some {Q : Pg → Prop} {B b : Nat} {w : World} {ill : Int} {s : Sh} {v : Value} {root : Int} {d : Nat} {key val : ByteArray} (h : ShAt B w b ill s v) (hB : B ≤ w.heap.size) (hn : 0 ≤ s.n) (hn2 : s.n < 100000000) (hl : s.S.length ≤ 90000)
    (h2 : Two s.S) (ht : OkN Q s.S d root none none) (hi' : (itemsN s.S d root).length ≤ 1000) (hd : d ≤ 20) (hk : keyFit key) (hv : val.size ≤ 400)
    (hR : Runs ill key val (wayN s.S d root key) ⟨s.S, s.n + (wayN s.S d root key).length⟩)
    (hJ : ∀ s1 a, putW ill key val (wayN s.S d root key) ⟨s.S, s.n + (wayN s.S d root key).length⟩ = (s1, some a) → 0 ≤ s1.n ∧ s1.n < 1000000000 ∧ s1.S.length ≤ 99990) :
    Calls Try.prog 10 #[shV b, .int .u64 root, .string key, .string val] w fun e w' => TPost B b ill (putT ill key val root (wayN s.S d root key) s).1 (putT ill key val root (wayN s.S d root key) s).2.1 (putT ill key val root (wayN s.S d root key) s).2.2 w e w' := by
  have hroot : root ≠ 0 := by have := (ok_le ht).1; omega
  have hroot' : ((root : Int) == 0) = false := beq_eq_false_iff_ne.2 hroot
  have hwl := way_len (S := s.S) (key := key) d root
  obtain ⟨p, i, hlast, hlf, hgood, hget⟩ := find_way ht (inB_all key)
  obtain ⟨FULL, hF⟩ : ∃ F, F = wayN s.S d root key := ⟨_, rfl⟩
  obtain ⟨W0, hW0⟩ : ∃ W0, W0 = ((w.alloc (.cells #[.iface 23 (.pointer (some ⟨b, 0, none⟩))] 79)).alloc (.cells #[.int .u64 0] 27)).alloc (.cells #[.int .i64 0] 28) := ⟨_, rfl⟩
  have hb0 : Later w W0 := by rw [hW0]; exact ((below_new _ _).alloc (by simp) _).alloc (by rw [World.size_alloc, World.size_alloc]; omega) _
  have hs0 : W0.heap.size = w.heap.size + 3 := by rw [hW0]; simp
  have kb : Blk W0 w.heap.size 79 #[.iface 23 (.pointer (some ⟨b, 0, none⟩))] := by rw [hW0]; exact ((Blk.new _ _ _).alloc _).alloc _
  have k1 : Blk W0 (w.heap.size + 1) 27 #[.int .u64 0] := by
    rw [hW0]
    have := Blk.new (w.alloc (.cells #[.iface 23 (.pointer (some ⟨b, 0, none⟩))] 79)) 27 #[.int .u64 0]
    rw [World.size_alloc] at this
    exact this.alloc _
  have k2 : Blk W0 (w.heap.size + 1 + 1) 28 #[.int .i64 0] := by
    rw [hW0]
    have := Blk.new ((w.alloc (.cells #[.iface 23 (.pointer (some ⟨b, 0, none⟩))] 79)).alloc (.cells #[.int .u64 0] 27)) 28 #[.int .i64 0]
    rwa [World.size_alloc, World.size_alloc] at this
  have h0 := h.later hb0
  have CW := Lib.hid (way_any h0 hn (by omega) (by omega) ht (inB_all key) hi' hd)
  rw [← hF] at CW hlast hwl hR hJ ⊢
  have hne : 1 ≤ FULL.length := by
    cases FULL with
    | nil => simp at hlast
    | cons => simp
  have hx : FULL[FULL.length - 1]? = some (p, i) := by rw [List.getLast?_eq_getElem?] at hlast; exact hlast
  have HX := Lib.hid hx
  have HR := Lib.hid hR
  have HJ := Lib.hid hJ
  have HB := Lib.hid hB
  have H2 := Lib.hid h2
  have HN := Lib.hid hn
  have HN2 := Lib.hid hn2
  have HL := Lib.hid hl
  have HWL : Hid (FULL.length ≤ 20) := Lib.hid (by omega)
  have HNE := Lib.hid hne
  have HKB := Lib.hid kb
  have HK1 := Lib.hid k1
  have HK2 := Lib.hid k2
  have HB0 := Lib.hid hb0
  have HS0 := Lib.hid hs0
  have HW0 := Lib.hid hW0
  have HROOT := Lib.hid hroot
  have c0 := kb.c0
  have c1 := k1.c0
  have c2 := k2.c0
  have e1 : ¬ ((key.size : Int) < 1) := by have := hk.1; omega
  have e2 : ¬ ((40 : Int) < (key.size : Int)) := by have := hk.2; omega
  have e3 : ¬ ((400 : Int) < (val.size : Int)) := by omega
  clear h hB hn hn2 hl h2 ht hi' hd hk hv hR hJ hwl hlast hgood hget hF hx hne hb0 hs0 hW0 kb k1 k2 hroot hlf
  unfold shV at CW ⊢
  refine (callsIn_wide (n := 5)).1 ?_
  refine callsIn_of_wp_marks Try.func10 rfl trivial ?_ rfl
  refine wpIn_wide.2 ?_
  simp only [Try.ntmps10, List.size_toArray, List.length_cons, List.length_nil, Nat.reduceAdd, Nat.reduceSub, Array.replicate_succ, Array.replicate_zero, List.push_toArray, List.append_toArray, List.nil_append, List.cons_append]
  go_upto_region 1 with fail
  rw [← HW0.out]
  go_upto_region 5 with fail
  have H0 := Lib.hid h0
  obtain ⟨r2, hr2⟩ : ∃ r2, r2 = w.heap.size + 1 + 1 := ⟨_, rfl⟩
  obtain ⟨r1, hr1⟩ : ∃ r1, r1 = w.heap.size + 1 := ⟨_, rfl⟩
  obtain ⟨rb, hrb⟩ : ∃ rb, rb = w.heap.size := ⟨_, rfl⟩
  rw [← hr2] at HK2 ⊢
  rw [← hr1] at HK1 ⊢
  rw [← hrb] at HKB ⊢
  have HR1 : Hid (w.heap.size ≤ r1 ∧ w.heap.size ≤ r2 ∧ w.heap.size ≤ rb ∧ r1 < W0.heap.size ∧ r2 < W0.heap.size ∧ rb < W0.heap.size) := Lib.hid (by have := HS0.out; omega)
  have n12 : r1 ≠ r2 := by omega
  have n1b : r1 ≠ rb := by omega
  have n2b : r2 ≠ rb := by omega
  clear c0 c1 c2 e1 e2 e3 hroot' h0 hr1 hr2 hrb
  have c0 := HKB.out.c0
  go_wp2_with fail
  refine CW.out.mono ?_
  rintro e w1 ⟨hd1, hk1, hm1⟩
  rcases hd1 with ⟨a1, a2, rfl, a4⟩ | ⟨a1, lv, rfl, hst, hs1⟩
  · have hw0 := Wr.of_kept H0.out hk1 hm1 a4 (by have := HB.out; have := HS0.out; omega)
    have k1 := (hw0.sm _ _).2 HK1.out
    have k2 := hw0.far _ _ _ far_err HK2.out
    obtain ⟨W2, hW2⟩ : ∃ W2, W2 = w1.alloc (.cells #[.int .i64 4] 28) := ⟨_, rfl⟩
    have hl2 : Later w1 W2 := by rw [hW2]; exact below_new _ _
    have hw2 := (hw0.from_ HB.out HB0.out).later HB.out hl2
    have HW2 := Lib.hid hW2
    have ke : Blk W2 w1.heap.size 28 #[.int .i64 4] := by rw [hW2]; exact Blk.new _ _ _
    have k1 := k1.below hl2 k1.lt
    have k2 := k2.below hl2 k2.lt
    have ce := ke.c0
    have fe := ke.frozen 0
    have FIN : Hid (∀ V, Later W2 V → Wr B b ill ⟨s.S, ill⟩ w ((V.setCell ⟨r1, 0, none⟩ (.int .u64 0)).setCell ⟨r2, 0, none⟩ (.int .i64 4)) ∧ ((V.setCell ⟨r1, 0, none⟩ (.int .u64 0)).setCell ⟨r2, 0, none⟩ (.int .i64 4)).cell? ⟨r1, 0, none⟩ = some (.int .u64 0) ∧ ((V.setCell ⟨r1, 0, none⟩ (.int .u64 0)).setCell ⟨r2, 0, none⟩ (.int .i64 4)).cell? ⟨r2, 0, none⟩ = some (.int .i64 4)) := Lib.hid fun V hV =>
      exit_two (hw2.later HB.out hV) H2.out (k1.below hV k1.lt) (k2.below hV k2.lt) HR1.out.1 HR1.out.2.1 HB.out
    have hput : putT ill key val root FULL s = (⟨s.S, ill⟩, 0, 4) := by
      unfold putT; rw [if_neg HROOT.out, if_pos ⟨a1, a2⟩]
    have HPUT := Lib.hid hput
    obtain ⟨c1, f1⟩ : W2.cell? ⟨r1, 0, none⟩ = some (.int .u64 0) ∧ W2.frozen? ⟨r1, 0, none⟩ = false := ⟨k1.c0, k1.frozen 0⟩
    obtain ⟨c2, f2⟩ : W2.cell? ⟨r2, 0, none⟩ = some (.int .i64 0) ∧ W2.frozen? ⟨r2, 0, none⟩ = false := ⟨k2.c0, k2.frozen 0⟩
    obtain ⟨q, hq⟩ : ∃ q, q = w1.heap.size := ⟨_, rfl⟩
    have nq1 : q ≠ r1 := by have := HR1.out; have := hw0.size; omega
    have nq2 : q ≠ r2 := by have := HR1.out; have := hw0.size; omega
    rw [← hq] at ce fe
    have HQ := Lib.hid hq
    clear hq hk1 hm1 a1 a2 a4 hw0 hw2 hW2 hl2 ke k1 k2 hput c0
    go_upto_region 6 with fail
    rw [← HW2.out, ← HQ.out]
    go_wp2_with fail
    go_region
    go_wp2_with fail
    obtain ⟨hw, x1, x2⟩ := FIN.out W2 (Below.refl _ _)
    refine ⟨_, results_put _ _ r1 r2 0 4 rfl rfl x1 x2, ?_⟩
    rw [HPUT.out]
    exact ⟨rfl, hw.later HB.out (later_drewN _ 1)⟩
  · obtain ⟨g, cap, c, rfl, hg, hcap, ⟨cur, hcur⟩, ⟨A1, cc1, A2, cc2, A3, cc3, rfl, hpa⟩, hcell⟩ := hst.get HX.out
    obtain ⟨ploff, hpok, hputs, hpw⟩ := runs_last HR.out HX.out (by have := HNE.out; omega)
    have hlen := HNE.out
    have hl20 := HWL.out
    obtain ⟨N, hN⟩ : ∃ N, N = FULL.length - 1 := ⟨_, rfl⟩
    have hNl : FULL.length = N + 1 := by omega
    have hw0 := Wr.of_kept H0.out hk1 hm1 hs1 (by have := HB.out; have := HS0.out; omega)
    have k1 := (hw0.sm _ _).2 HK1.out
    have k2 := hw0.far _ _ _ far_err HK2.out
    have kb := hw0.far _ _ _ far_shelf HKB.out
    obtain ⟨W2, hW2⟩ : ∃ W2, W2 = w1.alloc (.cells #[.int .i64 0] 28) := ⟨_, rfl⟩
    have hl2 : Later w1 W2 := by rw [hW2]; exact below_new _ _
    have hw2 := (hw0.from_ HB.out HB0.out).later HB.out hl2
    obtain ⟨q, hq⟩ : ∃ q, q = w1.heap.size := ⟨_, rfl⟩
    have ke : Blk W2 q 28 #[.int .i64 0] := by rw [hW2, hq]; exact Blk.new _ _ _
    have nq1 : q ≠ r1 := by have := HR1.out; have := hw0.size; omega
    have nq2 : q ≠ r2 := by have := HR1.out; have := hw0.size; omega
    have HK1 := Lib.hid (k1.below hl2 k1.lt)
    have HK2 := Lib.hid (k2.below hl2 k2.lt)
    have HKB := Lib.hid (kb.below hl2 kb.lt)
    have HKE := Lib.hid ke
    have HST := Lib.hid (hst.later hl2)
    have HKG := Lib.hid (hcur.below hl2 hcur.lt)
    have HW := Lib.hid hw2
    have HS2 := Lib.hid (hs1.later hl2)
    have hpv : PgV W2 #[.bool p.leaf, .slice A1 p.keys.length cc1, .slice A2 p.vals.length cc2, .slice A3 p.kids.length cc3] p := ⟨_, _, _, _, _, _, rfl, hpa.sm (Sm.later hl2)⟩
    have hVS : ∀ k, v.ownBlock = some k → k < W2.heap.size := fun k e => ((hs1.later hl2).rowlt k e).2
    have HVS := Lib.hid hVS
    rw [← hN] at hcell
    have y0 : w1.cell? ⟨g, N * 5, none⟩ = some (.bool p.leaf) := hcell 0 (by omega)
    have y1 : w1.cell? ⟨g, N * 5 + 1, none⟩ = some (.slice A1 p.keys.length cc1) := hcell 1 (by omega)
    have y2 : w1.cell? ⟨g, N * 5 + 2, none⟩ = some (.slice A2 p.vals.length cc2) := hcell 2 (by omega)
    have y3 : w1.cell? ⟨g, N * 5 + 3, none⟩ = some (.slice A3 p.kids.length cc3) := hcell 3 (by omega)
    have y0 := (World.cell?_of_block ((show Below _ _ _ from hl2).block g hcur.lt)).trans y0
    have y1 := (World.cell?_of_block ((show Below _ _ _ from hl2).block g hcur.lt)).trans y1
    have y2 := (World.cell?_of_block ((show Below _ _ _ from hl2).block g hcur.lt)).trans y2
    have y3 := (World.cell?_of_block ((show Below _ _ _ from hl2).block g hcur.lt)).trans y3
    have hN20 : N ≤ 19 := by omega
    have CP : Hid (∀ V, Later W2 V → Calls Try.prog 32 #[.agg #[.bool p.leaf, .slice A1 p.keys.length cc1, .slice A2 p.vals.length cc2, .slice A3 p.kids.length cc3], .string key, .string val] V (PgPost V (putP p key val))) := Lib.hid fun V hV => put_v key val (hpv.below hV) hpok ploff
    have CA : Hid (∀ V, Later W2 V → ∀ cs, PgV V cs (putP p key val) → Calls Try.prog 31 #[shV b, .agg cs] V (AddPost B b ill ⟨s.S, s.n + FULL.length⟩ v (putP p key val) V)) := Lib.hid fun V hV cs hcs => add_any (HS2.out.later hV) (by have := HB.out; have := hw2.size; have := (show Below _ _ _ from hV).size; omega) hputs.n0 hputs.n1 hputs.len hcs hputs.ok
    rw [hNl] at hcap ⊢
    have HNL := Lib.hid hNl
    have HCAP : Hid (N + 1 ≤ cap) := Lib.hid hcap
    have HQW : Hid (w.heap.size ≤ q ∧ w.heap.size ≤ r1 ∧ w.heap.size ≤ r2) := Lib.hid (by have := hw0.size; have := HR1.out; have := HS0.out; omega)
    have HPW := Lib.hid hpw
    have HQ := Lib.hid hq
    have HW2 := Lib.hid hW2
    have HA1 := Lib.hid a1
    clear hst hs1 hk1 hm1 hcur hpa hcell hputs hpok ploff hpw hN hNl hw0 k1 k2 kb hW2 hl2 hw2 hq ke hpv hVS hlen hl20 a1 hcap c0 hg
    go_upto_region 6 with fail
    rw [← HW2.out, ← HQ.out]
    have ce := HKE.out.c0
    go_upto_region 8 with fail
    clear ce
    have ew : IntKind.i64.wrap ((N : Nat) : Int) = (N : Int) := IntWalk.i64_in _ (by omega)
    have i1 : (0 : Int) ≤ (N : Int) := by omega
    have i2 : (N : Int) < (N : Int) + 1 := by omega
    generalize p.keys.length = m1 at *
    generalize p.vals.length = m2 at *
    generalize p.kids.length = m3 at *
    generalize p.leaf = lf at *
    have SX : Hid (∀ V, Later W2 V → V.cell? ⟨rb, 0, none⟩ = some (.iface 23 (.pointer (some ⟨b, 0, none⟩))) ∧ V.cell? ⟨g, N * 5, none⟩ = some (.bool lf) ∧ V.cell? ⟨g, N * 5 + 1, none⟩ = some (.slice A1 m1 cc1) ∧ V.cell? ⟨g, N * 5 + 2, none⟩ = some (.slice A2 m2 cc2) ∧ V.cell? ⟨g, N * 5 + 3, none⟩ = some (.slice A3 m3 cc3)) := Lib.hid fun V hV => by
      have kb := HKB.out.below hV HKB.out.lt
      exact ⟨kb.c0, (World.cell?_of_block ((show Below _ _ _ from hV).block g HKG.out.lt)).trans y0, (World.cell?_of_block ((show Below _ _ _ from hV).block g HKG.out.lt)).trans y1, (World.cell?_of_block ((show Below _ _ _ from hV).block g HKG.out.lt)).trans y2, (World.cell?_of_block ((show Below _ _ _ from hV).block g HKG.out.lt)).trans y3⟩
    obtain ⟨SP, hSP⟩ : ∃ SP : World → Prop, ∀ V, SP V ↔ (V.cell? ⟨rb, 0, none⟩ = some (.iface 23 (.pointer (some ⟨b, 0, none⟩))) ∧ V.cell? ⟨g, N * 5, none⟩ = some (.bool lf) ∧ V.cell? ⟨g, N * 5 + 1, none⟩ = some (.slice A1 m1 cc1) ∧ V.cell? ⟨g, N * 5 + 2, none⟩ = some (.slice A2 m2 cc2) ∧ V.cell? ⟨g, N * 5 + 3, none⟩ = some (.slice A3 m3 cc3)) := ⟨_, fun _ => Iff.rfl⟩
    have HSP := Lib.hid hSP
    clear hSP y0 y1 y2 y3
    refine wp_mono (h := ?_) (calm_le _)
    have HL0 := Lib.hid (Later.refl W2)
    have ZF0 : Hid (∀ s, W2.heap.size ≤ s → W2.heap.size ≤ s) := Lib.hid (fun _ h => h)
    have ZS0 : Hid (∀ V, Later W2 V → (SP) V) := Lib.hid (fun V hV => (HSP.out V).2 (SX.out V hV))
    refine walk_start 17 (S := SP) (T := Later W2) (by kernel_rfl) (fun r => W2.heap.size ≤ r) (fun _ h => h.size) ZS0.out (closed_later _) (Later.refl _).drew ?_
    refine wt 0 51 ?_ (fun V hV => ?_) ?_
    rotate_left 1
    · (obtain ⟨c3, y0, y1, y2, y3⟩ := (HSP.out _).1 hV; clear hV; go_simp; (try with_reducible rfl))
    try simp only [pa, List.set]
    refine wt 1 52 ?_ (fun V hV => ?_) ?_
    rotate_left 1
    · (clear hV; go_simp; (try with_reducible rfl))
    try simp only [pa, List.set]
    refine wt 2 53 ?_ (fun V hV => ?_) ?_
    rotate_left 1
    · (clear hV; go_simp; (try with_reducible rfl))
    try simp only [pa, List.set]
    refine wt 3 54 ?_ (fun V hV => ?_) ?_
    rotate_left 1
    · (clear hV; go_simp; (try with_reducible rfl))
    try simp only [pa, List.set]
    refine wt 4 55 ?_ (fun V hV => ?_) ?_
    rotate_left 1
    · (clear hV; go_simp; (try with_reducible rfl))
    try simp only [pa, List.set]
    refine wt 5 56 ?_ (fun V hV => ?_) ?_
    rotate_left 1
    · (clear hV; go_simp; (try with_reducible rfl))
    try simp only [pa, List.set]
    refine wt 6 57 ?_ (fun V hV => ?_) ?_
    rotate_left 1
    · (clear hV; go_simp; (try with_reducible rfl))
    try simp only [pa, List.set]
    refine wt 7 58 ?_ (fun V hV => ?_) ?_
    rotate_left 1
    · (obtain ⟨c3, y0, y1, y2, y3⟩ := (HSP.out _).1 hV; clear hV; go_simp; (try with_reducible rfl))
    try simp only [pa, List.set]
    refine wt 8 59 ?_ (fun V hV => ?_) ?_
    rotate_left 1
    · (clear hV; go_simp; (try with_reducible rfl))
    try simp only [pa, List.set]
    refine wt 9 60 ?_ (fun V hV => ?_) ?_
    rotate_left 1
    · (clear hV; go_simp; (try with_reducible rfl))
    try simp only [pa, List.set]
    refine walk_pend ⟨15, 12, (.cells #[.int .u64 0, .bool false, .string ⟨#[]⟩, .int .u64 0] 85), fun r => .pointer (some ⟨r, 0, none⟩)⟩ ⟨_, rfl, rfl, rfl, fun W => ?_⟩ ?_
    · (go_simp; (try with_reducible rfl))
    refine walk_core 10 rfl (by kernel_rfl) (fun _ _ _ _ _ h => h) (fun V hV K hK => ?_)
    have hV0 := HL0.out.trans hV
    have hSV := ZS0.out V hV
    go_simp
    go_at_call 32
    refine (CP.out V hV0).mono ?_
    rintro e x10 ⟨hb, cs10, rfl, hp10⟩
    have HP10 := Lib.hid hp10
    clear hp10
    have HT10 := Lib.hid (hV.of hb)
    have HL1 := Lib.hid (hV0.of hb)
    have hsize := hb.size
    have hkeep := fun (r : Nat) (_ : True) (h : r < V.heap.size) => hb.block r h
    have ZF1 : Hid (∀ s, x10.heap.size ≤ s → _) := Lib.hid (fun s h => ZF0.out s (Nat.le_trans hV.size (Nat.le_trans hsize h)))
    have ZS1 : Hid (∀ V, Later x10 V → (SP) V) := Lib.hid (fun V' h => ZS0.out V' ((hV.of hb).trans h))
    refine hK.out _ _ (SP) (Later x10) _ (fun r _ h => hkeep r trivial h) (fun _ h _ => h) (fun _ h => h) ZS1.out (fun V' h => ZF1.out _ h.size) (Later.refl _) (closed_later _) ?_
    clear hK K hV hsize hkeep hV0 hSV hb
    try simp only [pa, List.set]
    refine walk_core 11 rfl (by kernel_rfl) (fun _ _ _ _ _ h => h) (fun V hV K hK => ?_)
    have hV0 := HL1.out.trans hV
    have hSV := ZS1.out V hV
    go_simp
    go_at_call 31
    refine (CA.out V hV0 cs10 (HP10.out.below hV)).mono ?_
    rintro e x11 ⟨⟨ax, ay, az, au, rfl, ha⟩, hw11, hk11⟩
    have hsize := hk11.size
    have hkeep := fun (r : Nat) (hF : W2.heap.size ≤ r) (hl : r < V.heap.size) => hk11.block r hl (fun hs => by
      rcases hs with hs | hs
      · have := HS2.out.blk.lt; omega
      · have := HVS.out r hs; omega)
    have kb11 := hw11.far _ _ _ far_shelf (HKB.out.below hV0 HKB.out.lt)
    have eg11 : x11.heap[g]? = W2.heap[g]? := (hw11.far _ _ _ far_step (HKG.out.below hV0 HKG.out.lt)).trans HKG.out.symm
    have HKB11 := Lib.hid kb11
    have HEG11 := Lib.hid eg11
    have HKG11 := Lib.hid (show g < x11.heap.size by have := HKG.out.lt; have := (show Below _ _ _ from hV0).size; have := hsize; omega)
    have hS := fun V' (h : Later x11 V') => (HSP.out V').2 (by
      obtain ⟨z0, z1, z2, z3, z4⟩ := SX.out W2 (Below.refl _ _)
      have eg : V'.heap[g]? = W2.heap[g]? := ((show Below _ _ _ from h).block g HKG11.out).trans HEG11.out
      exact ⟨(HKB11.out.below h HKB11.out.lt).c0, (World.cell?_of_block eg).trans z1, (World.cell?_of_block eg).trans z2, (World.cell?_of_block eg).trans z3, (World.cell?_of_block eg).trans z4⟩)
    have HW11 : Hid (Wr B b ill (halves ill ⟨s.S, s.n + FULL.length⟩ (putP p key val)).1 w x11) := Lib.hid ((HW.out.later HB.out hV0).trans hw11)
    have HK111 : Hid (Blk x11 r1 27 #[.int .u64 0]) := Lib.hid ((hw11.sm _ _).2 (HK1.out.below hV0 HK1.out.lt))
    have HK211 := Lib.hid (hw11.far _ _ _ far_err (HK2.out.below hV0 HK2.out.lt))
    have HKE11 := Lib.hid (hw11.far _ _ _ far_err (HKE.out.below hV0 HKE.out.lt))
    have HSM11 : Hid (Sm W2 x11) := Lib.hid ((Sm.later hV0).trans hw11.sm)
    have HA := Lib.hid ha
    clear hw11 ha hk11 kb11 eg11
    have ZF2 : Hid (∀ s, x11.heap.size ≤ s → _) := Lib.hid (fun s h => ZF1.out s (Nat.le_trans hV.size (Nat.le_trans hsize h)))
    have ZS2 : Hid (∀ V, Later x11 V → (SP) V) := Lib.hid hS
    refine hK.out _ _ (SP) (Later x11) _ hkeep (fun _ h _ => h) (fun _ h => h) ZS2.out (fun V' h => ZF2.out _ h.size) (Later.refl _) (closed_later _) ?_
    clear hK K hV hsize hkeep hV0 hSV hS
    try simp only [pa, List.set]
    refine wt 12 50 ?_ (fun V hV => ?_) ?_
    rotate_left 1
    · (clear hV; go_simp; (try with_reducible rfl))
    try simp only [pa, List.set]
    refine wt 13 63 ?_ (fun V hV => ?_) ?_
    rotate_left 1
    · (clear hV; go_simp; (try with_reducible rfl))
    try simp only [pa, List.set]
    refine wt 14 64 ?_ (fun V hV => ?_) ?_
    rotate_left 1
    · (clear hV; go_simp; (try with_reducible rfl))
    try simp only [pa, List.set]
    refine walk_force (by kernel_rfl) (by kernel_rfl) (by kernel_rfl) (by kernel_rfl) (fun r15 x15 hV hr15 hB15 => ?_)
    have lt15 : r15 < x15.heap.size := (Array.getElem?_eq_some_iff.1 hr15).1
    have ZF3 : Hid (∀ s, x15.heap.size ≤ s → _ ∧ s ≠ r15) := Lib.hid (fun s h => ⟨ZF2.out s (Nat.le_trans hV.size h), Nat.ne_of_gt (Nat.lt_of_lt_of_le lt15 h)⟩)
    have ZS3 : Hid (∀ V, Later x15 V → (SP) V) := Lib.hid (fun V' h => ZS2.out V' (hV.trans h))
    refine ⟨SP, Later x15, Later.refl _, fun _ h => h, ZS3.out, fun V' h => ZF2.out _ (Nat.le_trans hV.size h.size), fun V' h => Nat.lt_of_lt_of_le lt15 h.size, closed_later _, ?_⟩
    try simp only [pa, List.set]
    have HT15 := Lib.hid hV
    clear hV
    refine walk_core 16 rfl (by kernel_rfl) (fun _ _ _ _ _ h => h) (fun V hV K hK => ?_)
    have hSV := ZS3.out V hV
    try simp only [List.getElem_toArray, List.getElem_cons_succ, List.getElem_cons_zero]
    have kr : Blk V r15 85 #[.int .u64 0, .bool false, .string ⟨#[]⟩, .int .u64 0] := Blk.below (show Blk x15 r15 _ _ from hr15) hV lt15
    have h11V : Later x11 V := HT15.out.trans hV
    obtain ⟨z0, z1, z2, z3⟩ := cells4 kr
    obtain ⟨f0, f1, f2, f3⟩ := frozen4 kr
    have u := upd4 kr (.int .u64 ax) (.bool ay) (.string az) (.int .u64 au)
    obtain ⟨x16, hx16⟩ : ∃ x16, x16 = ((((V.setCell ⟨r15, 0, none⟩ (.int .u64 ax)).setCell ⟨r15, 1, none⟩ (.bool ay)).setCell ⟨r15, 2, none⟩ (.string az)).setCell ⟨r15, 3, none⟩ (.int .u64 au)) := ⟨_, rfl⟩
    rw [← hx16] at u
    go_simp
    rw [← hx16]
    have hr2 : W2.heap.size ≤ r15 := hB15
    have hsize : V.heap.size ≤ x16.heap.size := by rw [u.size]; exact Nat.le_refl _
    have hkeep := fun (r : Nat) (hF : W2.heap.size ≤ r ∧ r ≠ r15) (hl : r < V.heap.size) => u.kept.block r hl hF.2
    have HKB16 := Lib.hid (u.far (HKB11.out.below h11V HKB11.out.lt) (by have := HKB.out.lt; omega))
    have HEG16 : Hid (x16.heap[g]? = W2.heap[g]?) := Lib.hid ((u.kept.block g (by have := HKG11.out; have := (show Below _ _ _ from h11V).size; omega) (by have := HKG.out.lt; omega)).trans (((show Below _ _ _ from h11V).block g HKG11.out).trans HEG11.out))
    have HKG16 : Hid (g < x16.heap.size) := Lib.hid (by have := HKG11.out; have := (show Below _ _ _ from h11V).size; omega)
    have hS := fun V' (h : Later x16 V') => (HSP.out V').2 (by
      obtain ⟨z0, z1, z2, z3, z4⟩ := SX.out W2 (Below.refl _ _)
      have eg : V'.heap[g]? = W2.heap[g]? := ((show Below _ _ _ from h).block g HKG16.out).trans HEG16.out
      exact ⟨(HKB16.out.below h HKB16.out.lt).c0, (World.cell?_of_block eg).trans z1, (World.cell?_of_block eg).trans z2, (World.cell?_of_block eg).trans z3, (World.cell?_of_block eg).trans z4⟩)
    have HW16 := Lib.hid ((HW11.out.later HB.out h11V).upd u kr far_added (by have := HW.out.size; omega) HB.out)
    have HK116 := Lib.hid (u.far (HK111.out.below h11V HK111.out.lt) (by have := HK1.out.lt; omega))
    have HK216 := Lib.hid (u.far (HK211.out.below h11V HK211.out.lt) (by have := HK2.out.lt; omega))
    have HKE16 := Lib.hid (u.far (HKE11.out.below h11V HKE11.out.lt) (by have := HKE.out.lt; omega))
    have HKA16 := Lib.hid u.blk
    have HSM16 : Hid (Sm W2 x16) := Lib.hid ((HSM11.out.trans (Sm.later h11V)).trans (u.sm kr (by decide) (by decide)))
    have HR16 := Lib.hid hr2
    clear kr h11V z0 z1 z2 z3 f0 f1 f2 f3 u hx16 hr2
    have ZF4 : Hid (∀ s, x16.heap.size ≤ s → _) := Lib.hid (fun s h => ZF3.out s (Nat.le_trans hV.size (Nat.le_trans hsize h)))
    have ZS4 : Hid (∀ V, Later x16 V → (SP) V) := Lib.hid hS
    refine hK.out _ _ (SP) (Later x16) _ hkeep (fun _ h _ => h) (fun _ h => h) ZS4.out (fun V' h => ZF4.out _ h.size) (Later.refl _) (closed_later _) ?_
    clear hK K hV hsize hkeep hSV hS
    try simp only [Act.put]
    try simp only [pa, List.set]
    refine walk_exit (fun V hV => ?_)
    have hSV := ZS4.out V hV
    try simp only [pa, List.set]
    have ke := HKE16.out.below hV HKE16.out.lt
    have c0 := ke.c0
    have f0 := ke.frozen 0
    have u := upd1 ke 0 (.int .i64 (if (halves ill ⟨s.S, s.n + FULL.length⟩ (putP p key val)).2.isSome then 0 else 4))
    have hrn : Rnd B b ill w W2 r1 r2 rb q r15 g 85 (halves ill ⟨s.S, s.n + FULL.length⟩ (putP p key val)).1 0 #[.int .u64 ax, .bool ay, .string az, .int .u64 au] x16 := ⟨HW16.out, HK116.out, HK216.out, HKB16.out, HKE16.out, HKA16.out, HEG16.out, HSM16.out⟩
    have hqb := HKE.out.lt
    have hbb := HKB.out.lt
    have HN6 : Hid (q ≠ r1 ∧ q ≠ r2 ∧ q ≠ rb ∧ q ≠ r15 ∧ q ≠ g) := Lib.hid ⟨nq1, nq2, fun e => HKE.out.ne_ HKB.out (by decide) e, by have := HR16.out; omega, fun e => HKE.out.ne_ HKG.out (by decide) e⟩
    have hrn := ((hrn.later HB.out HKG.out.lt hV).updE HB.out HKG.out u HQW.out.1 HN6.out)
    obtain ⟨W3, hW3⟩ : ∃ W3, W3 = V.setCell ⟨q, 0, none⟩ (.int .i64 (if (halves ill ⟨s.S, s.n + FULL.length⟩ (putP p key val)).2.isSome then 0 else 4)) := ⟨_, rfl⟩
    rw [← hW3] at hrn
    have HW3 := Lib.hid hW3
    have HRN := Lib.hid hrn
    clear hSV hW3 hrn u ke hqb hbb
    refine wpAnyJ_one (i := 17) (by kernel_rfl) rfl (fun K hK => ?_)
    simp only [List.getElem_toArray, List.getElem_cons_succ, List.getElem_cons_zero]
    go_simp
    refine hK.out _ _ (fun h _ => absurd rfl h) ?_
    clear hK K
    try simp only [pa, List.set]
    refine wpAnyJ_done (by kernel_rfl) ?_ _
    refine calm_n ?_
    rw [← HW3.out]
    have HHV := HPW.out
    obtain ⟨L, hrow, hLl, hLs⟩ := HST.out
    have hL5 : ∀ c ∈ L, c.size = 5 := fun c hc => by
      obtain ⟨i, hi, rfl⟩ := List.getElem_of_mem hc
      exact (hLs i _ _ (List.getElem?_eq_getElem hi) (List.getElem?_eq_getElem (hLl ▸ hi))).size
    have HRL : Hid (RowC W2 g N (L.take N)) := Lib.hid ((steps_row (by rw [HNL.out] at hrow; exact hrow) (by rw [hLl, HNL.out]) hL5).take (Nat.le_succ N))
    have HRA : Hid (w.heap.size ≤ r15 ∧ (r15 ≠ r1 ∧ r15 ≠ r2 ∧ r15 ≠ rb ∧ r15 ≠ q ∧ r15 ≠ g)) := Lib.hid (by have := HR16.out; have := HW.out.size; have := HK1.out.lt; have := HK2.out.lt; have := HKB.out.lt; have := HKE.out.lt; have := HKG.out.lt; omega)
    have HRX : Hid (∀ (i : Nat) c x, L[i]? = some c → FULL[i]? = some x → StepC W2 x c) := Lib.hid hLs
    obtain ⟨D, hD⟩ : ∃ D, D = halves ill ⟨s.S, s.n + FULL.length⟩ (putP p key val) := ⟨_, rfl⟩
    rw [← hD] at HRN HA HHV ⊢
    have HNS : Hid (¬ (s.n < ill ∧ ill ≤ s.n + (FULL.length : Int))) := Lib.hid (by have := HA1.out; omega)
    have HPD : Hid (putW ill key val (FULL.drop N) ⟨s.S, s.n + FULL.length⟩ = D) := Lib.hid (by rw [show N = FULL.length - 1 by have := HNL.out; omega]; exact HHV)
    clear hL5 HHV ZS0 ZS1 ZS2 ZS3 ZS4 HW16 HK116 HK216 HKB16 HKE16 HKA16 HEG16 HSM16 HW11 HK111 HK211 HKB11 HKE11 HEG11 HSM11 HKG11 HKG16 HT15 hr15 lt15 hD hrow hLl hLs SX HSP SP CP CA HP10 ew i1 i2 HK1 HK2 HKB HKE HPW HS2 HST HW HVS
    obtain ⟨er, her⟩ : ∃ er : Int, er = (if D.2.isSome then 0 else 4) := ⟨_, rfl⟩
    rw [← her] at HRN ⊢
    have HER := Lib.hid her
    clear her hrn c0 f0 HW3 hV
    have j1 : (0 : Int) ≤ (N : Int) := by omega
    have j2 : (N : Int) ≤ (cap : Int) := by have := HCAP.out; omega
    have j3 : N ≤ cap := by have := HCAP.out; omega
    have j4 : ¬ cap = 0 := by have := HCAP.out; omega
    go_wp2_with fail
    refine (back_in W3 _ N cap).mono ?_
    rintro e w4 ⟨rfl, hw4⟩
    have hl4 : Later W3 w4 := by rw [hw4]; exact below_new _ _
    have kbs : Blk w4 W3.heap.size 81 #[.slice (some ⟨g, 0, none⟩) N cap] := by rw [hw4]; exact Blk.new _ _ _
    have hs4 : w4.heap.size = W3.heap.size + 1 := by rw [hw4, World.size_alloc]
    obtain ⟨bs, hbs⟩ : ∃ bs, bs = W3.heap.size := ⟨_, rfl⟩
    rw [← hbs] at kbs ⊢
    have hrn4 := HRN.out.later HB.out HKG.out.lt hl4
    have hgb : g < w4.heap.size := by
      have e : Blk w4 g 89 cur := hrn4.row.trans HKG.out
      exact e.lt
    have HBS := Lib.hid hbs
    have HKBS := Lib.hid kbs
    have HRN4 := Lib.hid hrn4
    have HGB := Lib.hid hgb
    have HS4 := Lib.hid hs4
    have HL4 := Lib.hid hl4
    have hrow4 := HRL.out.keep hrn4.row
    have HROW4 := Lib.hid hrow4
    obtain ⟨LN, hLN⟩ : ∃ LN, LN = L.take N := ⟨_, rfl⟩
    rw [← hLN] at HROW4
    have HLN := Lib.hid hLN
    have hn17 : N ≤ 4096 := by omega
    have HSTEP : Hid (∀ x, x < N → ∃ (pp : Pg) (pi : Nat) (A1 : Option Addr) (c1 : Nat) (A2 : Option Addr) (c2 : Nat) (A3 : Option Addr) (c3 : Nat), LN[x]? = some #[.bool pp.leaf, .slice A1 pp.keys.length c1, .slice A2 pp.vals.length c2, .slice A3 pp.kids.length c3, .int .i64 (pi : Nat)] ∧ FULL[x]? = some (pp, pi) ∧ PgA W2 A1 c1 A2 c2 A3 c3 pp) := Lib.hid fun x hx => by
      obtain ⟨y, hy⟩ : ∃ y, FULL[x]? = some y := ⟨_, List.getElem?_eq_getElem (by have := HNL.out; omega)⟩
      obtain ⟨pp, pi⟩ := y
      obtain ⟨c, hc⟩ : ∃ c, LN[x]? = some c := ⟨_, List.getElem?_eq_getElem (by have := HROW4.out.1; omega)⟩
      have hcL : L[x]? = some c := by rw [hLN, List.getElem?_take, if_pos hx] at hc; exact hc
      obtain ⟨A1, c1, A2, c2, A3, c3, rfl, hpa⟩ := HRX.out x c _ hcL hy
      exact ⟨pp, pi, A1, c1, A2, c2, A3, c3, hc, hy, hpa⟩
    have hws4 : w.heap.size ≤ w4.heap.size := hrn4.wr.size
    have HWS4 := Lib.hid hws4
    clear hl4 kbs hs4 hbs hrn4 hgb hw4 hrow4 hLN hws4
    go_wp2_with fail
    refine (wpIn_wide (n := 5)).1 ?_
    refine rangeFunc_down (F := Fence.wide) (fun a' k h => { tmps := ((a'.tmps.setIfInBounds 71 (.int .i64 ((N - 1 - k : Nat) : Int))).setIfInBounds 72 (.agg (LN[N - 1 - k]?.getD #[]))).setIfInBounds 14 (.pointer (some ⟨h, 0, none⟩)), defers := [] })
      (fun k h W => w4.heap.size ≤ h ∧ Blk W h 89 (LN[N - 1 - k]?.getD #[])) rfl (by omega)
      (gf := 63) (lb := #[.pointer (some ⟨bs, 0, none⟩)]) rfl trivial (enters_of Try.func63 (by kernel_rfl) rfl)
      (encs := fun k => #[.int .i64 ((N - 1 - k : Nat) : Int), .agg (LN[N - 1 - k]?.getD #[])]) (Kp := KpB bs g) (N := N)
      (fun l J Jx W hW hY h0 => back1_in Fence.wide (5 - 1) trivial rfl (by omega) l bs g N cap LN hn17 J Jx hY W (HKBS.out.below hW HKBS.out.lt) (HROW4.out.keep ((show Below _ _ _ from hW).block g HGB.out)) h0)
      (fun h k => ⟨k.1.trans h.1, k.2.trans h.2⟩)
      (fun W l o' hl => ⟨World.putObj_heap_other (by have := HKBS.out.lt; omega), World.putObj_heap_other (by have := HGB.out; omega)⟩)
      (fun _ => rfl)
      (fun k W => ∃ s' o er ax ay az au, putW ill key val (FULL.drop (N - k)) ⟨s.S, s.n + FULL.length⟩ = (s', o) ∧ er = (if o.isSome then 0 else 4) ∧ (∀ a, o = some a → #[Value.int .u64 ax, .bool ay, .string az, .int .u64 au] = addedC a) ∧ Rnd B b ill w W2 r1 r2 rb q r15 g 85 s' er #[.int .u64 ax, .bool ay, .string az, .int .u64 au] W ∧ Blk W bs 81 #[.slice (some ⟨g, 0, none⟩) N cap])
      (fun W => ∃ s', putW ill key val FULL ⟨s.S, s.n + FULL.length⟩ = (s', none) ∧ Wr B b ill s' w W ∧ W.cell? ⟨r1, 0, none⟩ = some (.int .u64 0) ∧ W.cell? ⟨r2, 0, none⟩ = some (.int .i64 4))
      ?hI ?hIx ?h0 ?hR ?assign ?body ?done ?stop
    case hI =>
      rintro k X Y row ⟨s', o, er, ax, ay, az, au, h1, h2, h3, h4, h5⟩ hg hr
      exact ⟨s', o, er, ax, ay, az, au, h1, h2, h3, h4.grown HB.out HKG.out hg (fun r e => ⟨by have := (hr r e).1; have := HWS4.out; omega, (hr r e).2⟩), h5.grown hg (blk_row h5 fun r e => (hr r e).2)⟩
    case hIx =>
      rintro X Y row ⟨s', h2, h3, h4, h5⟩ hg hr
      exact ⟨s', h2, h3.grown HB.out hg (fun r e => ⟨by have := (hr r e).1; have := HWS4.out; omega, (hr r e).2⟩), cell_kept h4 hg (fun r e => (hr r e).2), cell_kept h5 hg (fun r e => (hr r e).2)⟩
    case h0 =>
      exact ⟨D.1, D.2, er, ax, ay, az, au, HPD.out, HER.out, HA.out, HRN4.out, HKBS.out⟩
    case hR =>
      intro k h X Y row hs hg hr
      exact ⟨hs.1, hs.2.grown hg (blk_row hs.2 fun r e => (hr r e).2)⟩
    case assign =>
      rintro l k W K hI hkN hK
      obtain ⟨x, hx⟩ : ∃ x, x = N - 1 - k := ⟨_, rfl⟩
      rw [← hx] at hK ⊢
      obtain ⟨pp, pi, A1, c1, A2, c2, A3, c3, hc, hpx, hpa⟩ := HSTEP.out x (by omega)
      rw [hc, Option.getD_some] at hK ⊢
      obtain ⟨s', o, er, ax, ay, az, au, h1, h2, h3, h4, h5⟩ := hI
      have hlY : Later W (W.alloc (.cells #[.bool pp.leaf, .slice A1 pp.keys.length c1, .slice A2 pp.vals.length c2, .slice A3 pp.kids.length c3, .int .i64 (pi : Nat)] 89)) := below_new _ _
      have kg : Blk W g 89 cur := h4.row.trans HKG.out
      have hK' := hK W.heap.size _ ((KeepsOthers.alloc W _).from _) ⟨(show Below _ _ _ from hlY).block bs h5.lt, (show Below _ _ _ from hlY).block g kg.lt⟩
        ⟨s', o, er, ax, ay, az, au, h1, h2, h3, h4.later HB.out HKG.out.lt hlY, h5.below hlY h5.lt⟩ ⟨by have := h5.lt; have := HS4.out; have := HBS.out; omega, Blk.new W 89 #[.bool pp.leaf, .slice A1 pp.keys.length c1, .slice A2 pp.vals.length c2, .slice A3 pp.kids.length c3, .int .i64 (pi : Nat)]⟩
      dsimp only at hK' ⊢
      clear hc hpx hpa hK h1 h2 h3 h4 h5 hlY hx kg
      gi_wp2
      exact hK'
    case body =>
      rintro l k h W ⟨s', o, er, ax, ay, az, au, h1, h2, h3, h4, h5⟩ ⟨hh1, hh2⟩ hkN
      simp only [List.setIfInBounds_toArray, List.set_cons_succ, List.set_cons_zero]
      refine wpIn_block ?_
      have HI4 := Lib.hid h4
      have HI5 := Lib.hid h5
      have HI1 := Lib.hid h1
      have HH1 := Lib.hid hh1
      have HH2 := Lib.hid hh2
      have ce := h4.ke.c0
      cases o with
      | none =>
        replace h2 : er = 4 := h2
        subst h2
        have hpn := putW_none (N - k) (by have := HNL.out; omega) h1
        have HPN := Lib.hid hpn
        have HTW : Hid (Two s'.S) := Lib.hid (by have := Runs.two (s := ⟨s.S, s.n + FULL.length⟩) H2.out HR.out; rw [hpn] at this; exact this)
        clear h1 h3 h4 h5 hh1 hh2 hpn
        gi_wp2
        clear ce
        have HL0 := Lib.hid (Later.refl W)
        have ZF0 : Hid (∀ s, W.heap.size ≤ s → W.heap.size ≤ s) := Lib.hid (fun _ h => h)
        have ZS0 : Hid (∀ V, Later W V → ((fun V => V.cell? ⟨q, 0, none⟩ = some (.int .i64 4))) V) := Lib.hid (fun V hV => (HI4.out.ke.below hV HI4.out.ke.lt).c0)
        refine walk_startR 2 (S := (fun V => V.cell? ⟨q, 0, none⟩ = some (.int .i64 4))) (T := Later W) (by kernel_rfl) (fun r => W.heap.size ≤ r) (fun _ h => h.size) ZS0.out (closed_later _) (Later.refl _).drew (by kernel_rfl) (by rintro ⟨_, _, h⟩; exact h) ?_
        refine wt 0 75 ?_ (fun V hV => ?_) ?_
        rotate_left 1
        · (have ce := id hV; clear hV; go_simp; (try with_reducible rfl))
        try simp only [pa, List.set]
        refine walk_core 1 rfl (by kernel_rfl) (fun _ _ _ _ _ h => h) (fun V hV K hK => ?_)
        have hV0 := HL0.out.trans hV
        have hSV := ZS0.out V hV
        try simp only [List.getElem_toArray, List.getElem_cons_succ, List.getElem_cons_zero]
        have k1 := HI4.out.k1.below hV0 HI4.out.k1.lt
        have c1 := k1.c0
        have f1 := k1.frozen 0
        obtain ⟨x1, hx1⟩ : ∃ x1, x1 = V.setCell ⟨r1, 0, none⟩ (.int .u64 0) := ⟨_, rfl⟩
        go_simp
        rw [← hx1]
        have hsize : V.heap.size ≤ x1.heap.size := by rw [hx1]; simp [World.setCell]
        have hd1 : DKept (fun k => k = r1) V x1 := by rw [hx1]; exact (DKept.refl (S := fun k => k = r1)).set rfl
        have hkeep := fun (r : Nat) (hF : W.heap.size ≤ r) (hl : r < V.heap.size) => hd1.block r hl (fun e => by have := HI4.out.k1.lt; omega)
        have hS := fun V' (h : Later x1 V') => (show V'.cell? ⟨q, 0, none⟩ = some (.int .i64 4) from (((hd1.blk (HI4.out.ke.below hV0 HI4.out.ke.lt) nq1).below h (hd1.blk (HI4.out.ke.below hV0 HI4.out.ke.lt) nq1).lt)).c0)
        have HVX : Hid (∃ V, Later W V ∧ x1 = V.setCell ⟨r1, 0, none⟩ (.int .u64 0)) := Lib.hid ⟨V, hV0, hx1⟩
        clear k1 c1 f1 hx1 hd1
        have ZF1 : Hid (∀ s, x1.heap.size ≤ s → _) := Lib.hid (fun s h => ZF0.out s (Nat.le_trans hV.size (Nat.le_trans hsize h)))
        have ZS1 : Hid (∀ V, Later x1 V → ((fun V => V.cell? ⟨q, 0, none⟩ = some (.int .i64 4))) V) := Lib.hid hS
        refine hK.out _ _ ((fun V => V.cell? ⟨q, 0, none⟩ = some (.int .i64 4))) (Later x1) _ hkeep (fun _ h _ => h) (fun _ h => h) ZS1.out (fun V' h => ZF1.out _ h.size) (Later.refl _) (closed_later _) ?_
        clear hK K hV hsize hkeep hV0 hSV hS
        try simp only [Act.put]
        try simp only [pa, List.set]
        refine walk_exit (fun V hV => ?_)
        have hSV := ZS1.out V hV
        try simp only [pa, List.set]
        obtain ⟨V0, hV0, rfl⟩ := HVX.out
        have hw := (HI4.out.wr.later HB.out hV0).box HTW.out (HI4.out.k1.below hV0 HI4.out.k1.lt) (w' := V0.setCell ⟨r1, 0, none⟩ (.int .u64 0)) ((DKept.refl (S := fun k => k = r1)).set rfl) HQW.out.2.1 HB.out
        have q1 : Blk (V0.setCell ⟨r1, 0, none⟩ (.int .u64 0)) r1 27 #[.int .u64 0] := by have := (HI4.out.k1.below hV0 HI4.out.k1.lt).set_ 0 (.int .u64 0); simpa using this
        have q2 := (HI4.out.k2.below hV0 HI4.out.k2.lt).far (p := ⟨r1, 0, none⟩) n12.symm (.int .u64 0)
        have p1 := q1.below hV q1.lt
        have p2 := q2.below hV q2.lt
        have u := upd1 p2 0 (.int .i64 4)
        have hwV := (hw.later HB.out hV).upd u p2 far_err HQW.out.2.2 HB.out
        have hko : KeepsOthers W (V.setCell ⟨r2, 0, none⟩ (.int .i64 4)) := (((later_others hV0).trans (KeepsOthers.setCell V0 ⟨r1, 0, none⟩ (.int .u64 0))).trans (later_others hV)).trans (KeepsOthers.setCell V ⟨r2, 0, none⟩ (.int .i64 4))
        have c2 := p2.c0
        have f2 := p2.frozen 0
        have x1 := (u.far p1 n12).c0
        have x2 : (V.setCell ⟨r2, 0, none⟩ (.int .i64 4)).cell? ⟨r2, 0, none⟩ = some (.int .i64 4) := by
          have := u.blk
          have this : Blk (V.setCell ⟨r2, 0, none⟩ (.int .i64 4)) r2 28 #[.int .i64 4] := by simpa using this
          exact this.c0
        have FIN : Hid (KeepsOthers W (V.setCell ⟨r2, 0, none⟩ (.int .i64 4)) ∧ Wr B b ill s' w (V.setCell ⟨r2, 0, none⟩ (.int .i64 4)) ∧ (V.setCell ⟨r2, 0, none⟩ (.int .i64 4)).cell? ⟨r1, 0, none⟩ = some (.int .u64 0) ∧ (V.setCell ⟨r2, 0, none⟩ (.int .i64 4)).cell? ⟨r2, 0, none⟩ = some (.int .i64 4)) := Lib.hid ⟨hko, hwV, x1, x2⟩
        clear hw q1 q2 p1 p2 u hwV hko x1 x2 hV hV0 hSV
        refine wpAnyJ_one (i := 2) (by kernel_rfl) rfl (fun K hK => ?_)
        simp only [List.getElem_toArray, List.getElem_cons_succ, List.getElem_cons_zero]
        go_simp
        refine hK.out _ _ (fun h _ => absurd rfl h) ?_
        clear hK K
        try simp only [pa, List.set]
        refine wpAnyJ_done (by kernel_rfl) ?_ _
        gi_wp2
        exact ⟨FIN.out.1.from _, rfl, s', HPN.out, FIN.out.2⟩
      | some a =>
        replace h2 : er = 0 := h2
        subst h2
        obtain ⟨x, hx⟩ : ∃ x, x = N - 1 - k := ⟨_, rfl⟩
        rw [← hx] at HH2 ⊢
        obtain ⟨pp, pi, A1, pc1, A2, pc2, A3, pc3, hc, hpx, hpa⟩ := HSTEP.out x (by omega)
        rw [hc, Option.getD_some] at HH2 ⊢
        have hxk : N - k = x + 1 := by omega
        rw [hxk] at HI1
        obtain ⟨hplf, hpok, hpi, hputs, hpw⟩ := runs_at HR.out hpx (by have := HNL.out; omega) HI1.out
        have hfew := good_few hpok
        obtain ⟨hsv, hsk⟩ : pp.vals = [] ∧ pp.kids.length = pp.keys.length + 1 := by
          rcases good_shape hpok.good with ⟨e, _⟩ | ⟨_, e1, e2⟩
          · rw [hplf] at e; cases e
          · exact ⟨e1, e2⟩
        have hac := h3 _ rfl
        have hpaW := hpa.sm HI4.out.sm
        have HPA := Lib.hid hpaW
        have HPU := Lib.hid hputs
        have HPI : Hid (pi ≤ pp.keys.length ∧ pp.kids.length = pp.keys.length + 1 ∧ pp.keys.length ≤ 1000) := Lib.hid ⟨hpi, hsk, hfew.1⟩
        have HPW := Lib.hid hpw
        have HXK := Lib.hid hxk
        have HAC := Lib.hid hac
        have HXE := Lib.hid hx
        have SF : Hid (∀ V, Later W V → V.cell? ⟨h, 1, none⟩ = some (.slice A1 pp.keys.length pc1) ∧ V.cell? ⟨h, 3, none⟩ = some (.slice A3 pp.kids.length pc3)) := Lib.hid fun V hV => by
          have := HH2.out.below hV HH2.out.lt
          exact ⟨(this.cell 1).trans rfl, (this.cell 3).trans rfl⟩
        clear h1 h3 h4 h5 hh1 hh2 hc hpx hpa hxk hplf hpok hpi hputs hpw hfew hsv hsk hac hpaW hx
        generalize hm1 : pp.keys.length = m1 at *
        generalize hm3 : pp.kids.length = m3 at *
        have HM1 := Lib.hid hm1
        have HM3 := Lib.hid hm3
        clear hm1 hm3
        gi_wp2
        clear ce
        have HL0 := Lib.hid (Later.refl W)
        have ZF0 : Hid (∀ s, W.heap.size ≤ s → W.heap.size ≤ s) := Lib.hid (fun _ h => h)
        have ZS0 : Hid (∀ V, Later W V → (Later W) V) := Lib.hid (fun _ h => h)
        refine walk_startR 10 (S := Later W) (T := Later W) (by kernel_rfl) (fun r => W.heap.size ≤ r) (fun _ h => h.size) ZS0.out (closed_later _) (Later.refl _).drew (by kernel_rfl) (by rintro ⟨_, _, h⟩; exact h) ?_
        refine wt 0 76 ?_ (fun V hV => ?_) ?_
        rotate_left 1
        · (clear hV; go_simp; (try with_reducible rfl))
        try simp only [pa, List.set]
        refine wt 1 77 ?_ (fun V hV => ?_) ?_
        rotate_left 1
        · (clear hV; go_simp; (try with_reducible rfl))
        try simp only [pa, List.set]
        refine wt 2 78 ?_ (fun V hV => ?_) ?_
        rotate_left 1
        · (obtain ⟨z1, z3⟩ := SF.out V (HL0.out.trans hV); clear hV; go_simp; (try with_reducible rfl))
        try simp only [pa, List.set]
        refine wt 4 80 ?_ (fun V hV => ?_) ?_
        rotate_left 1
        · (clear hV; go_simp; (try with_reducible rfl))
        try simp only [pa, List.set]
        refine wt 5 81 ?_ (fun V hV => ?_) ?_
        rotate_left 1
        · (clear hV; go_simp; (try with_reducible rfl))
        try simp only [pa, List.set]
        refine wt 6 82 ?_ (fun V hV => ?_) ?_
        rotate_left 1
        · (obtain ⟨z1, z3⟩ := SF.out V (HL0.out.trans hV); clear hV; go_simp; (try with_reducible rfl))
        try simp only [pa, List.set]
        refine walk_pend ⟨9, 15, (.cells #[.bool false, .slice none 0 0, .slice none 0 0, .slice none 0 0] 54), fun r => .pointer (some ⟨r, 0, none⟩)⟩ ⟨_, rfl, rfl, rfl, fun W => ?_⟩ ?_
        · (go_simp; (try with_reducible rfl))
        refine walk_core 3 rfl (by kernel_rfl) (fun _ _ _ _ _ h => h) (fun V hV K hK => ?_)
        have hV0 := HL0.out.trans hV
        go_simp
        go_at_call 34
        rw [← HM1.out]
        refine (cloneS (HPA.out.k.smS (Sm.later hV0)) (by have := HPI.out; have := HM1.out; omega)).mono ?_
        rintro e x3 ⟨v3, rfl, ho3, hb⟩
        obtain ⟨E1, e1, rfl⟩ := own_shape ho3
        have HO3 : Hid (x3.ownsRow W.heap.size 9 1 (.slice E1 pp.keys.length e1) pp.keys.length (pp.keys.map Value.string)) := Lib.hid (own_base ho3 (show Below _ _ _ from hV0).size)
        clear ho3
        have HT3 := Lib.hid (hV.of hb)
        have HL1 := Lib.hid (hV0.of hb)
        have hsize := hb.size
        have hkeep := fun (r : Nat) (_ : True) (h : r < V.heap.size) => hb.block r h
        have ZF1 : Hid (∀ s, x3.heap.size ≤ s → _) := Lib.hid (fun s h => ZF0.out s (Nat.le_trans hV.size (Nat.le_trans hsize h)))
        refine hK.out _ _ (Later x3) (Later x3) _ (fun r _ h => hkeep r trivial h) (fun _ h _ => h) (fun V' h => (hV.of hb).trans h) (fun _ h => h) (fun V' h => ZF1.out _ h.size) (Later.refl _) (closed_later _) ?_
        clear hK K hV hsize hkeep hV0 hb
        try simp only [pa, List.set]
        refine walk_core 7 rfl (by kernel_rfl) (fun _ _ _ _ _ h => h) (fun V hV K hK => ?_)
        have hV0 := HL1.out.trans hV
        go_simp
        go_at_call 35
        rw [← HM3.out]
        refine (cloneN (HPA.out.n.smN (Sm.later hV0)) (by have := HPI.out; have := HM3.out; omega)).mono ?_
        rintro e x7 ⟨v7, rfl, ho7, hb⟩
        obtain ⟨E3, e3, rfl⟩ := own_shape ho7
        have HO7 : Hid (x7.ownsRow W.heap.size 27 1 (.slice E3 pp.kids.length e3) pp.kids.length (pp.kids.map (Value.int .u64))) := Lib.hid (own_base ho7 (show Below _ _ _ from hV0).size)
        clear ho7
        have HT7 := Lib.hid (hV.of hb)
        have HL2 := Lib.hid (hV0.of hb)
        have hsize := hb.size
        have hkeep := fun (r : Nat) (_ : True) (h : r < V.heap.size) => hb.block r h
        have ZF2 : Hid (∀ s, x7.heap.size ≤ s → _) := Lib.hid (fun s h => ZF1.out s (Nat.le_trans hV.size (Nat.le_trans hsize h)))
        refine hK.out _ _ (Later x7) (Later x7) _ (fun r _ h => hkeep r trivial h) (fun _ h _ => h) (fun V' h => (hV.of hb).trans h) (fun _ h => h) (fun V' h => ZF2.out _ h.size) (Later.refl _) (closed_later _) ?_
        clear hK K hV hsize hkeep hV0 hb
        try simp only [pa, List.set]
        refine wt 8 84 ?_ (fun V hV => ?_) ?_
        rotate_left 1
        · (clear hV; go_simp; (try with_reducible rfl))
        try simp only [pa, List.set]
        refine walk_force (by kernel_rfl) (by kernel_rfl) (by kernel_rfl) (by kernel_rfl) (fun r9 x9 hV hr9 hB9 => ?_)
        have lt9 : r9 < x9.heap.size := (Array.getElem?_eq_some_iff.1 hr9).1
        have HL3 := Lib.hid (HL2.out.trans hV)
        have ZF3 : Hid (∀ s, x9.heap.size ≤ s → _ ∧ s ≠ r9) := Lib.hid (fun s h => ⟨ZF2.out s (Nat.le_trans hV.size h), Nat.ne_of_gt (Nat.lt_of_lt_of_le lt9 h)⟩)
        refine ⟨Later x9, Later x9, Later.refl _, fun V' h => hV.trans h, fun _ h => h, fun V' h => ZF2.out _ (Nat.le_trans hV.size h.size), fun V' h => Nat.lt_of_lt_of_le lt9 h.size, closed_later _, ?_⟩
        try simp only [pa, List.set]
        have HT9 := Lib.hid hV
        clear hV
        refine walk_exit (fun V hV => ?_)
        have hV0 := HL3.out.trans hV
        try simp only [pa, List.set]
        have kr : Blk V r9 54 #[.bool false, .slice none 0 0, .slice none 0 0, .slice none 0 0] := Blk.below (show Blk x9 r9 _ _ from hr9) hV lt9
        have h7V : Later x7 V := HT9.out.trans hV
        have o1 := own_later HO3.out (HT7.out.trans h7V)
        have o3 := own_later HO7.out h7V
        obtain ⟨z0, z1, z2, z3⟩ := cells4 kr
        obtain ⟨f0, f1, f2, f3⟩ := frozen4 kr
        have u := upd4 kr (.bool false) (.slice E1 pp.keys.length e1) (.slice none 0 0) (.slice E3 pp.kids.length e3)
        obtain ⟨W5, hW5⟩ : ∃ W5, W5 = ((((V.setCell ⟨r9, 0, none⟩ (.bool false)).setCell ⟨r9, 1, none⟩ (.slice E1 pp.keys.length e1)).setCell ⟨r9, 2, none⟩ (.slice none 0 0)).setCell ⟨r9, 3, none⟩ (.slice E3 pp.kids.length e3)) := ⟨_, rfl⟩
        rw [← hW5] at u
        have hl5 : Later W W5 := u.below hV0 hB9 (Nat.le_refl _)
        have HP5 := Lib.hid u.blk
        have HO1 := Lib.hid (own_upd o1 u (own_blk o1 kr (by decide)))
        have o35 := own_upd o3 u (own_blk o3 kr (by decide))
        obtain ⟨g3, cs3, hE3, hg3, kg3, ⟨u3, hu3⟩, ho36⟩ := own_setN o35 (i := pi) (by have := HPI.out; have := HM3.out; omega) a.n
        subst hE3
        have HR9 : Hid (W.heap.size ≤ r9) := Lib.hid hB9
        have HL5 := Lib.hid hl5
        have HW5 := Lib.hid hW5
        have HO36 := Lib.hid ho36
        have HG3 := Lib.hid (And.intro hg3 kg3)
        have HU3 := Lib.hid hu3
        rw [HM1.out, HM3.out] at hW5 HW5 HP5
        clear hV hV0 kr h7V o1 o3 u hW5 hl5 o35 hg3 kg3 hu3 ho36
        rw [HM1.out, HM3.out]
        refine wpAnyJ_one (i := 10) (by kernel_rfl) rfl (fun K hK => ?_)
        simp only [List.getElem_toArray, List.getElem_cons_succ, List.getElem_cons_zero]
        go_simp
        refine hK.out _ _ (fun h _ => absurd rfl h) ?_
        clear hK K
        try simp only [pa, List.set]
        refine wpAnyJ_done (by kernel_rfl) ?_ _
        rw [← HW5.out]
        clear z0 z1 z2 z3 f0 f1 f2 f3
        obtain ⟨z0, z1, z2, z3⟩ := cells4 HP5.out
        have kh := HH2.out.below HL5.out HH2.out.lt
        have y4 : W5.cell? ⟨h, 4, none⟩ = some (.int .i64 (pi : Nat)) := (kh.cell 4).trans rfl
        have ka := HI4.out.ka.below HL5.out HI4.out.ka.lt
        rw [HAC.out] at ka
        unfold addedC at ka
        have a0 : W5.cell? ⟨r15, 0, none⟩ = some (.int .u64 a.n) := (ka.cell 0).trans rfl
        have fg := HG3.out.2.frozen pi
        have hu3 := HU3.out
        have b1 : (0 : Int) ≤ (pi : Int) := by omega
        have b2 : (pi : Int) < (m3 : Int) := by have := HPI.out; omega
        obtain ⟨W6, hW6⟩ : ∃ W6, W6 = W5.setCell ⟨g3, pi, none⟩ (.int .u64 a.n) := ⟨_, rfl⟩
        have HO36b : Hid (W6.ownsRow W.heap.size 27 1 (.slice (some ⟨g3, 0, none⟩) m3 e3) m3 ((pp.kids.set pi a.n).map (Value.int .u64))) := Lib.hid (by
          have := HO36.out
          rw [HM3.out, ← hW6] at this
          exact this)
        have hl6 : Later W W6 := by rw [hW6]; exact (HL5.out).setCell (p := ⟨g3, pi, none⟩) HG3.out.1 _
        have HL6 := Lib.hid hl6
        have n93 : r9 ≠ g3 := fun e => HP5.out.ne_ HG3.out.2 (by decide) e
        have HP6 : Hid (Blk W6 r9 54 #[.bool false, .slice E1 m1 e1, .slice none 0 0, .slice (some ⟨g3, 0, none⟩) m3 e3]) := Lib.hid (by rw [hW6]; exact HP5.out.far (p := ⟨g3, pi, none⟩) n93 _)
        have HO16 : Hid (W6.ownsRow W.heap.size 9 1 (.slice E1 m1 e1) m1 (pp.keys.map Value.string)) := Lib.hid (by
          have := own_far (p := ⟨g3, pi, none⟩) HO1.out (own_blk HO1.out HG3.out.2 (by decide)) (.int .u64 a.n)
          rw [HM1.out, ← hW6] at this
          exact this)
        have HW6 := Lib.hid hW6
        have a1 : W5.cell? ⟨r15, 1, none⟩ = some (.bool a.sp.isSome) := (ka.cell 1).trans rfl
        have a2 : W5.cell? ⟨r15, 2, none⟩ = some (.string (match a.sp with | some (k, _) => k | none => ⟨#[]⟩)) := (ka.cell 2).trans rfl
        have a3 : W5.cell? ⟨r15, 3, none⟩ = some (.int .u64 (match a.sp with | some (_, o) => o | none => 0)) := (ka.cell 3).trans rfl
        have kb5 := HI4.out.kb.below HL5.out HI4.out.kb.lt
        have crb := kb5.c0
        have nr3 : r15 ≠ g3 := fun e => ka.ne_ HG3.out.2 (by decide) e
        have nb3 : rb ≠ g3 := fun e => kb5.ne_ HG3.out.2 (by decide) e
        have nh3 : h ≠ g3 := fun e => kh.ne_ HG3.out.2 (by decide) e
        clear kh ka hW6 hl6 kb5
        obtain ⟨vW, hshW⟩ := HI4.out.wr.sh
        have HSHW := Lib.hid hshW
        clear hshW
        obtain ⟨an, asp⟩ := a
        dsimp only at *
        cases asp with
        | none =>
          have hupd : updP pp pi ⟨an, none⟩ = ⟨false, pp.keys, [], pp.kids.set pi an⟩ := rfl
          have CAD : Hid (Calls Try.prog 31 #[shV b, .agg #[.bool false, .slice E1 m1 e1, .slice none 0 0, .slice (some ⟨g3, 0, none⟩) m3 e3]] W6 (AddPost B b ill s' vW (updP pp pi ⟨an, none⟩) W6)) := Lib.hid (by
            have hp := HPU.out
            refine add_any (HSHW.out.later HL6.out) (by have := HB.out; have := HI4.out.wr.size; have := (show Below _ _ _ from HL6.out).size; omega) hp.n0 hp.n1 hp.len ?_ hp.ok
            rw [hupd]
            obtain ⟨X1, y1, e1', r1⟩ := Row.of_own (by have := HO16.out; rw [← HM1.out] at this; exact this)
            obtain ⟨X3, y3, e3', r3⟩ := Row.of_own (l := pp.kids.set pi an) (by have := HO36b.out; rw [List.length_set, HM3.out]; exact this)
            refine ⟨E1, e1, none, 0, some ⟨g3, 0, none⟩, e3, ?_, ?_, Row.nil _ _ (by unfold maxLen; omega), ?_⟩
            · unfold pgc; rw [List.length_set, HM1.out, HM3.out]; rfl
            · cases e1'; exact r1
            · rw [List.length_set, HM3.out] at e3'; cases e3'; exact r3)
          unfold shV at CAD
          gi_wp2
          rw [← HW6.out]
          refine ⟨trivial, (CallsIn.inRound l (callsIn_wide.2 CAD.out)).mono ?_⟩
          rintro e w7 ⟨⟨bx, bY, bz, bu, rfl, hb7⟩, hw7, _⟩
          have h7 := (HI4.out.later HB.out HKG.out.lt HL6.out).wrote HKG.out far_added hw7
          have ka7 := h7.ka
          obtain ⟨c0, c1, c2, c3⟩ := cells4 ka7
          obtain ⟨f0, f1, f2, f3⟩ := frozen4 ka7
          obtain ⟨D7, hD7⟩ : ∃ D7, D7 = halves ill s' (updP pp pi ⟨an, none⟩) := ⟨_, rfl⟩
          rw [← hD7] at hb7 hw7 ⊢
          obtain ⟨er7, her7⟩ : ∃ er7 : Int, er7 = (if D7.2.isSome then 0 else 4) := ⟨_, rfl⟩
          rw [← her7]
          have u8 := upd4 ka7 (.int .u64 bx) (.bool bY) (.string bz) (.int .u64 bu)
          obtain ⟨W8, hW8⟩ : ∃ W8, W8 = ((((w7.setCell ⟨r15, 0, none⟩ (.int .u64 bx)).setCell ⟨r15, 1, none⟩ (.bool bY)).setCell ⟨r15, 2, none⟩ (.string bz)).setCell ⟨r15, 3, none⟩ (.int .u64 bu)) := ⟨_, rfl⟩
          rw [← hW8] at u8
          have hq8 := u8.far h7.ke HN6.out.2.2.2.1
          have u9 := upd1 hq8 0 (.int .i64 er7)
          obtain ⟨W9, hW9⟩ : ∃ W9, W9 = W8.setCell ⟨q, 0, none⟩ (.int .i64 er7) := ⟨_, rfl⟩
          rw [← hW9] at u9
          have HT := Lib.hid (HI4.out.tail HB.out HKG.out far_added (by decide) HL6.out hw7 HI5.out u8 (er' := er7) (by simpa using u9) HRA.out.1 HQW.out.1 HRA.out.2 HN6.out)
          have cq := h7.ke.c0
          have fq := h7.ke.frozen 0
          have nqr := HN6.out.2.2.2.1
          have HB7 := Lib.hid hb7
          have HE7 := Lib.hid her7
          have HD7 := Lib.hid hD7
          have HW8 := Lib.hid hW8
          have HW9 := Lib.hid hW9
          clear h7 ka7 hb7 hw7 hD7 her7 u8 hW8 hq8 u9 hW9
          gi_wp2
          rw [← HW8.out, ← HW9.out]
          refine ⟨HT.out.2.oth.from _, HT.out.2.kp, D7.1, D7.2, er7, bx, bY, bz, bu, ?_, HE7.out, HB7.out, HT.out.1, HT.out.2.kbs⟩
          rw [show N - (k + 1) = x by have := HXK.out; omega, HPW.out, HD7.out]
        | some ko =>
          obtain ⟨kk, oo⟩ := ko
          dsimp only at *
          obtain ⟨W7, hW7⟩ : ∃ W7, W7 = W6.alloc (.cells #[.string kk] 9) := ⟨_, rfl⟩
          have hl67 : Later W6 W7 := by rw [hW7]; exact below_new _ _
          have hs6 : W6.heap.size = W5.heap.size := by rw [HW6.out]; simp [World.setCell]
          have hl7 : Later W W7 := HL6.out.trans hl67
          have CI1 : Hid (Calls Try.prog 36 #[.slice E1 m1 e1, .int .i64 (pi : Int), .slice (some ⟨W5.heap.size, 0, none⟩) 1 1] W7 (RowL Value.string W.heap.size 9 W7 (.slice E1 m1 e1) (pp.keys.take pi ++ [kk] ++ pp.keys.drop pi))) := Lib.hid (by
            have ho := own_later HO16.out hl67
            have hne : (Value.slice E1 m1 e1).ownBlock ≠ some W5.heap.size := fun e => by have := (HO16.out.lt _ e).2; omega
            rw [← HM1.out] at ho hne ⊢
            exact insLS kk ho (show Below _ _ _ from hl7).size (by have := HPI.out; have := HM1.out; omega) (by have := HPI.out; have := HM1.out; omega) (by rw [hW7, ← hs6]; exact Blk.new _ _ _) hne)
          have HW7 := Lib.hid hW7
          have HL7 := Lib.hid hl7
          have HL67 := Lib.hid hl67
          clear hW7 hl67 hs6 hl7
          gi_wp2
          rw [← HW6.out, ← HW7.out]
          refine ⟨trivial, (CallsIn.inRound l (callsIn_wide.2 CI1.out)).mono ?_⟩
          rintro e w8 ⟨A8, c8, rfl, ho8, hk8, hn8⟩
          have hle : (pp.keys.take pi ++ [kk] ++ pp.keys.drop pi).length = m1 + 1 := by
            have := HPI.out; have := HM1.out
            simp only [List.length_append, List.length_take, List.length_drop, List.length_singleton]; omega
          rw [hle] at ho8 hn8 ⊢
          have ho16 := own_later HO16.out HL67.out
          have ho36 := own_later HO36b.out HL67.out
          have hl8 : Later W w8 := (show Below W.heap.size W W7 from HL7.out).trans (hk8.below (show Below _ _ _ from HL7.out).size fun i hi => (HO16.out.lt i hi).1)
          have p7 := HP6.out.below HL67.out HP6.out.lt
          have p8 := hk8.blk p7 (fun e => own_blk ho16 p7 (by decide) e)
          have o38 := own_kept ho36 hk8 (fun gg hg e => own_ne ho16 ho36 (by decide) e hg)
          have u9 := upd1 p8 1 (.slice A8 (m1 + 1) c8)
          obtain ⟨W9, hW9⟩ : ∃ W9, W9 = w8.setCell ⟨r9, 1, none⟩ (.slice A8 (m1 + 1) c8) := ⟨_, rfl⟩
          rw [← hW9] at u9
          have p9 : Blk W9 r9 54 #[.bool false, .slice A8 (m1 + 1) c8, .slice none 0 0, .slice (some ⟨g3, 0, none⟩) m3 e3] := by simpa using u9.blk
          have o19 := own_upd ho8 u9 (own_blk ho8 p8 (by decide))
          have o39 := own_upd o38 u9 (own_blk o38 p8 (by decide))
          have hl9 : Later W W9 := u9.below hl8 HR9.out (Nat.le_refl _)
          have hs9 : W9.heap.size = w8.heap.size := u9.size
          obtain ⟨W10, hW10⟩ : ∃ W10, W10 = W9.alloc (.cells #[.int .u64 oo] 27) := ⟨_, rfl⟩
          have hl910 : Later W9 W10 := by rw [hW10]; exact below_new _ _
          have CI2 : Hid (Calls Try.prog 37 #[.slice (some ⟨g3, 0, none⟩) m3 e3, .int .i64 ((pi : Int) + 1), .slice (some ⟨w8.heap.size, 0, none⟩) 1 1] W10 (RowL (Value.int .u64) W.heap.size 27 W10 (.slice (some ⟨g3, 0, none⟩) m3 e3) ((pp.kids.set pi an).take (pi + 1) ++ [oo] ++ (pp.kids.set pi an).drop (pi + 1)))) := Lib.hid (by
            have ho := own_later o39 hl910
            have hne : (Value.slice (some ⟨g3, 0, none⟩) m3 e3).ownBlock ≠ some w8.heap.size := fun e => by have := (o39.lt _ e).2; omega
            have hlk : (pp.kids.set pi an).length = m3 := by rw [List.length_set]; exact HM3.out
            have := insLN (w := W10) (B := W.heap.size) (A := some ⟨g3, 0, none⟩) (c := e3) (i := pi + 1) (k := w8.heap.size) (l := pp.kids.set pi an) oo (by rw [hlk]; exact ho) (show Below _ _ _ from hl9.trans hl910).size (by have := HPI.out; omega) (by have := HPI.out; omega) (by rw [hW10, ← hs9]; exact Blk.new _ _ _) (by rw [hlk]; exact hne)
            rw [hlk] at this
            simpa only [Int.natCast_add, Int.natCast_one] using this)
          have kh8 := HH2.out.below hl8 HH2.out.lt
          have ka8 := HI4.out.ka.below hl8 HI4.out.ka.lt
          rw [HAC.out] at ka8
          unfold addedC at ka8
          have y48 : w8.cell? ⟨h, 4, none⟩ = some (.int .i64 (pi : Nat)) := (kh8.cell 4).trans rfl
          have a38 : w8.cell? ⟨r15, 3, none⟩ = some (.int .u64 oo) := (ka8.cell 3).trans rfl
          obtain ⟨s0, s1, s2, s3⟩ := cells4 p8
          have t1 := p8.frozen 1
          have nh9 : h ≠ r9 := fun e => kh8.ne_ p8 (by decide) e
          have nr9 : r15 ≠ r9 := fun e => ka8.ne_ p8 (by decide) e
          have ewp : IntKind.i64.wrap ((pi : Int) + 1) = (pi : Int) + 1 := IntWalk.i64_in _ (by have := HPI.out; omega)
          have HP9 := Lib.hid p9
          have HO19 := Lib.hid o19
          have HO39 := Lib.hid o39
          have HL9 := Lib.hid hl9
          have HW9 := Lib.hid hW9
          have HW10 := Lib.hid hW10
          have HL910 := Lib.hid hl910
          have HLE := Lib.hid hle
          clear ho8 hk8 hn8 hle ho16 ho36 hl8 p7 p8 o38 u9 hW9 p9 o19 o39 hl9 hs9 hW10 hl910 kh8 ka8 CI1
          clear z0 z1 z2 z3 y4 a0 a1 a2 a3 fg hu3 crb
          gi_wp2
          rw [← HW9.out, ← HW10.out]
          refine ⟨trivial, (CallsIn.inRound l (callsIn_wide.2 CI2.out)).mono ?_⟩
          rintro e w11 ⟨A11, c11, rfl, ho11, hk11, hn11⟩
          have hle : ((pp.kids.set pi an).take (pi + 1) ++ [oo] ++ (pp.kids.set pi an).drop (pi + 1)).length = m3 + 1 := by
            have := HPI.out; have := HM3.out
            simp only [List.length_append, List.length_take, List.length_drop, List.length_singleton, List.length_set]; omega
          rw [hle] at ho11 hn11 ⊢
          have ho19 := own_later HO19.out HL910.out
          have ho39 := own_later HO39.out HL910.out
          have hl10 : Later W W10 := HL9.out.trans HL910.out
          have hl11 : Later W w11 := (show Below W.heap.size W W10 from hl10).trans (hk11.below (show Below _ _ _ from hl10).size fun i hi => (HO39.out.lt i hi).1)
          have p10 := HP9.out.below HL910.out HP9.out.lt
          have p11 := hk11.blk p10 (fun e => own_blk ho39 p10 (by decide) e)
          have o111 := own_kept ho19 hk11 (fun gg hg e => own_ne ho19 ho39 (by decide) hg e)
          have u12 := upd1 p11 3 (.slice A11 (m3 + 1) c11)
          obtain ⟨W12, hW12⟩ : ∃ W12, W12 = w11.setCell ⟨r9, 3, none⟩ (.slice A11 (m3 + 1) c11) := ⟨_, rfl⟩
          rw [← hW12] at u12
          have o112 := own_upd o111 u12 (own_blk o111 p11 (by decide))
          have o312 := own_upd ho11 u12 (own_blk ho11 p11 (by decide))
          have hl12 : Later W W12 := u12.below hl11 HR9.out (Nat.le_refl _)
          have hupd : updP pp pi ⟨an, some (kk, oo)⟩ = ⟨false, pp.keys.take pi ++ [kk] ++ pp.keys.drop pi, [], (pp.kids.set pi an).take (pi + 1) ++ [oo] ++ (pp.kids.set pi an).drop (pi + 1)⟩ := rfl
          have CAD : Hid (Calls Try.prog 31 #[shV b, .agg #[.bool false, .slice A8 (m1 + 1) c8, .slice none 0 0, .slice A11 (m3 + 1) c11]] W12 (AddPost B b ill s' vW (updP pp pi ⟨an, some (kk, oo)⟩) W12)) := Lib.hid (by
            have hp := HPU.out
            refine add_any (HSHW.out.later hl12) (by have := HB.out; have := HI4.out.wr.size; have := (show Below _ _ _ from hl12).size; omega) hp.n0 hp.n1 hp.len ?_ hp.ok
            rw [hupd]
            obtain ⟨X1, y1, e1', r1⟩ := Row.of_own (l := pp.keys.take pi ++ [kk] ++ pp.keys.drop pi) (by rw [HLE.out]; exact o112)
            obtain ⟨X3, y3, e3', r3⟩ := Row.of_own (l := (pp.kids.set pi an).take (pi + 1) ++ [oo] ++ (pp.kids.set pi an).drop (pi + 1)) (by rw [hle]; exact o312)
            refine ⟨A8, c8, none, 0, A11, c11, ?_, ?_, Row.nil _ _ (by unfold maxLen; omega), ?_⟩
            · unfold pgc; dsimp only; rw [HLE.out, hle]; rfl
            · rw [HLE.out] at e1'; cases e1'; exact r1
            · rw [hle] at e3'; cases e3'; exact r3)
          unfold shV at CAD
          obtain ⟨s0, s1, s2, s3⟩ := cells4 p11
          have t3 := p11.frozen 3
          have kb11 := HI4.out.kb.below hl11 HI4.out.kb.lt
          have crb := kb11.c0
          have nb9 : rb ≠ r9 := fun e => kb11.ne_ p11 (by decide) e
          have HL12 := Lib.hid hl12
          have HW12 := Lib.hid hW12
          clear ho11 hk11 hn11 hle ho19 ho39 hl10 hl11 p10 p11 o111 u12 hW12 o112 o312 hl12 hupd kb11 CI2
          gi_wp2
          rw [← HW12.out]
          refine ⟨trivial, (CallsIn.inRound l (callsIn_wide.2 CAD.out)).mono ?_⟩
          rintro e w7 ⟨⟨bx, bY, bz, bu, rfl, hb7⟩, hw7, _⟩
          have h7 := (HI4.out.later HB.out HKG.out.lt HL12.out).wrote HKG.out far_added hw7
          have ka7 := h7.ka
          obtain ⟨c0, c1, c2, c3⟩ := cells4 ka7
          obtain ⟨f0, f1, f2, f3⟩ := frozen4 ka7
          obtain ⟨D7, hD7⟩ : ∃ D7, D7 = halves ill s' (updP pp pi ⟨an, some (kk, oo)⟩) := ⟨_, rfl⟩
          rw [← hD7] at hb7 hw7 ⊢
          obtain ⟨er7, her7⟩ : ∃ er7 : Int, er7 = (if D7.2.isSome then 0 else 4) := ⟨_, rfl⟩
          rw [← her7]
          have u8 := upd4 ka7 (.int .u64 bx) (.bool bY) (.string bz) (.int .u64 bu)
          obtain ⟨W8, hW8⟩ : ∃ W8, W8 = ((((w7.setCell ⟨r15, 0, none⟩ (.int .u64 bx)).setCell ⟨r15, 1, none⟩ (.bool bY)).setCell ⟨r15, 2, none⟩ (.string bz)).setCell ⟨r15, 3, none⟩ (.int .u64 bu)) := ⟨_, rfl⟩
          rw [← hW8] at u8
          have hq8 := u8.far h7.ke HN6.out.2.2.2.1
          have u9 := upd1 hq8 0 (.int .i64 er7)
          obtain ⟨W9, hW9⟩ : ∃ W9, W9 = W8.setCell ⟨q, 0, none⟩ (.int .i64 er7) := ⟨_, rfl⟩
          rw [← hW9] at u9
          have HT := Lib.hid (HI4.out.tail HB.out HKG.out far_added (by decide) HL12.out hw7 HI5.out u8 (er' := er7) (by simpa using u9) HRA.out.1 HQW.out.1 HRA.out.2 HN6.out)
          have cq := h7.ke.c0
          have fq := h7.ke.frozen 0
          have nqr := HN6.out.2.2.2.1
          have HB7 := Lib.hid hb7
          have HE7 := Lib.hid her7
          have HD7 := Lib.hid hD7
          have HW8 := Lib.hid hW8
          have HW9 := Lib.hid hW9
          clear h7 ka7 hb7 hw7 hD7 her7 u8 hW8 hq8 u9 hW9
          gi_wp2
          rw [← HW8.out, ← HW9.out]
          refine ⟨HT.out.2.oth.from _, HT.out.2.kp, D7.1, D7.2, er7, bx, bY, bz, bu, ?_, HE7.out, HB7.out, HT.out.1, HT.out.2.kbs⟩
          rw [show N - (k + 1) = x by have := HXK.out; omega, HPW.out, HD7.out]
    case done =>
      rintro DD W hD ⟨s', o, er, ax, ay, az, au, h1, h2, h3, h4, h5⟩ hDD
      rw [Nat.sub_self, List.drop_zero] at h1
      have hns := HNS.out
      have HDD := Lib.hid hDD
      have HDW : Hid (w.heap.size ≤ DD) := Lib.hid (by have := HWS4.out; omega)
      have HTW : Hid (Two s'.S) := Lib.hid (by have := Runs.two (s := ⟨s.S, s.n + FULL.length⟩) H2.out HR.out; rw [h1] at this; exact this)
      have HRNW := Lib.hid h4
      have k1 := h4.k1
      have k2 := h4.k2
      have k3 := h4.ke
      have ce := k3.c0
      have c1 := k1.c0
      have c2 := k2.c0
      have f1 := k1.frozen 0
      have f2 := k2.frozen 0
      have g3 := n12
      have g4 := nq1
      have g5 := nq2
      have hdn : DD ≠ r1 ∧ DD ≠ r2 := ⟨fun e => (by
        rw [e] at hDD
        have := hDD.symm.trans k1; cases this), fun e => (by
        rw [e] at hDD
        have := hDD.symm.trans k2; cases this)⟩
      cases o with
      | none =>
        replace h2 : er = 4 := h2
        subst h2
        have hput : putT ill key val root FULL s = (s', 0, 4) := by
          unfold putT; rw [if_neg HROOT.out, if_neg hns, h1]
        have HPUT := Lib.hid hput
        clear h1 h3 h4 h5 hns k1 k2 k3 hput hDD
        go_wp2_with fail
        go_region
        go_wp2_with fail
        obtain ⟨d0, hw, y1, y2⟩ := exit_defer HRNW.out.wr HTW.out HRNW.out.k1 HRNW.out.k2 HQW.out.2.1 HQW.out.2.2 HB.out HDW.out HDD.out (later_drewN _ 1)
        refine ⟨by simp, .inl ⟨_, _, rfl, run_takeDeferred d0, ?_⟩⟩
        refine ⟨_, results_put _ _ r1 r2 0 4 rfl rfl y1 y2, ?_⟩
        rw [HPUT.out]
        exact ⟨rfl, hw⟩
      | some a =>
        replace h2 : er = 0 := h2
        subst h2
        obtain ⟨an, asp⟩ := a
        have hac := h3 _ rfl
        obtain ⟨jn0, jn1, jln⟩ := HJ.out s' _ h1
        have q := h4.ka
        rw [hac] at q
        unfold addedC at q
        cases asp with
        | none =>
          obtain ⟨q0, q1, q2, q3⟩ := cells4 q
          dsimp only at q0 q1 q2 q3
          have hput : putT ill key val root FULL s = (s', an, 0) := by
            unfold putT; rw [if_neg HROOT.out, if_neg hns, h1]
          have HPUT := Lib.hid hput
          clear h1 h3 h4 h5 hns k1 k2 k3 hput hDD hac q
          go_wp2_with fail
          obtain ⟨d0, hw, y1, y2⟩ := exit_defer HRNW.out.wr HTW.out HRNW.out.k1 HRNW.out.k2 HQW.out.2.1 HQW.out.2.2 HB.out HDW.out HDD.out (Below.refl _ _)
          refine ⟨by simp, .inl ⟨_, _, rfl, run_takeDeferred d0, ?_⟩⟩
          refine ⟨_, results_put _ _ r1 r2 an 0 rfl rfl y1 y2, ?_⟩
          rw [HPUT.out]
          exact ⟨rfl, hw⟩
        | some ko =>
          obtain ⟨kk, oo⟩ := ko
          obtain ⟨q0, q1, q2, q3⟩ := cells4 q
          dsimp only at q0 q1 q2 q3
          obtain ⟨vW, hshW⟩ := HRNW.out.wr.sh
          obtain ⟨W6, hW6⟩ : ∃ W6, W6 = (W.alloc (.cells #[.string kk] 9)).alloc (.cells #[.int .u64 an, .int .u64 oo] 27) := ⟨_, rfl⟩
          have hl6 : Later W W6 := by rw [hW6]; exact (below_new _ _).alloc (by simp) _
          have p1 : Blk W6 W.heap.size 9 #[.string kk] := by rw [hW6]; exact (Blk.new _ _ _).alloc _
          have p2 : Blk W6 (W.heap.size + 1) 27 #[.int .u64 an, .int .u64 oo] := by
            rw [hW6]
            have := Blk.new (W.alloc (.cells #[.string kk] 9)) 27 #[.int .u64 an, .int .u64 oo]
            rwa [World.size_alloc] at this
          have hpv : PgV W6 #[.bool false, .slice (some ⟨W.heap.size, 0, none⟩) 1 1, .slice none 0 0, .slice (some ⟨W.heap.size + 1, 0, none⟩) 2 2] (rootP kk an oo) := ⟨_, _, none, 0, _, _, rfl, ⟨Nat.le_refl _, by unfold maxLen; omega, fun _ => ⟨_, 0, _, rfl, p1, fun j x hx => by
              match j, hx with
              | 0, hx => cases hx; rfl
              | j + 1, hx => simp [rootP] at hx⟩⟩, Row.nil _ _ (by unfold maxLen; omega), ⟨Nat.le_refl _, by unfold maxLen; omega, fun _ => ⟨_, 0, _, rfl, p2, fun j x hx => by
              match j, hx with
              | 0, hx => cases hx; rfl
              | 1, hx => cases hx; rfl
              | j + 2, hx => simp [rootP] at hx⟩⟩⟩
          have hs6 := hshW.later hl6
          have hBW : B ≤ W6.heap.size := by have := HB.out; have := HRNW.out.wr.size; have := (show Below _ _ _ from hl6).size; omega
          have HADD := Lib.hid (shAdd_any hs6 hBW jn0 (by omega) (by omega) hpv)
          have HS6 := Lib.hid hs6
          have HBW := Lib.hid hBW
          have HL6 := Lib.hid hl6
          have HW6 := Lib.hid hW6
          have hput : putT ill key val root FULL s = ((addS ill s' (rootP kk an oo)).1, (addS ill s' (rootP kk an oo)).2.getD 0, if (addS ill s' (rootP kk an oo)).2.isSome then 0 else 4) := by
            unfold putT; rw [if_neg HROOT.out, if_neg hns, h1]
            dsimp only
            generalize addS ill s' (rootP kk an oo) = z
            obtain ⟨z1, z2⟩ := z
            cases z2 <;> rfl
          have HPUT := Lib.hid hput
          have cb := h4.kb.c0
          have q0a : (W.alloc (.cells #[.string kk] 9)).cell? ⟨r15, 0, none⟩ = some (.int .u64 an) := (World.cell?_alloc_lt W _ ⟨r15, 0, none⟩ (World.block_lt_of_cell? _ _ q0)).trans q0
          have q3a : (W.alloc (.cells #[.string kk] 9)).cell? ⟨r15, 3, none⟩ = some (.int .u64 oo) := (World.cell?_alloc_lt W _ ⟨r15, 3, none⟩ (World.block_lt_of_cell? _ _ q3)).trans q3
          have hmet := fun w => method_add ⟨b, 0, none⟩ w
          clear h1 h3 h4 h5 k1 k2 k3 hDD hac q hl6 p1 p2 hpv hs6 hBW hput hns hW6 hshW c1 c2 f1 f2
          go_upto_region 22 with fail
          go_wp2_with fail
          rw [← HW6.out]
          refine HADD.out.mono ?_
          rintro e w7 hsa
          have hw7 := (show ShAdd B b ill s' vW (rootP kk an oo) W6 e w7 from hsa).wr HS6.out HBW.out
          obtain ⟨v', he, _⟩ := hsa
          subst he
          have hl6 := HL6.out
          have hwr := (HRNW.out.wr.later HB.out hl6).trans hw7
          have k1 := (hw7.sm _ _).2 (HRNW.out.k1.below hl6 HRNW.out.k1.lt)
          have k2 := hw7.far _ _ _ far_err (HRNW.out.k2.below hl6 HRNW.out.k2.lt)
          have hdd := hw7.oth.same _ _ (((show Below _ _ _ from hl6).block DD (Array.getElem?_eq_some_iff.1 HDD.out).1).trans HDD.out) rfl
          have htw : Two (addS ill s' (rootP kk an oo)).1.S := two_addS HTW.out (by simp [rootP])
          have c1 := k1.c0
          have c2 := k2.c0
          have f1 := k1.frozen 0
          have f2 := k2.frozen 0
          have FIN : Hid (∀ X, Later ((w7.setCell ⟨r1, 0, none⟩ (.int .u64 ((addS ill s' (rootP kk an oo)).2.getD 0))).setCell ⟨r2, 0, none⟩ (.int .i64 (if (addS ill s' (rootP kk an oo)).2.isSome then 0 else 4))) X → X.heap[DD]? = some (.deferred (some [])) ∧ Wr B b ill (addS ill s' (rootP kk an oo)).1 w (X.putObj DD (.deferred none)) ∧ (X.putObj DD (.deferred none)).cell? ⟨r1, 0, none⟩ = some (.int .u64 ((addS ill s' (rootP kk an oo)).2.getD 0)) ∧ (X.putObj DD (.deferred none)).cell? ⟨r2, 0, none⟩ = some (.int .i64 (if (addS ill s' (rootP kk an oo)).2.isSome then 0 else 4))) := Lib.hid fun X hX => exit_defer hwr htw k1 k2 HQW.out.2.1 HQW.out.2.2 HB.out HDW.out hdd hX
          generalize (addS ill s' (rootP kk an oo)).2.getD 0 = rn at *
          generalize (if (addS ill s' (rootP kk an oo)).2.isSome then (0 : Int) else 4) = re at *
          clear hw7 hl6 hwr k1 k2 hdd htw
          go_wp2_with fail
          obtain ⟨d0, hw, y1, y2⟩ := FIN.out _ (Below.refl _ _)
          refine ⟨by simp, .inl ⟨_, _, rfl, run_takeDeferred d0, ?_⟩⟩
          refine ⟨_, results_put _ _ r1 r2 rn re rfl rfl y1 y2, ?_⟩
          rw [HPUT.out]
          exact ⟨rfl, hw⟩
    case stop =>
      rintro DD W hD ⟨s', h2, h3, h4, h5⟩ hDD
      have hput : putT ill key val root FULL s = (s', 0, 4) := by
        unfold putT; rw [if_neg HROOT.out, if_neg HNS.out, h2]
      have HPUT := Lib.hid hput
      have H3 := Lib.hid h3
      have HDW : Hid (w.heap.size ≤ DD) := Lib.hid (by have := HWS4.out; omega)
      clear hput h2 h3
      gi_wp2
      refine ⟨by simp, .inl ⟨_, _, rfl, run_takeDeferred hDD, ?_⟩⟩
      have hg := grownBy_putObj' W DD (.deferred none)
      have hr : ∀ r, some DD = some r → ∃ o : Obj, W.heap[r]? = some o ∧ o.isCells = false := fun r e => by cases e; exact ⟨_, hDD, rfl⟩
      refine ⟨_, results_put _ _ r1 r2 0 4 rfl rfl (cell_kept h4 hg hr) (cell_kept h5 hg hr), ?_⟩
      rw [HPUT.out]
      exact ⟨rfl, H3.out.grown HB.out hg fun r e => ⟨by cases e; exact HDW.out, hr r e⟩⟩
end Go.Proofs.Ytafeddjcomeniaa
end

/- tree.Put at no root: a leaf of one item. Conditions: the shelf lies in memory. -/
section
namespace Go.Proofs.Ytafeddjcomeniaa
open Go.RowKit
set_option linter.unusedVariables false
set_option linter.unusedSimpArgs false

set_option maxRecDepth 100000 in
set_option maxHeartbeats 8000000 in
theorem putT_none {B b : Nat} {w : World} {ill : Int} {s : Sh} {v : Value} {key val : ByteArray} (h : ShAt B w b ill s v) (hB : B ≤ w.heap.size) (hn : 0 ≤ s.n) (hn2 : s.n < 100000000) (hl : s.S.length ≤ 90000) (h2 : Two s.S) (hk : keyFit key) (hv : val.size ≤ 400) {rn re : Int} (hrn : rn = (addS ill s ⟨true, [key], [val], []⟩).2.getD 0) (hre : re = (if (addS ill s ⟨true, [key], [val], []⟩).2.isSome then 0 else 4)) :
    Calls Try.prog 10 #[shV b, .int .u64 0, .string key, .string val] w fun e w' => TPost B b ill (addS ill s ⟨true, [key], [val], []⟩).1 rn re w e w' := by
  obtain ⟨W0, hW0⟩ : ∃ W0, W0 = ((w.alloc (.cells #[.iface 23 (.pointer (some ⟨b, 0, none⟩))] 79)).alloc (.cells #[.int .u64 0] 27)).alloc (.cells #[.int .i64 0] 28) := ⟨_, rfl⟩
  have hb0 : Later w W0 := by rw [hW0]; exact ((below_new _ _).alloc (by simp) _).alloc (by rw [World.size_alloc, World.size_alloc]; omega) _
  have hs0 : W0.heap.size = w.heap.size + 3 := by rw [hW0]; simp
  have kb : Blk W0 w.heap.size 79 #[.iface 23 (.pointer (some ⟨b, 0, none⟩))] := by rw [hW0]; exact ((Blk.new _ _ _).alloc _).alloc _
  have k1 : Blk W0 (w.heap.size + 1) 27 #[.int .u64 0] := by
    rw [hW0]
    have := Blk.new (w.alloc (.cells #[.iface 23 (.pointer (some ⟨b, 0, none⟩))] 79)) 27 #[.int .u64 0]
    rw [World.size_alloc] at this
    exact this.alloc _
  have k2 : Blk W0 (w.heap.size + 1 + 1) 28 #[.int .i64 0] := by
    rw [hW0]
    have := Blk.new ((w.alloc (.cells #[.iface 23 (.pointer (some ⟨b, 0, none⟩))] 79)).alloc (.cells #[.int .u64 0] 27)) 28 #[.int .i64 0]
    rwa [World.size_alloc, World.size_alloc] at this
  obtain ⟨W1, hW1⟩ : ∃ W1, W1 = (W0.alloc (.cells #[.string key] 9)).alloc (.cells #[.string val] 9) := ⟨_, rfl⟩
  have hl1 : Later W0 W1 := by rw [hW1]; exact (below_new _ _).alloc (by simp) _
  have p1 : Blk W1 W0.heap.size 9 #[.string key] := by rw [hW1]; exact (Blk.new _ _ _).alloc _
  have p2 : Blk W1 (W0.heap.size + 1) 9 #[.string val] := by
    rw [hW1]
    have := Blk.new (W0.alloc (.cells #[.string key] 9)) 9 #[.string val]
    rwa [World.size_alloc] at this
  have hpv : PgV W1 #[.bool true, .slice (some ⟨W0.heap.size, 0, none⟩) 1 1, .slice (some ⟨W0.heap.size + 1, 0, none⟩) 1 1, .slice none 0 0] ⟨true, [key], [val], []⟩ := ⟨_, _, _, _, none, 0, rfl, ⟨Nat.le_refl _, by unfold maxLen; omega, fun _ => ⟨_, 0, _, rfl, p1, fun j x hx => by
      match j, hx with
      | 0, hx => cases hx; rfl
      | j + 1, hx => simp at hx⟩⟩, ⟨Nat.le_refl _, by unfold maxLen; omega, fun _ => ⟨_, 0, _, rfl, p2, fun j x hx => by
      match j, hx with
      | 0, hx => cases hx; rfl
      | j + 1, hx => simp at hx⟩⟩, Row.nil _ _ (by unfold maxLen; omega)⟩
  have hs1 := h.later (show Later w W1 from (show Later w W0 from hb0).trans hl1)
  have CA := Lib.hid (shAdd_any hs1 (by have := (show Below _ _ _ from hl1).size; omega) hn (by omega) (by omega) hpv)
  have HS1 := Lib.hid hs1
  have HB := Lib.hid hB
  have H2 := Lib.hid h2
  have HB0 := Lib.hid hb0
  have HL1 := Lib.hid hl1
  have HS0 := Lib.hid hs0
  have HK1 := Lib.hid (k1.below hl1 k1.lt)
  have HK2 := Lib.hid (k2.below hl1 k2.lt)
  have HW0 := Lib.hid hW0
  have HW1 := Lib.hid hW1
  have c0 := kb.c0
  have e1 : ¬ ((key.size : Int) < 1) := by have := hk.1; omega
  have e2 : ¬ ((40 : Int) < (key.size : Int)) := by have := hk.2; omega
  have e3 : ¬ ((400 : Int) < (val.size : Int)) := by omega
  have hmet := fun w => method_add ⟨b, 0, none⟩ w
  have HRN := Lib.hid hrn
  have HRE := Lib.hid hre
  clear hrn hre
  clear h hB hn hn2 hl h2 hk hv hb0 hs0 hW0 kb k1 k2 hW1 hl1 p1 p2 hpv hs1
  unfold shV
  refine (callsIn_wide (n := 5)).1 ?_
  refine callsIn_of_wp_marks Try.func10 rfl trivial ?_ rfl
  refine wpIn_wide.2 ?_
  simp only [Try.ntmps10, List.size_toArray, List.length_cons, List.length_nil, Nat.reduceAdd, Nat.reduceSub, Array.replicate_succ, Array.replicate_zero, List.push_toArray, List.append_toArray, List.nil_append, List.cons_append]
  go_upto_region 1 with fail
  rw [← HW0.out]
  go_wp2_with fail
  rw [← HW1.out]
  refine CA.out.mono ?_
  rintro e w7 hsa
  have hBW : B ≤ W1.heap.size := by have := HB.out; have := (show Below _ _ _ from HB0.out).size; have := (show Below _ _ _ from HL1.out).size; omega
  have hw7 := (show ShAdd B b ill s v ⟨true, [key], [val], []⟩ W1 e w7 from hsa).wr HS1.out hBW
  obtain ⟨v', he, _⟩ := hsa
  subst he
  have hwr := hw7.from_ HB.out (show Later w W1 from (show Later w W0 from HB0.out).trans HL1.out)
  have k1 := (hw7.sm _ _).2 HK1.out
  have k2 := hw7.far _ _ _ far_err HK2.out
  have htw : Two (addS ill s ⟨true, [key], [val], []⟩).1.S := two_addS H2.out (by simp)
  have c1 := k1.c0
  have c2 := k2.c0
  have f1 := k1.frozen 0
  have f2 := k2.frozen 0
  have FIN := Lib.hid (exit_two (n := (addS ill s ⟨true, [key], [val], []⟩).2.getD 0) (er := if (addS ill s ⟨true, [key], [val], []⟩).2.isSome then 0 else 4) hwr htw k1 k2 (Nat.le_succ _) (by omega) HB.out)
  have hrn := HRN.out
  have hre := HRE.out
  rw [← hrn, ← hre] at FIN ⊢
  clear hrn hre
  clear hw7 hwr k1 k2 htw hBW
  go_wp2_with fail
  obtain ⟨hw, y1, y2⟩ := FIN.out
  exact ⟨_, results_put _ _ _ _ rn re rfl rfl y1 y2, rfl, hw⟩
end Go.Proofs.Ytafeddjcomeniaa
end

/- The way back up of tree.Drop: what each step wants, and what it leaves. Plain Lean, and what a written number's box leaves. No program here. Conditions: none. -/
section
namespace Go.Proofs.Ytafeddjcomeniaa
open Go Go.RowKit
set_option linter.unusedVariables false

def StepOk (x : Pg × Nat) : Prop := x.1.leaf = false ∧ Ok x.1 ∧ x.2 ≤ x.1.keys.length ∧ 1 ≤ x.1.keys.length
theorem way_steps {Q : Pg → Prop} {S : List Pg} {key : ByteArray} (hS : S.length ≤ 100000) : ∀ {d : Nat} {n : Int} {lo hi : Option ByteArray}, OkN Q S d n lo hi → inB lo hi key → (itemsN S d n).length ≤ 1000 → ∀ j x, (wayN S d n key)[j]? = some x → j + 1 < (wayN S d n key).length → StepOk x
  | 0, _, _, _, h, _, _, _, _, _, _ => h.elim
  | d + 1, n, lo, hi, ⟨p, h1, h2, h3⟩, hb, hit, j, x, hj, hlt => by
    have e : wayN S (d + 1) n key = (p, kidN p key) :: if p.leaf then [] else wayN S d (p.kids.getD (kidN p key) 0) key := by rw [wayN]; simp only [h1]
    have eit : itemsN S (d + 1) n = itemsP (itemsN S d) p := by rw [itemsN]; simp only [h1]
    rw [e] at hj hlt
    rw [eit] at hit
    cases hl : p.leaf with
    | true =>
      rw [hl] at hlt
      simp at hlt
    | false =>
      rw [hl] at hj hlt
      simp only [Bool.false_eq_true, if_false] at hj hlt
      obtain ⟨e0, h0, hok, hbk, _, _⟩ := kid_there h3 hl hb
      cases j with
      | zero => cases hj; exact ⟨hl, pg_ok h3 hit hS, h0, h3.ne⟩
      | succ j =>
        have hf := kid_few (f := itemsN S d) hl e0
        exact way_steps hS hok hbk (by omega) j x hj (by simpa using hlt)
theorem turnW_bnd (ill : Int) (s : Sh) (p : Pg) (i : Nat) (n : Int) : s.n ≤ (turnW ill s p i n).1.n ∧ (turnW ill s p i n).1.n ≤ s.n + 1 ∧ (turnW ill s p i n).1.S.length ≤ s.S.length + 1 := by
  have ha : ∀ q, s.n ≤ (addS ill s q).1.n ∧ (addS ill s q).1.n ≤ s.n + 1 ∧ (addS ill s q).1.S.length ≤ s.S.length + 1 := fun q => by
    unfold addS
    split
    · dsimp only; omega
    · dsimp only; rw [List.length_append, List.length_singleton]; omega
  unfold turnW
  split
  · split
    · dsimp only; omega
    · exact ha _
  · exact ha _
theorem dropW_bnd (ill : Int) (key : ByteArray) : ∀ (l : List (Pg × Nat)) (s : Sh), s.n ≤ (dropW ill key l s).1.n ∧ (dropW ill key l s).1.n ≤ s.n + l.length ∧ (dropW ill key l s).1.S.length ≤ s.S.length + l.length
  | [], s => ⟨Int.le_refl _, by simp [dropW], by simp [dropW]⟩
  | [(p, i)], s => by
    unfold dropW
    dsimp only
    split
    · unfold addS
      split
      · dsimp only; simp; omega
      · dsimp only; rw [List.length_append]; simp; omega
    · dsimp only; simp; omega
  | (p, i) :: y :: l, s => by
    have ih := dropW_bnd ill key (y :: l) s
    unfold dropW
    generalize dropW ill key (y :: l) s = o at *
    obtain ⟨s1, o⟩ := o
    cases o with
    | none => dsimp only at *; rw [List.length_cons]; omega
    | some n =>
      dsimp only at *
      have := turnW_bnd ill s1 p i n
      rw [List.length_cons]
      omega
theorem two_turn {ill : Int} {s : Sh} {p : Pg} {i : Nat} {n : Int} (h : Two s.S) (hk : p.kids.length ≠ 1) : Two (turnW ill s p i n).1.S := by
  unfold turnW
  split
  · split
    · exact h
    · exact two_addS h (by assumption)
  · exact two_addS h (by rw [List.length_set]; exact hk)
theorem StepOk.kids {x : Pg × Nat} (h : StepOk x) : x.1.kids.length = x.1.keys.length + 1 := by
  rcases good_shape h.2.1.good with ⟨e, _⟩ | ⟨_, _, e⟩
  · rw [h.1] at e; cases e
  · exact e
/-- What the way back leans on. -/
structure Drops (l : List (Pg × Nat)) : Prop where
  st : ∀ j x, l[j]? = some x → j + 1 < l.length → StepOk x
  lf : ∀ x, l.getLast? = some x → x.1.leaf = true ∧ Ok x.1
theorem Drops.tail {x y : Pg × Nat} {l : List (Pg × Nat)} (h : Drops (x :: y :: l)) : Drops (y :: l) :=
  ⟨fun j z hz hj => h.st (j + 1) z (by simpa using hz) (by simpa using hj), fun z hz => h.lf z (by rw [List.getLast?_cons_cons]; exact hz)⟩
theorem leaf_nokids {p : Pg} (h : Ok p) (hl : p.leaf = true) : p.kids = [] := by
  rcases good_shape h.good with ⟨_, _, e⟩ | ⟨e, _⟩
  · exact e
  · rw [hl] at e; cases e
theorem dropP_kids (p : Pg) (key : ByteArray) : (dropP p key).kids = p.kids := by unfold dropP; split <;> rfl
theorem dropW_two {ill : Int} {key : ByteArray} : ∀ {l : List (Pg × Nat)} {s : Sh}, Two s.S → Drops l → Two (dropW ill key l s).1.S
  | [], _, h, _ => h
  | [(p, i)], s, h, hd => by
    unfold dropW
    dsimp only
    split
    · refine two_addS h ?_
      obtain ⟨h1, h2⟩ := hd.lf (p, i) rfl
      rw [dropP_kids, leaf_nokids h2 h1]; simp
    · exact h
  | (p, i) :: y :: l, s, h, hd => by
    have ih := dropW_two (ill := ill) (key := key) (l := y :: l) h hd.tail
    have h1 := hd.st 0 _ rfl (by simp)
    unfold dropW
    generalize dropW ill key (y :: l) s = o at *
    obtain ⟨s1, o⟩ := o
    cases o with
    | none => exact ih
    | some n =>
      have := h1.kids
      have := h1.2.2.2
      dsimp only at *
      exact two_turn ih (by omega)
theorem drop_at {ill : Int} {key : ByteArray} {s s1 : Sh} {l : List (Pg × Nat)} {j : Nat} {p : Pg} {i : Nat} {n : Int} (hj : l[j]? = some (p, i)) (hlt : j + 1 < l.length) (e : dropW ill key (l.drop (j + 1)) s = (s1, some n)) : dropW ill key (l.drop j) s = turnW ill s1 p i n := by
  rw [drop_get hj]
  obtain ⟨y, hy⟩ : ∃ y, l[j + 1]? = some y := ⟨_, List.getElem?_eq_getElem hlt⟩
  rw [drop_get hy] at e ⊢
  unfold dropW
  rw [e]
theorem drop_last {ill : Int} {key : ByteArray} {s : Sh} {l : List (Pg × Nat)} {j : Nat} {p : Pg} {i : Nat} (hj : l[j]? = some (p, i)) (hlt : j + 1 = l.length) : dropW ill key (l.drop j) s = if 1 < p.keys.length then addS ill s (dropP p key) else (s, some 0) := by
  rw [drop_get hj, List.drop_of_length_le (by omega)]
  rfl
theorem drop_none {ill : Int} {key : ByteArray} {s s1 : Sh} {l : List (Pg × Nat)} : ∀ (j : Nat), j < l.length → dropW ill key (l.drop j) s = (s1, none) → dropW ill key l s = (s1, none)
  | 0, _, h => h
  | j + 1, hj, h => by
    refine drop_none j (by omega) ?_
    obtain ⟨⟨p, i⟩, hx⟩ : ∃ x, l[j]? = some x := ⟨_, List.getElem?_eq_getElem (by omega)⟩
    obtain ⟨y, hy⟩ : ∃ y, l[j + 1]? = some y := ⟨_, List.getElem?_eq_getElem hj⟩
    rw [drop_get hx]
    rw [drop_get hy] at h ⊢
    unfold dropW
    rw [h]
theorem Drops.drop {l : List (Pg × Nat)} (h : Drops l) {j : Nat} (hj : j < l.length) : Drops (l.drop j) := by
  induction j generalizing l with
  | zero => exact h
  | succ j ih =>
    match l, h, hj with
    | [], _, hj => simp at hj
    | [x], _, hj => simp at hj
    | x :: y :: l, h, hj => exact ih h.tail (by simpa using hj)
/-- What Drop answers. -/
def dropT (ill : Int) (key : ByteArray) (there : Bool) (l : List (Pg × Nat)) (s : Sh) : Sh × Int × Int :=
  if s.n < ill ∧ ill ≤ s.n + l.length then (⟨s.S, ill⟩, 0, 4)
  else if there = false then (⟨s.S, s.n + l.length⟩, 0, 5)
  else match dropW ill key l ⟨s.S, s.n + l.length⟩ with
    | (s1, none) => (s1, 0, 4)
    | (s1, some n) => (s1, n, 0)

section
variable {B b : Nat} {w W2 W W' : World} {ill : Int} {r1 r2 rb q r g : Nat} {s s' : Sh} {er : Int} {x y : Int} {cur : Array Value}
/-- The shelf is written; the cell beside is a number's box. -/
theorem Rnd.wroteN (h : Rnd B b ill w W2 r1 r2 rb q r g 27 s er #[.int .u64 x] W) (hg : Blk W2 g 89 cur) (k : Wr B b ill s' W W') : Rnd B b ill w W2 r1 r2 rb q r g 27 s' er #[.int .u64 x] W' :=
  ⟨h.wr.trans k, (k.sm _ _).2 h.k1, k.far _ _ _ far_err h.k2, k.far _ _ _ far_shelf h.kb, k.far _ _ _ far_err h.ke, (k.sm _ _).2 h.ka, (k.far _ _ _ far_step (h.row.trans hg)).trans hg.symm, h.sm.trans k.sm⟩
/-- The box is written. -/
theorem Rnd.boxN (h : Rnd B b ill w W2 r1 r2 rb q r g 27 s er #[.int .u64 x] W) (hB : B ≤ w.heap.size) (hg : Blk W2 g 89 cur) (h2 : Two s.S) (hw : W2.heap.size ≤ r) (hw' : w.heap.size ≤ r) (n : r ≠ r1 ∧ r ≠ r2 ∧ r ≠ rb ∧ r ≠ q ∧ r ≠ g) : Rnd B b ill w W2 r1 r2 rb q r g 27 s er #[.int .u64 y] (W.setCell ⟨r, 0, none⟩ (.int .u64 y)) := by
  have hk : DKept (fun k => k = r) W (W.setCell ⟨r, 0, none⟩ (.int .u64 y)) := (DKept.refl (S := fun k => k = r)).set rfl
  refine ⟨h.wr.box h2 h.ka hk hw' hB, h.k1.far (p := ⟨r, 0, none⟩) n.1.symm _, h.k2.far (p := ⟨r, 0, none⟩) n.2.1.symm _, h.kb.far (p := ⟨r, 0, none⟩) n.2.2.1.symm _, h.ke.far (p := ⟨r, 0, none⟩) n.2.2.2.1.symm _, ?_, ?_, Sm.new (t := 27) (cs := #[]) h.sm hw hk⟩
  · have := h.ka.set_ 0 (.int .u64 y)
    simpa using this
  · have e : Blk W g 89 cur := h.row.trans hg
    exact (e.far (p := ⟨r, 0, none⟩) n.2.2.2.2.symm _).trans hg.symm
end
end Go.Proofs.Ytafeddjcomeniaa
end

/- What the way back of a put leans on, out of a good tree. Plain Lean. No program here. Conditions: none. -/
section
namespace Go.Proofs.Ytafeddjcomeniaa
open Go Go.RowKit
set_option linter.unusedVariables false

/-- What pages must be, so that puts keep it. -/
structure QPut (Q : Pg → Prop) (M : Int) : Prop where
  leaf : ∀ p key val, keyFit key → val.size ≤ 400 → Q p → goodB p = true → p.leaf = true → 1 ≤ p.keys.length → p.keys.length ≤ 126 → Pre Q (putP p key val)
  branch : ∀ p i a, Q p → goodB p = true → p.leaf = false → i ≤ p.keys.length → goodB (updP p i a) = true → (∀ n ∈ p.kids, n ≤ M) → (∀ n ∈ (updP p i a).kids, n ≤ M) → Pre Q (updP p i a)
  root : ∀ q n o, keyFit q → n ≤ M → o ≤ M → Q (rootP q n o)
  first : ∀ key val, keyFit key → val.size ≤ 400 → Q ⟨true, [key], [val], []⟩
theorem qput_every (M : Int) : QPut everyP M := ⟨fun _ _ _ _ _ _ _ _ _ _ => ⟨fun _ => trivial, fun _ _ _ _ _ => ⟨trivial, trivial⟩⟩, fun _ _ _ _ _ _ _ _ _ _ => ⟨fun _ => trivial, fun _ _ _ _ _ => ⟨trivial, trivial⟩⟩, fun _ _ _ _ _ _ => trivial, fun _ _ _ _ => trivial⟩
theorem kid_pos {Q : Pg → Prop} {S : List Pg} {d : Nat} {p : Pg} {lo hi : Option ByteArray} (h : OkPg (OkN Q S d) p lo hi) : ∀ n ∈ p.kids, 1 ≤ n := fun n hn => by
  cases hl : p.leaf with
  | true => rw [(h.leaflen hl).2] at hn; cases hn
  | false =>
    obtain ⟨i, hi'⟩ := kids_mem hn
    exact (ok_le (h.kids hl i n hi')).1
theorem runs_ok {Q : Pg → Prop} (ill M : Int) {key val : ByteArray} (hk : keyFit key) (hv : val.size ≤ 400) (hM : M ≤ 16383) (hQ : QPut Q M) :
    ∀ (d : Nat) (n : Int) (lo hi : Option ByteArray) (s : Sh), OkN Q s.S d n lo hi → inB lo hi key → (itemsN s.S d n).length ≤ 126 → s.S.length + 2 * d ≤ M → 0 ≤ s.n → s.n + 2 * d < 1000000000 → Runs ill key val (wayN s.S d n key) s := by
  intro d
  induction d with
  | zero => intro n lo hi s h; exact h.elim
  | succ d ih =>
    intro n lo hi s h hb hit hlen hn hn2
    obtain ⟨p, hp, hq, hpg⟩ := h
    have eway : wayN s.S (d + 1) n key = (p, kidN p key) :: if p.leaf then [] else wayN s.S d (p.kids.getD (kidN p key) 0) key := by rw [wayN]; simp only [hp]
    have eit : itemsN s.S (d + 1) n = itemsP (itemsN s.S d) p := by rw [itemsN]; simp only [hp]
    rw [eway]
    rw [eit] at hit
    have hpo := pg_ok hpg (by omega) (by omega)
    cases hl : p.leaf with
    | true =>
      simp only [if_true]
      obtain ⟨ho, hi', hlf⟩ := putP_ok hpg hl hk hv hb (itemsN s.S d)
      have hkl : p.keys.length ≤ 126 := by
        unfold itemsP at hit
        rw [hl] at hit
        simp only [if_true, List.length_zip] at hit
        have := (hpg.leaflen hl).1
        omega
      have hlen2 : (putP p key val).keys.length ≤ 127 := by
        have h1 := congrArg List.length hi'
        have h2 := putL_len key val (itemsP (itemsN s.S d) p)
        rw [← h1] at h2
        have h3 := (ho.leaflen hlf).1
        unfold itemsP at h2 hit
        rw [hlf, hl] at h2
        rw [hl] at hit
        simp only [if_true, List.length_zip] at h2 hit
        omega
      refine ⟨hl, hpo, ?_⟩
      exact ⟨⟨ho.good, by omega, fun n hn => by rw [(ho.leaflen hlf).2] at hn; cases hn⟩, ho.ne, hn, by omega, by omega⟩
    | false =>
      simp only [Bool.false_eq_true, if_false]
      obtain ⟨e0, h0, hok, hbk, hA, hC⟩ := kid_there hpg hl hb
      have hfk := kid_few (f := itemsN s.S d) hl e0
      have hr := ih _ _ _ s hok hbk (by omega) (by omega) hn (by omega)
      obtain ⟨⟨x, xs, hx, hxl⟩, hR⟩ := putW_ok ill M hk hv hM (fun p => hQ.leaf p key val hk hv) hQ.branch d _ _ _ s hok hbk (by omega) (by omega)
      rw [hx] at hr hR ⊢
      refine ⟨hr, hl, hpo, h0, fun s1 a e => ?_⟩
      rcases hR with ⟨s1', X, e', g, hc⟩ | ⟨s1', X, a', e', H⟩
      · rw [e'] at e; cases e
      · rw [e'] at e
        cases e
        have hpg1 : OkPg (OkN Q s1.S d) p lo hi := by rw [H.grew.S]; exact hpg.grow _
        have hu := updP_ok hpg1 hl h0 H.ok
        have hkk := updP_keys p (kidN p key) a h0
        have hlen1 : (s1.S.length : Int) ≤ M := by
          rw [H.grew.S, List.length_append]
          have := H.grew.len
          have := H.cost
          omega
        have hsl := hpo.few
        have hkfew : p.keys.length ≤ 126 := Nat.le_trans (ok_keys hpg) (by omega)
        refine ⟨⟨hu.good, by omega, fun m hm => ?_⟩, hu.ne, by have := H.grew.n; omega, by have := H.cost; omega, by omega⟩
        have := kids_le hu m hm
        have := kid_pos hu m hm
        omega
/-- How a change of a tree ends. -/
structure Chg (Q : Pg → Prop) (ill : Int) (s s' : Sh) (n er : Int) (k : Nat) (l : List KV) : Prop where
  res : (er = 4 ∧ n = 0 ∧ ∃ X, Grew ill s s' X false) ∨ (er = 0 ∧ (∃ X, Grew ill s s' X true) ∧ Tree Q s'.S k n l)
  cost : s'.n ≤ s.n + 100
  two : Two s'.S
theorem Grew.read {ill : Int} {s : Sh} {m : Nat} (h : ¬ (s.n < ill ∧ ill ≤ s.n + (m : Int))) : Grew ill s ⟨s.S, s.n + m⟩ [] true := ⟨by simp, by dsimp only; omega, by dsimp only [List.length_nil]; omega, fun e => (by cases e), fun _ => by dsimp only; omega⟩
theorem Grew.ill {ill : Int} {s : Sh} {m : Nat} (h : s.n < ill ∧ ill ≤ s.n + (m : Int)) : Grew ill s ⟨s.S, ill⟩ [] false := ⟨by simp, by dsimp only; omega, by dsimp only [List.length_nil]; omega, fun _ => ⟨rfl, h.1⟩, fun e => (by cases e)⟩
theorem putT_ok {Q : Pg → Prop} (ill : Int) {key val : ByteArray} (hk : keyFit key) (hv : val.size ≤ 400) (hQ : QPut Q 16383) {s : Sh} {k : Nat} {root : Int} {l : List KV} {d : Nat} (ht : Tree Q s.S k root l) (h2 : Two s.S) (h0 : root ≠ 0)
    (hok : OkN Q s.S d root none none) (hl : itemsN s.S d root = l) (hdp : 20 * d + min (rk s.S root) 20 ≤ 40 + k) (hkk : k ≤ 125) (hS : s.S.length ≤ 16000) (hn : 0 ≤ s.n) (hn2 : s.n < 90000000) :
    Runs ill key val (wayN s.S d root key) ⟨s.S, s.n + (wayN s.S d root key).length⟩ ∧
    (∀ s1 a, putW ill key val (wayN s.S d root key) ⟨s.S, s.n + (wayN s.S d root key).length⟩ = (s1, some a) → 0 ≤ s1.n ∧ s1.n < 1000000000 ∧ s1.S.length ≤ 99990) ∧
    Chg Q ill s (putT ill key val root (wayN s.S d root key) s).1 (putT ill key val root (wayN s.S d root key) s).2.1 (putT ill key val root (wayN s.S d root key) s).2.2 (k + 1) (putL l key val) := by
  have hf := ht.few
  have hwl := way_len (S := s.S) (key := key) d root
  have hR := runs_ok ill 16383 hk hv (by omega) hQ d root none none ⟨s.S, s.n + (wayN s.S d root key).length⟩ hok (inB_all key) (by dsimp only; rw [hl]; omega) (by dsimp only; omega) (by dsimp only; omega) (by dsimp only; omega)
  obtain ⟨_, hW⟩ := putW_ok ill 16383 hk hv (by omega) (fun p => hQ.leaf p key val hk hv) hQ.branch d root none none ⟨s.S, s.n + (wayN s.S d root key).length⟩ hok (inB_all key) (by dsimp only; rw [hl]; omega) (by dsimp only; omega)
  dsimp only at hR hW
  have h2W := Runs.two (s := ⟨s.S, s.n + (wayN s.S d root key).length⟩) h2 hR
  generalize wayN s.S d root key = FULL at *
  refine ⟨hR, fun s1 a e => ?_, ?_⟩
  · rcases hW with ⟨s', X, e', g, hc⟩ | ⟨s', X, a', e', H⟩
    · rw [e'] at e; cases e
    · rw [e'] at e
      cases e
      have h1 := H.grew.n
      have h3 := H.cost
      have h4 := H.grew.len
      have h5 := congrArg List.length H.grew.S
      rw [List.length_append] at h5
      dsimp only at h1 h3 h4 h5
      omega
  · unfold putT
    rw [if_neg h0]
    by_cases hi : s.n < ill ∧ ill ≤ s.n + (FULL.length : Int)
    · rw [if_pos hi]
      exact ⟨.inl ⟨rfl, rfl, _, Grew.ill hi⟩, by dsimp only; omega, h2⟩
    · rw [if_neg hi]
      have hg0 := Grew.read hi
      rcases hW with ⟨s', X, e', g, hc⟩ | ⟨s', X, a, e', H⟩
      · rw [e'] at h2W ⊢
        exact ⟨.inl ⟨rfl, rfl, _, hg0.trans g⟩, by dsimp only at hc ⊢; omega, h2W⟩
      · rw [e'] at h2W ⊢
        have hcost := H.cost
        have hT := Tree.put (s := ⟨s.S, s.n + FULL.length⟩) ht hl hdp H
        have hgr := hg0.trans H.grew
        obtain ⟨n, sp⟩ := a
        cases sp with
        | none => exact ⟨.inr ⟨rfl, ⟨_, hgr⟩, hT.1 rfl⟩, by dsimp only at hcost ⊢; omega, h2W⟩
        | some qo =>
          obtain ⟨q, o⟩ := qo
          dsimp only at h2W ⊢
          obtain ⟨ho1, ho2⟩ := okA_le H.ok
          have ho2 := ho2 q o rfl
          have hfit : keyFit q := H.ok.2.2
          have hlen1 : (s'.S.length : Int) ≤ 16383 := by
            have h3 := H.cost
            have h4 := H.grew.len
            have h5 := congrArg List.length H.grew.S
            rw [List.length_append] at h5
            dsimp only at h3 h4 h5
            omega
          have hq := hQ.root q n o hfit (by dsimp only at ho1; omega) (by omega)
          have htw : Two (addS ill s' (rootP q n o)).1.S := two_addS h2W (by simp [rootP])
          have hT2 := hT.2 q o rfl hq
          rcases addS_ok ill s' (rootP q n o) with ⟨s2, e2, g2, hc2⟩ | ⟨s2, e2, g2, hc2⟩
          · rw [e2] at htw ⊢
            exact ⟨.inl ⟨rfl, rfl, _, hgr.trans g2⟩, by dsimp only at hcost ⊢; omega, htw⟩
          · rw [e2] at htw ⊢
            refine ⟨.inr ⟨rfl, ⟨_, hgr.trans g2⟩, ?_⟩, by dsimp only at hcost ⊢; omega, htw⟩
            dsimp only
            rw [g2.S]
            exact hT2
theorem putT_ok0 {Q : Pg → Prop} (ill : Int) {key val : ByteArray} (hk : keyFit key) (hv : val.size ≤ 400) (hQ : QPut Q 16383) {s : Sh} {k : Nat} (h2 : Two s.S) :
    Chg Q ill s (addS ill s ⟨true, [key], [val], []⟩).1 ((addS ill s ⟨true, [key], [val], []⟩).2.getD 0) (if (addS ill s ⟨true, [key], [val], []⟩).2.isSome then 0 else 4) (k + 1) (putL [] key val) := by
  have htw : Two (addS ill s ⟨true, [key], [val], []⟩).1.S := two_addS h2 (by simp)
  rcases addS_ok ill s ⟨true, [key], [val], []⟩ with ⟨s2, e2, g2, hc2⟩ | ⟨s2, e2, g2, hc2⟩
  · rw [e2] at htw ⊢
    exact ⟨.inl ⟨rfl, rfl, _, g2⟩, by dsimp only; omega, htw⟩
  · rw [e2] at htw ⊢
    refine ⟨.inr ⟨rfl, ⟨_, g2⟩, ?_⟩, by dsimp only; omega, htw⟩
    dsimp only
    rw [g2.S]
    exact Tree.first hk hv (hQ.first key val hk hv)
end Go.Proofs.Ytafeddjcomeniaa
end
