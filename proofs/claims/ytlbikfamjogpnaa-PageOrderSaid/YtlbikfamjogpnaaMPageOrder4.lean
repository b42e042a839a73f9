/- The texts of this proof, joined: contracts of the functions that the law reaches, and what they come to in plain Lean. Conditions: those that each theorem names. -/
import Derived.Test.YtlbikfamjogpnaaMPageOrder3
import Derived.Test.YtlbikfamjogpnaaMPageOrder2
import Derived.Deep.DeepCutAuto

/- PageOrder. Conditions: the texts read in memory. -/
section
namespace Go.Proofs.Ytlbikfamjogpnaa
open Go.RowKit Go.Proofs.YtlbikfamjogpnaaW.PrintWords Go.Proofs.Ytlbikfamjogpnaa.QPage
set_option linter.unusedVariables false
set_option linter.unusedSimpArgs false

/-- Texts that are let in, no two alike. -/
def GoodL (l : List ByteArray) : Prop := l.Nodup ∧ ∀ x ∈ l, 1 ≤ x.size ∧ x.size ≤ 40
theorem GoodL.more {L : List ByteArray} {i : Nat} {z : ByteArray} (h : GoodL (L.take i)) (hz : L[i]? = some z) (h1 : 1 ≤ z.size) (h2 : z.size ≤ 40) (hn : ∀ m, m < i → L[m]? ≠ some z) : GoodL (L.take (i + 1)) := by
  obtain ⟨hi, rfl⟩ := List.getElem?_eq_some_iff.1 hz
  rw [take_snoc' hi]
  refine ⟨List.nodup_append.2 ⟨h.1, by simp, fun a ha b hb e => ?_⟩, fun x hx => ?_⟩
  · obtain rfl : b = L[i] := by simpa using hb
    subst e
    obtain ⟨m, hm, he⟩ := List.getElem_of_mem ha
    rw [List.length_take] at hm
    rw [List.getElem_take] at he
    exact hn m (by omega) (by rw [List.getElem?_eq_getElem (by omega), he])
  · rcases List.mem_append.1 hx with hx | hx
    · exact h.2 x hx
    · obtain rfl : x = L[i] := by simpa using hx
      exact ⟨h1, h2⟩

theorem conv_b {W : World} {A : Option Addr} {n c : Nat} {l : List UInt8} (h : Bts W A n c l) : (convert 36 9 (.slice A n c)).run Try.prog W = .ok (.string ⟨l.toArray⟩) W :=
  run_string_of W 36 9 5 Try.underlying36 Try.underlying5 Try.underlying9 (c := c) h.2.1

/-- A leaf whose values are its keys, in its own block. -/
def AtP (w : World) (g : Nat) (l : List ByteArray) : Prop := ∃ A1 c1 A2 c2 A3 c3, Blk w g 67 #[.bool true, .slice A1 l.length c1, .slice A2 l.length c2, .slice A3 0 c3] ∧ PgR w A1 c1 A2 c2 A3 c3 (O l)
theorem AtP.below {w w' : World} {g : Nat} {l : List ByteArray} (h : AtP w g l) (hb : Below w.heap.size w w') : AtP w' g l := by
  obtain ⟨A1, c1, A2, c2, A3, c3, h1, h2⟩ := h
  exact ⟨A1, c1, A2, c2, A3, c3, h1.below hb h1.lt, h2.below hb⟩
theorem enc_O {l : List ByteArray} (h1 : l.length ≤ 12) (h2 : ∀ x ∈ l, x.size ≤ 40) : Enc (O l) := by
  have hs : ∀ (l : List ByteArray), (∀ x ∈ l, x.size ≤ 40) → sizes l ≤ 40 * l.length := fun l => by
    induction l with
    | nil => intro _; simp [sizes]
    | cons a l ih =>
      intro h
      have := ih (fun x hx => h x (List.mem_cons_of_mem _ hx))
      have := h a (List.mem_cons_self ..)
      simp only [sizes, List.map_cons, List.sum_cons, List.length_cons] at *
      omega
  have := hs l h2
  exact Small.enc (p := O l) ⟨by show l.length ≤ 60; omega, by show l.length ≤ 60; omega, by simp [O], by show sizes l + sizes l ≤ 30000; omega⟩ nums_nil
theorem putd (l : List ByteArray) (z : ByteArray) {w' : World} {e : Ending} (h : ∃ B1 d1 B2 d2 B3 d3, e = .returned (pgv B1 d1 B2 d2 B3 d3 (putP (O l) z z)) ∧ PgR w' B1 d1 B2 d2 B3 d3 (putP (O l) z z)) :
    ∃ B1 d1 B2 d2 B3 d3, e = .returned (.agg #[.bool true, .slice B1 (insK l z).length d1, .slice B2 (insK l z).length d2, .slice B3 0 d3]) ∧ PgR w' B1 d1 B2 d2 B3 d3 (O (insK l z)) := by
  rw [put_O] at h
  exact h
theorem dropd (l : List ByteArray) (z : ByteArray) {w' : World} {e : Ending} (h : ∃ B1 d1 B2 d2 B3 d3, e = .returned (pgv B1 d1 B2 d2 B3 d3 (dropP (O l) z)) ∧ PgR w' B1 d1 B2 d2 B3 d3 (dropP (O l) z)) :
    ∃ B1 d1 B2 d2 B3 d3, e = .returned (.agg #[.bool true, .slice B1 (delK l z).length d1, .slice B2 (delK l z).length d2, .slice B3 0 d3]) ∧ PgR w' B1 d1 B2 d2 B3 d3 (O (delK l z)) := by
  rw [drop_O] at h
  exact h
theorem AtP.put {V : World} {g : Nat} {l l' : List ByteArray} {B1 B2 B3 : Option Addr} {d1 d2 d3 : Nat} (h : AtP V g l) (hp : PgR V B1 d1 B2 d2 B3 d3 (O l')) :
    AtP ((((V.setCell ⟨g, 0, none⟩ (.bool true)).setCell ⟨g, 1, none⟩ (.slice B1 l'.length d1)).setCell ⟨g, 2, none⟩ (.slice B2 l'.length d2)).setCell ⟨g, 3, none⟩ (.slice B3 0 d3)) g l' := by
  obtain ⟨A1, c1, A2, c2, A3, c3, h1, h2⟩ := h
  exact ⟨B1, d1, B2, d2, B3, d3, set4 h1, hp.set4 h1⟩
theorem AtP.far {V : World} {g g' : Nat} {l l' : List ByteArray} {B1 B2 B3 : Option Addr} {m d1 d2 d3 : Nat} (h : AtP V g l) (h' : AtP V g' l') (hne : g ≠ g') :
    AtP ((((V.setCell ⟨g', 0, none⟩ (.bool true)).setCell ⟨g', 1, none⟩ (.slice B1 m d1)).setCell ⟨g', 2, none⟩ (.slice B2 m d2)).setCell ⟨g', 3, none⟩ (.slice B3 0 d3)) g l := by
  obtain ⟨A1, c1, A2, c2, A3, c3, h1, h2⟩ := h
  obtain ⟨D1, e1, D2, e2, D3, e3, k1, k2⟩ := h'
  exact ⟨A1, c1, A2, c2, A3, c3, blk_far4 h1 hne _ _ _ _, h2.set4 k1⟩

theorem wf_i64_in {n : Int} (h : (Lit.int .i64 n).wf = true) : -9223372036854775808 ≤ n ∧ n ≤ 9223372036854775807 := by
  simp only [Lit.wf, Bool.and_eq_true, decide_eq_true_eq] at h
  have e1 : IntKind.i64.min = -9223372036854775808 := by decide
  have e2 : IntKind.i64.max = 9223372036854775807 := by decide
  omega
section
variable {w : World} {A : Option Addr} {n c : Nat} {L : List ByteArray}
set_option maxRecDepth 100000 in
set_option maxHeartbeats 8000000 in
theorem pageOrder_all (hS : Strs w A n c L) (k : Int) (hk1 : -9223372036854775808 ≤ k) (hk2 : k ≤ 9223372036854775807) :
    Calls Try.prog 12 #[.slice A n c, .int .i64 k] w fun e w' => e = .returned (.bool true) ∧ Below w.heap.size w w' := by
  have hnl := hS.2.1
  have hm : n ≤ 9223372036854775807 := by have := hS.1.2.2; unfold maxLen at this; omega
  have CA := Lib.hid (awake6 w)
  by_cases b1 : 12 < n
  · have g1 : decide ((12 : Int) < (n : Int)) = true := decide_eq_true (by omega)
    have g2 : decide (12 < n) = true := decide_eq_true (by omega)
    clear hS hnl b1
    go_enter Try.func12, Try.ntmps12
    go_wp2_with fail
    refine CA.out.mono ?_
    rintro e w1 ⟨rfl, hb1⟩
    go_wp2_with fail
    go_ret
    exact ⟨rfl, hb1⟩
  have g1 : decide ((12 : Int) < (n : Int)) = false := decide_eq_false (by omega)
  have g2 : decide (12 < n) = false := decide_eq_false (by omega)
  by_cases b2 : n = 0
  · subst b2
    clear hS hnl b1
    go_enter Try.func12, Try.ntmps12
    go_wp2_with fail
    refine CA.out.mono ?_
    rintro e w1 ⟨rfl, hb1⟩
    go_wp2_with fail
    go_ret
    exact ⟨rfl, hb1⟩
  have g3 : ((n : Int) == 0) = false := beq_eq_false_iff_ne.2 (by omega)
  have g4 : (n == 0) = false := beq_eq_false_iff_ne.2 (by omega)
  by_cases b3 : k < 0
  · have g5 : decide (k < 0) = true := decide_eq_true b3
    clear hS hnl b1 b2
    go_enter Try.func12, Try.ntmps12
    go_wp2_with fail
    refine CA.out.mono ?_
    rintro e w1 ⟨rfl, hb1⟩
    go_wp2_with fail
    go_ret
    exact ⟨rfl, hb1⟩
  obtain ⟨k, rfl⟩ : ∃ q : Nat, k = (q : Int) := ⟨k.toNat, by omega⟩
  have g5 : decide ((k : Int) < 0) = false := decide_eq_false b3
  by_cases b4 : n ≤ k
  · have g6 : decide ((n : Int) ≤ (k : Int)) = true := decide_eq_true (by omega)
    have g7 : decide (n ≤ k) = true := decide_eq_true (by omega)
    clear hS hnl b1 b2 b3
    go_enter Try.func12, Try.ntmps12
    go_wp2_with fail
    refine CA.out.mono ?_
    rintro e w1 ⟨rfl, hb1⟩
    go_wp2_with fail
    go_ret
    exact ⟨rfl, hb1⟩
  have g6 : decide ((n : Int) ≤ (k : Int)) = false := decide_eq_false (by omega)
  have g7 : decide (n ≤ k) = false := decide_eq_false (by omega)
  have HS := Lib.hid hS
  have HNL := Lib.hid hnl
  have HN12 : Hid (n ≤ 12) := Lib.hid (by omega)
  have HKN : Hid (k < n) := Lib.hid (by omega)
  clear hS hnl b1 b2 b3 b4
  go_enter Try.func12, Try.ntmps12
  go_wp2_with fail
  refine CA.out.mono ?_
  rintro e w1 ⟨rfl, hb1⟩
  go_upto_block 0 with fail
  obtain ⟨W2, hW2⟩ : ∃ W2, W2 = (w1.alloc (.cells #[.bool true, .slice none 0 0, .slice none 0 0, .slice none 0 0] 67)).alloc (.cells #[.bool true, .slice none 0 0, .slice none 0 0, .slice none 0 0] 67) := ⟨_, rfl⟩
  have k1 : Blk W2 w1.heap.size 67 #[.bool true, .slice none 0 0, .slice none 0 0, .slice none 0 0] := by rw [hW2]; exact (Blk.new _ _ _).alloc _
  have k2 : Blk W2 (w1.heap.size + 1) 67 #[.bool true, .slice none 0 0, .slice none 0 0, .slice none 0 0] := by
    have := Blk.new (w1.alloc (.cells #[.bool true, .slice none 0 0, .slice none 0 0, .slice none 0 0] 67)) 67 #[.bool true, .slice none 0 0, .slice none 0 0, .slice none 0 0]
    rw [← hW2] at this
    simpa using this
  have hb2 : Below w.heap.size w W2 := by rw [hW2]; exact (hb1.alloc hb1.size _).alloc (by simp; have := hb1.size; omega) _
  rw [← hW2]
  have hbw : Below w1.heap.size w1 W2 := by rw [hW2]; exact ((Below.refl _ _).alloc (Nat.le_refl _) _).alloc (by simp) _
  have HBW := Lib.hid hbw
  have HB1 := Lib.hid hb1
  have HK1 := Lib.hid k1
  have HK2 := Lib.hid k2
  have HB2 := Lib.hid hb2
  clear hW2 k1 k2 hb2 hb1 hbw CA
  go_cut [] (fun wx => Hid (Later W2 wx) ∧ Hid (GoodL L))
  case first =>
    go_wp2_with fail
    go_loopw [7] (fun iv wr => ∃ i : Nat, i ≤ n ∧ iv = .int .i64 (i : Int) ∧ Hid (Later W2 wr) ∧ Hid (GoodL (L.take i))) (fun iv _ => n - (intOf iv).toNat)
    case atStart => exact ⟨0, Nat.zero_le _, rfl, Lib.hid (Later.refl _), Lib.hid (by simp [GoodL])⟩
    case round =>
      obtain ⟨i, hi, rfl, HJ, HG⟩ := hrel
      by_cases hlt : i < n
      · obtain ⟨ab, ao, z, rfl, hzm, hz, hc⟩ := strs_at HS.out hlt
        have SC : Hid (∀ V, Later W2 V → V.cell? ⟨ab, ao + i, none⟩ = some (.string z)) := Lib.hid fun V hV => hc V (HB2.out.trans ((show Below _ _ _ from hV).mono HB2.out.size))
        have HZ := Lib.hid hz
        have hc0 := SC.out wr HJ.out
        have i0 : (0 : Int) ≤ (i : Int) := by omega
        have i1 : (i : Int) < (n : Int) := by omega
        clear hc hz
        by_cases b5 : z.size < 1
        · go_wp2_with fail
          go_ret
          exact ⟨rfl, HB2.out.trans ((show Below _ _ _ from HJ.out).mono HB2.out.size)⟩
        by_cases b6 : 40 < z.size
        · go_wp2_with fail
          go_ret
          exact ⟨rfl, HB2.out.trans ((show Below _ _ _ from HJ.out).mono HB2.out.size)⟩
        go_wp2_with fail
        obtain ⟨wo, rfl⟩ : ∃ wo : World, wo = wr := ⟨_, rfl⟩
        go_loopw [8] (fun jv wr => ∃ m : Nat, m ≤ i ∧ jv = .int .i64 (m : Int) ∧ Hid (Later W2 wr) ∧ Hid (∀ q, q < m → L[q]? ≠ some z)) (fun jv _ => i - (intOf jv).toNat)
        case atStart => exact ⟨0, Nat.zero_le _, rfl, HJ, Lib.hid (fun _ h => absurd h (Nat.not_lt_zero _))⟩
        case round =>
          obtain ⟨m, hmi, rfl, HJ2, HN⟩ := hrel
          by_cases hlt2 : m < i
          · obtain ⟨ab', ao', y, he, hym, hy, hc⟩ := strs_at HS.out (j := m) (by omega)
            obtain ⟨rfl, rfl⟩ : ab = ab' ∧ ao = ao' := by simpa using he
            have SC2 : Hid (∀ V, Later W2 V → V.cell? ⟨ab, ao + m, none⟩ = some (.string y)) := Lib.hid fun V hV => hc V (HB2.out.trans ((show Below _ _ _ from hV).mono HB2.out.size))
            have HY := Lib.hid hy
            have j0 : (0 : Int) ≤ (m : Int) := by omega
            have j1 : (m : Int) < (n : Int) := by omega
            clear hc hy hc0 he
            by_cases e : y = z
            · subst e
              go_wp2_with fail
              have HL0 := Lib.hid (Later.refl wr)
              have ZF0 : Hid (∀ s, wr.heap.size ≤ s → wr.heap.size ≤ s) := Lib.hid (fun _ h => h)
              have ZS0 : Hid (∀ V, Later wr V → (Later wr) V) := Lib.hid (fun _ h => h)
              refine walk_start 9 (S := Later wr) (T := Later wr) (by kernel_rfl) (fun r => wr.heap.size ≤ r) (fun _ h => h.size) ZS0.out (closed_later _) (Later.refl _).drew ?_
              refine walk_take (i := 0) (d := some 61) (v := ?_) rfl rfl (by kernel_rfl) (fun _ _ _ h => h) (Or.inl ⟨by rfl, fun V hV => ?_⟩) ?_
              rotate_left 1
              · (clear hV; go_simp; (try with_reducible rfl))
              try simp only [Act.put, List.setIfInBounds_toArray, List.set_cons_zero, List.set_cons_succ]
              refine walk_take (i := 1) (d := some 62) (v := ?_) rfl rfl (by kernel_rfl) (fun _ _ _ h => h) (Or.inl ⟨by rfl, fun V hV => ?_⟩) ?_
              rotate_left 1
              · (clear hV; go_simp; (try with_reducible rfl))
              try simp only [Act.put, List.setIfInBounds_toArray, List.set_cons_zero, List.set_cons_succ]
              refine walk_take (i := 2) (d := some 63) (v := ?_) rfl rfl (by kernel_rfl) (fun _ _ _ h => h) (Or.inl ⟨by rfl, fun V hV => ?_⟩) ?_
              rotate_left 1
              · (clear hV; go_simp; (try with_reducible rfl))
              try simp only [Act.put, List.setIfInBounds_toArray, List.set_cons_zero, List.set_cons_succ]
              refine walk_take (i := 3) (d := some 64) (v := ?_) rfl rfl (by kernel_rfl) (fun _ _ _ h => h) (Or.inl ⟨by rfl, fun V hV => ?_⟩) ?_
              rotate_left 1
              · (have e0 := SC.out V (HJ2.out.trans (HL0.out.trans hV)); have e1 := SC2.out V (HJ2.out.trans (HL0.out.trans hV)); clear hV; go_simp; (try with_reducible rfl))
              try simp only [Act.put, List.setIfInBounds_toArray, List.set_cons_zero, List.set_cons_succ]
              refine walk_take (i := 4) (d := some 65) (v := ?_) rfl rfl (by kernel_rfl) (fun _ _ _ h => h) (Or.inl ⟨by rfl, fun V hV => ?_⟩) ?_
              rotate_left 1
              · (clear hV; go_simp; (try with_reducible rfl))
              try simp only [Act.put, List.setIfInBounds_toArray, List.set_cons_zero, List.set_cons_succ]
              refine walk_take (i := 5) (d := some 66) (v := ?_) rfl rfl (by kernel_rfl) (fun _ _ _ h => h) (Or.inl ⟨by rfl, fun V hV => ?_⟩) ?_
              rotate_left 1
              · (clear hV; go_simp; (try with_reducible rfl))
              try simp only [Act.put, List.setIfInBounds_toArray, List.set_cons_zero, List.set_cons_succ]
              refine walk_take (i := 6) (d := some 67) (v := ?_) rfl rfl (by kernel_rfl) (fun _ _ _ h => h) (Or.inl ⟨by rfl, fun V hV => ?_⟩) ?_
              rotate_left 1
              · (clear hV; go_simp; (try with_reducible rfl))
              try simp only [Act.put, List.setIfInBounds_toArray, List.set_cons_zero, List.set_cons_succ]
              refine walk_take (i := 7) (d := some 68) (v := ?_) rfl rfl (by kernel_rfl) (fun _ _ _ h => h) (Or.inl ⟨by rfl, fun V hV => ?_⟩) ?_
              rotate_left 1
              · (have e0 := SC.out V (HJ2.out.trans (HL0.out.trans hV)); have e1 := SC2.out V (HJ2.out.trans (HL0.out.trans hV)); clear hV; go_simp; (try with_reducible rfl))
              try simp only [Act.put, List.setIfInBounds_toArray, List.set_cons_zero, List.set_cons_succ]
              refine walk_take (i := 8) (d := some 69) (v := ?_) rfl rfl (by kernel_rfl) (fun _ _ _ h => h) (Or.inl ⟨by rfl, fun V hV => ?_⟩) ?_
              rotate_left 1
              · (clear hV; go_simp; (try with_reducible rfl))
              try simp only [Act.put, List.setIfInBounds_toArray, List.set_cons_zero, List.set_cons_succ]
              refine walk_exit (fun V hV => wpAnyJ_done (by kernel_rfl) ?_ _)
              have hV0 := HL0.out.trans hV
              have HZZ := Lib.hid (HB2.out.trans ((show Below _ _ _ from HJ2.out.trans hV0).mono HB2.out.size))
              clear hV hV0
              go_wp2_with fail
              go_ret
              exact ⟨rfl, HZZ.out⟩
            · have ne : (y.toList == z.toList) = false := by
                rw [beq_eq_false_iff_ne, ByteArray.toList_eq, ByteArray.toList_eq]
                exact fun h => e (Go.WideShapes.bytes_inj h)
              have HNE : Hid (∀ q, q < m + 1 → L[q]? ≠ some z) := Lib.hid fun q hq h => by
                by_cases hqm : q < m
                · exact HN.out q hqm h
                · obtain rfl : q = m := by omega
                  rw [HY.out] at h
                  injection h with h
                  exact e h
              clear e
              go_wp2_with fail
              have HL0 := Lib.hid (Later.refl wr)
              have ZF0 : Hid (∀ s, wr.heap.size ≤ s → wr.heap.size ≤ s) := Lib.hid (fun _ h => h)
              have ZS0 : Hid (∀ V, Later wr V → (Later wr) V) := Lib.hid (fun _ h => h)
              refine walk_start 9 (S := Later wr) (T := Later wr) (by kernel_rfl) (fun r => wr.heap.size ≤ r) (fun _ h => h.size) ZS0.out (closed_later _) (Later.refl _).drew ?_
              refine walk_take (i := 0) (d := some 61) (v := ?_) rfl rfl (by kernel_rfl) (fun _ _ _ h => h) (Or.inl ⟨by rfl, fun V hV => ?_⟩) ?_
              rotate_left 1
              · (clear hV; go_simp; (try with_reducible rfl))
              try simp only [Act.put, List.setIfInBounds_toArray, List.set_cons_zero, List.set_cons_succ]
              refine walk_take (i := 1) (d := some 62) (v := ?_) rfl rfl (by kernel_rfl) (fun _ _ _ h => h) (Or.inl ⟨by rfl, fun V hV => ?_⟩) ?_
              rotate_left 1
              · (clear hV; go_simp; (try with_reducible rfl))
              try simp only [Act.put, List.setIfInBounds_toArray, List.set_cons_zero, List.set_cons_succ]
              refine walk_take (i := 2) (d := some 63) (v := ?_) rfl rfl (by kernel_rfl) (fun _ _ _ h => h) (Or.inl ⟨by rfl, fun V hV => ?_⟩) ?_
              rotate_left 1
              · (clear hV; go_simp; (try with_reducible rfl))
              try simp only [Act.put, List.setIfInBounds_toArray, List.set_cons_zero, List.set_cons_succ]
              refine walk_take (i := 3) (d := some 64) (v := ?_) rfl rfl (by kernel_rfl) (fun _ _ _ h => h) (Or.inl ⟨by rfl, fun V hV => ?_⟩) ?_
              rotate_left 1
              · (have e0 := SC.out V (HJ2.out.trans (HL0.out.trans hV)); have e1 := SC2.out V (HJ2.out.trans (HL0.out.trans hV)); clear hV; go_simp; (try with_reducible rfl))
              try simp only [Act.put, List.setIfInBounds_toArray, List.set_cons_zero, List.set_cons_succ]
              refine walk_take (i := 4) (d := some 65) (v := ?_) rfl rfl (by kernel_rfl) (fun _ _ _ h => h) (Or.inl ⟨by rfl, fun V hV => ?_⟩) ?_
              rotate_left 1
              · (clear hV; go_simp; (try with_reducible rfl))
              try simp only [Act.put, List.setIfInBounds_toArray, List.set_cons_zero, List.set_cons_succ]
              refine walk_take (i := 5) (d := some 66) (v := ?_) rfl rfl (by kernel_rfl) (fun _ _ _ h => h) (Or.inl ⟨by rfl, fun V hV => ?_⟩) ?_
              rotate_left 1
              · (clear hV; go_simp; (try with_reducible rfl))
              try simp only [Act.put, List.setIfInBounds_toArray, List.set_cons_zero, List.set_cons_succ]
              refine walk_take (i := 6) (d := some 67) (v := ?_) rfl rfl (by kernel_rfl) (fun _ _ _ h => h) (Or.inl ⟨by rfl, fun V hV => ?_⟩) ?_
              rotate_left 1
              · (clear hV; go_simp; (try with_reducible rfl))
              try simp only [Act.put, List.setIfInBounds_toArray, List.set_cons_zero, List.set_cons_succ]
              refine walk_take (i := 7) (d := some 68) (v := ?_) rfl rfl (by kernel_rfl) (fun _ _ _ h => h) (Or.inl ⟨by rfl, fun V hV => ?_⟩) ?_
              rotate_left 1
              · (have e0 := SC.out V (HJ2.out.trans (HL0.out.trans hV)); have e1 := SC2.out V (HJ2.out.trans (HL0.out.trans hV)); clear hV; go_simp; (try with_reducible rfl))
              try simp only [Act.put, List.setIfInBounds_toArray, List.set_cons_zero, List.set_cons_succ]
              refine walk_take (i := 8) (d := some 69) (v := ?_) rfl rfl (by kernel_rfl) (fun _ _ _ h => h) (Or.inl ⟨by rfl, fun V hV => ?_⟩) ?_
              rotate_left 1
              · (clear hV; go_simp; (try with_reducible rfl))
              try simp only [Act.put, List.setIfInBounds_toArray, List.set_cons_zero, List.set_cons_succ]
              refine walk_exit (fun V hV => wpAnyJ_done (by kernel_rfl) ?_ _)
              have hV0 := HL0.out.trans hV
              have HV0 := Lib.hid (HJ2.out.trans hV0)
              clear hV hV0
              go_wp2_with fail
              go_roundw
              case rel => exact ⟨m + 1, by omega, by go_num, HV0, HNE⟩
              case measure => simp [intOf]; omega
          · obtain rfl : m = i := by omega
            have HG2 : Hid (GoodL (L.take (m + 1))) := Lib.hid (HG.out.more HZ.out (by omega) (by omega) HN.out)
            clear hmi hlt2 hc0
            go_wp2_with fail
            go_roundw
            case rel => exact ⟨m + 1, by omega, by go_num, HJ2, HG2⟩
            case measure => simp [intOf]; omega
      · obtain rfl : i = n := by omega
        have HG2 : Hid (GoodL L) := Lib.hid (by have := HG.out; rw [List.take_of_length_le (by rw [HNL.out]; exact Nat.le_refl _)] at this; exact this)
        clear HG hi hlt
        go_wp2_with fail
        go_meet
        exact ⟨HJ, HG2⟩
  case rest =>
    obtain ⟨HJ, HG⟩ := hcut
    obtain ⟨wa, rfl⟩ : ∃ wa : World, wa = wc := ⟨_, rfl⟩
    have HBA : Hid (Below w1.heap.size w1 wa) := Lib.hid (HBW.out.trans ((show Below _ _ _ from HJ.out).mono HBW.out.size))
    have HA : Hid (AtP wa w1.heap.size (insAll (L.take 0))) := Lib.hid (AtP.below ⟨none, 0, none, 0, none, 0, HK1.out, ⟨Kd.C_nil _ _, Nat.le_refl _, Kd.C_nil _ _, Nat.le_refl _, Kd.C_nil _ _, Nat.le_refl _⟩⟩ HJ.out)
    have HB : Hid (AtP wa (w1.heap.size + 1) (insAll (L.reverse.take 0))) := Lib.hid (AtP.below ⟨none, 0, none, 0, none, 0, HK2.out, ⟨Kd.C_nil _ _, Nat.le_refl _, Kd.C_nil _ _, Nat.le_refl _, Kd.C_nil _ _, Nat.le_refl _⟩⟩ HJ.out)
    clear HJ HK1 HK2 HB2 HBW
    go_upto_block 4 with fail
    go_cut [] (fun wx => Hid (Below w1.heap.size w1 wx) ∧ Hid (AtP wx w1.heap.size (insAll L)) ∧ Hid (AtP wx (w1.heap.size + 1) (insAll L)))
    case first =>
      go_wp2_with fail
      go_loopw [9] (fun iv wr => ∃ i : Nat, i ≤ n ∧ iv = .int .i64 (i : Int) ∧ Hid (Below w1.heap.size w1 wr) ∧ Hid (AtP wr w1.heap.size (insAll (L.take i))) ∧ Hid (AtP wr (w1.heap.size + 1) (insAll (L.reverse.take i)))) (fun iv _ => n - (intOf iv).toNat)
      case atStart => exact ⟨0, Nat.zero_le _, rfl, HBA, HA, HB⟩
      case round =>
        clear HBA HA HB
        obtain ⟨i, hi, rfl, HBA, HA, HB⟩ := hrel
        by_cases hlt : i < n
        · obtain ⟨ab, ao, z, rfl, hzm, hz, hc⟩ := strs_at HS.out hlt
          obtain ⟨ab', ao', y, he, hym, hy, hc'⟩ := strs_at HS.out (j := n - 1 - i) (by omega)
          obtain ⟨rfl, rfl⟩ : ab = ab' ∧ ao = ao' := by simpa using he
          have SC : Hid (∀ V, Below w1.heap.size w1 V → V.cell? ⟨ab, ao + i, none⟩ = some (.string z) ∧ V.cell? ⟨ab, ao + (n - 1 - i), none⟩ = some (.string y)) := Lib.hid fun V hV => ⟨hc V (HB1.out.trans (hV.mono HB1.out.size)), hc' V (HB1.out.trans (hV.mono HB1.out.size))⟩
          have i0 : (0 : Int) ≤ (i : Int) := by omega
          have i1 : (i : Int) < (n : Int) := by omega
          have I2 : Hid ((0 : Int) ≤ (n : Int) - 1 - (i : Int)) := Lib.hid (by omega)
          have I3 : Hid ((n : Int) - 1 - (i : Int) < (n : Int)) := Lib.hid (by omega)
          have e5 : (n : Int) - 1 - (i : Int) = ((n - 1 - i : Nat) : Int) := by omega
          have HE5 := Lib.hid e5
          clear e5
          have hfa := insAll_facts (L.take i)
          have hfb := insAll_facts (L.reverse.take i)
          have ea : insAll (L.take (i + 1)) = insK (insAll (L.take i)) z := by
            obtain ⟨hi', rfl⟩ := List.getElem?_eq_some_iff.1 hz
            rw [take_snoc' hi', insAll_snoc]
          have eb : insAll (L.reverse.take (i + 1)) = insK (insAll (L.reverse.take i)) y := by
            obtain ⟨hi', rfl⟩ := List.getElem?_eq_some_iff.1 hy
            have hl := HNL.out
            rw [take_snoc' (by rw [List.length_reverse]; omega), insAll_snoc, List.getElem_reverse]
            congr 2
            omega
          have HEA := Lib.hid ea
          have HEB := Lib.hid eb
          have HFA : Hid (Rise (insAll (L.take i)) ∧ Few (O (insAll (L.take i)))) := Lib.hid ⟨hfa.1, few_O (by have := HN12.out; have := hfa.2.2; rw [List.length_take] at this; omega)⟩
          have HFB : Hid (Rise (insAll (L.reverse.take i)) ∧ Few (O (insAll (L.reverse.take i)))) := Lib.hid ⟨hfb.1, few_O (by have := HN12.out; have := hfb.2.2; rw [List.length_take] at this; omega)⟩
          clear hc hc' he hz hy ea eb hfa hfb
          generalize insAll (L.take i) = la at *
          generalize insAll (L.reverse.take i) = lb at *
          generalize hLA : insAll (L.take (i + 1)) = la' at *
          generalize hLB : insAll (L.reverse.take (i + 1)) = lb' at *
          have HLA := Lib.hid hLA
          have HLB := Lib.hid hLB
          clear hLA hLB
          obtain ⟨A1, a1, A2, a2, A3, a3, ka, pa⟩ := HA.out
          have SA : Hid (∀ V, Later wr V → V.cell? ⟨w1.heap.size, 0, none⟩ = some (.bool true) ∧ V.cell? ⟨w1.heap.size, 1, none⟩ = some (.slice A1 la.length a1) ∧ V.cell? ⟨w1.heap.size, 2, none⟩ = some (.slice A2 la.length a2) ∧ V.cell? ⟨w1.heap.size, 3, none⟩ = some (.slice A3 0 a3)) := Lib.hid fun V hV => cells4 (ka.below hV ka.lt)
          have PA := Lib.hid pa
          clear ka pa
          obtain ⟨s0, s1⟩ := SC.out wr HBA.out
          go_upto_region 20 with fail
          have HL0 := Lib.hid (Later.refl wr)
          have ZF0 : Hid (∀ s, wr.heap.size ≤ s → wr.heap.size ≤ s) := Lib.hid (fun _ h => h)
          have ZS0 : Hid (∀ V, Later wr V → (Later wr) V) := Lib.hid (fun _ h => h)
          refine walk_start 10 (S := Later wr) (T := Later wr) (by kernel_rfl) (fun r => wr.heap.size ≤ r) (fun _ h => h.size) ZS0.out (closed_later _) (Later.refl _).drew ?_
          refine walk_take (i := 0) (d := some 76) (v := ?_) rfl rfl (by kernel_rfl) (fun _ _ _ h => h) (Or.inl ⟨by rfl, fun V hV => ?_⟩) ?_
          rotate_left 1
          · (obtain ⟨q0, q1, q2, q3⟩ := SA.out V (HL0.out.trans hV); obtain ⟨s0, s1⟩ := SC.out V (HBA.out.trans ((show Below _ _ _ from (HL0.out.trans hV)).mono HBA.out.size)); clear hV; go_simp; (try with_reducible rfl))
          try simp only [Act.put, List.setIfInBounds_toArray, List.set_cons_zero, List.set_cons_succ]
          refine walk_take (i := 1) (d := some 77) (v := ?_) rfl rfl (by kernel_rfl) (fun _ _ _ h => h) (Or.inl ⟨by rfl, fun V hV => ?_⟩) ?_
          rotate_left 1
          · (clear hV; go_simp; (try with_reducible rfl))
          try simp only [Act.put, List.setIfInBounds_toArray, List.set_cons_zero, List.set_cons_succ]
          refine walk_take (i := 2) (d := some 78) (v := ?_) rfl rfl (by kernel_rfl) (fun _ _ _ h => h) (Or.inl ⟨by rfl, fun V hV => ?_⟩) ?_
          rotate_left 1
          · (clear hV; go_simp; (try with_reducible rfl))
          try simp only [Act.put, List.setIfInBounds_toArray, List.set_cons_zero, List.set_cons_succ]
          refine walk_take (i := 3) (d := some 79) (v := ?_) rfl rfl (by kernel_rfl) (fun _ _ _ h => h) (Or.inl ⟨by rfl, fun V hV => ?_⟩) ?_
          rotate_left 1
          · (clear hV; go_simp; (try with_reducible rfl))
          try simp only [Act.put, List.setIfInBounds_toArray, List.set_cons_zero, List.set_cons_succ]
          refine walk_take (i := 4) (d := some 80) (v := ?_) rfl rfl (by kernel_rfl) (fun _ _ _ h => h) (Or.inl ⟨by rfl, fun V hV => ?_⟩) ?_
          rotate_left 1
          · (obtain ⟨q0, q1, q2, q3⟩ := SA.out V (HL0.out.trans hV); obtain ⟨s0, s1⟩ := SC.out V (HBA.out.trans ((show Below _ _ _ from (HL0.out.trans hV)).mono HBA.out.size)); clear hV; go_simp; (try with_reducible rfl))
          try simp only [Act.put, List.setIfInBounds_toArray, List.set_cons_zero, List.set_cons_succ]
          refine walk_take (i := 5) (d := some 81) (v := ?_) rfl rfl (by kernel_rfl) (fun _ _ _ h => h) (Or.inl ⟨by rfl, fun V hV => ?_⟩) ?_
          rotate_left 1
          · (clear hV; go_simp; (try with_reducible rfl))
          try simp only [Act.put, List.setIfInBounds_toArray, List.set_cons_zero, List.set_cons_succ]
          refine walk_take (i := 6) (d := some 82) (v := ?_) rfl rfl (by kernel_rfl) (fun _ _ _ h => h) (Or.inl ⟨by rfl, fun V hV => ?_⟩) ?_
          rotate_left 1
          · (clear hV; go_simp; (try with_reducible rfl))
          try simp only [Act.put, List.setIfInBounds_toArray, List.set_cons_zero, List.set_cons_succ]
          refine walk_take (i := 7) (d := some 83) (v := ?_) rfl rfl (by kernel_rfl) (fun _ _ _ h => h) (Or.inl ⟨by rfl, fun V hV => ?_⟩) ?_
          rotate_left 1
          · (clear hV; go_simp; (try with_reducible rfl))
          try simp only [Act.put, List.setIfInBounds_toArray, List.set_cons_zero, List.set_cons_succ]
          refine walk_take (i := 8) (d := some 84) (v := ?_) rfl rfl (by kernel_rfl) (fun _ _ _ h => h) (Or.inl ⟨by rfl, fun V hV => ?_⟩) ?_
          rotate_left 1
          · (obtain ⟨q0, q1, q2, q3⟩ := SA.out V (HL0.out.trans hV); obtain ⟨s0, s1⟩ := SC.out V (HBA.out.trans ((show Below _ _ _ from (HL0.out.trans hV)).mono HBA.out.size)); clear hV; go_simp; (try with_reducible rfl))
          try simp only [Act.put, List.setIfInBounds_toArray, List.set_cons_zero, List.set_cons_succ]
          refine walk_core 9 rfl (by kernel_rfl) (fun _ _ _ _ _ h => h) (fun V hV K hK => ?_)
          have hV0 := HL0.out.trans hV
          go_simp
          go_at_call 49
          refine (put_any (p := O la) z z (PA.out.below hV0) HFA.out.2 HFA.out.1 (fun _ => rfl)).mono ?_
          rintro e x9 ⟨hb, hm9⟩
          obtain ⟨B1, d1, B2, d2, B3, d3, rfl, hp9⟩ := putd la z hm9
          rw [← HEA.out] at hp9
          rw [← HEA.out]
          have HP9 := Lib.hid hp9
          clear hm9 hp9
          have HT9 := Lib.hid (hV.of hb)
          have HL1 := Lib.hid (hV0.of hb)
          have hsize := hb.size
          have hkeep := fun (r : Nat) (_ : True) (h : r < V.heap.size) => hb.block r h
          have ZF1 : Hid (∀ s, x9.heap.size ≤ s → _) := Lib.hid (fun s h => ZF0.out s (Nat.le_trans hV.size (Nat.le_trans hsize h)))
          refine hK.out _ _ (Later x9) (Later x9) _ (fun r _ h => hkeep r trivial h) (fun _ h _ => h) (fun V' h => (hV.of hb).trans h) (fun _ h => h) (fun V' h => ZF1.out _ h.size) (Later.refl _) (closed_later _) ?_
          clear hK K hV hsize hkeep hV0 hb
          try simp only [Act.put, List.setIfInBounds_toArray, List.set_cons_zero, List.set_cons_succ]
          refine walk_exit (fun V hV => ?_)
          have hV0 := HL1.out.trans hV
          try simp only [Act.put, List.setIfInBounds_toArray, List.set_cons_zero, List.set_cons_succ]
          have hav := HA.out.below hV0
          have hbv := HB.out.below hV0
          have hp9 := HP9.out.below hV
          obtain ⟨_, _, _, _, _, _, kv, _⟩ := hav
          obtain ⟨z0, z1, z2, z3⟩ := cells4 kv
          have f0 := kv.frozen 0
          have f1 := kv.frozen 1
          have f2 := kv.frozen 2
          have f3 := kv.frozen 3
          have hav := HA.out.below hV0
          have HAV := Lib.hid hav
          have HBV := Lib.hid hbv
          have HPV := Lib.hid hp9
          have HVV := Lib.hid (HBA.out.trans ((show Below _ _ _ from hV0).mono HBA.out.size))
          clear hav hbv hp9 kv hV hV0
          refine wpAnyJ_one (i := 10) (by kernel_rfl) rfl (fun K hK => ?_)
          simp only [List.getElem_toArray, List.getElem_cons_succ, List.getElem_cons_zero]
          go_simp
          refine hK.out _ _ (fun h _ => absurd rfl h) ?_
          clear hK K
          try simp only [Act.put, List.setIfInBounds_toArray, List.set_cons_zero, List.set_cons_succ]
          refine wpAnyJ_done (by kernel_rfl) ?_ _
          obtain ⟨W3, hW3⟩ : ∃ W3, W3 = (((V.setCell ⟨w1.heap.size, 0, none⟩ (.bool true)).setCell ⟨w1.heap.size, 1, none⟩ (.slice B1 la'.length d1)).setCell ⟨w1.heap.size, 2, none⟩ (.slice B2 la'.length d2)).setCell ⟨w1.heap.size, 3, none⟩ (.slice B3 0 d3) := ⟨_, rfl⟩
          have a3 : AtP W3 w1.heap.size la' := by rw [hW3]; exact HAV.out.put HPV.out
          have b3 : AtP W3 (w1.heap.size + 1) lb := by rw [hW3]; exact HBV.out.far HAV.out (by omega)
          have c3 : Below w1.heap.size w1 W3 := by rw [hW3]; exact (((HVV.out.setCell (p := ⟨w1.heap.size, 0, none⟩) (Nat.le_refl _) _).setCell (p := ⟨w1.heap.size, 1, none⟩) (Nat.le_refl _) _).setCell (p := ⟨w1.heap.size, 2, none⟩) (Nat.le_refl _) _).setCell (p := ⟨w1.heap.size, 3, none⟩) (Nat.le_refl _) _
          rw [← hW3]
          clear hW3 z0 z1 z2 z3 f0 f1 f2 f3 HAV HBV HPV HVV HA HB HBA SA PA s0 s1
          obtain ⟨A1, a1, A2, a2, A3, a3', kb, pb⟩ := b3
          have SA : Hid (∀ V, Later W3 V → V.cell? ⟨w1.heap.size + 1, 0, none⟩ = some (.bool true) ∧ V.cell? ⟨w1.heap.size + 1, 1, none⟩ = some (.slice A1 lb.length a1) ∧ V.cell? ⟨w1.heap.size + 1, 2, none⟩ = some (.slice A2 lb.length a2) ∧ V.cell? ⟨w1.heap.size + 1, 3, none⟩ = some (.slice A3 0 a3')) := Lib.hid fun V hV => cells4 (kb.below hV kb.lt)
          have PA := Lib.hid pb
          have HA := Lib.hid a3
          have HB : Hid (AtP W3 (w1.heap.size + 1) lb) := Lib.hid ⟨A1, a1, A2, a2, A3, a3', kb, pb⟩
          have HBA := Lib.hid c3
          clear kb pb a3 c3
          obtain ⟨s0, s1⟩ := SC.out W3 HBA.out
          go_upto_region 22 with fail
          have e5 := HE5.out
          have i2 := I2.out
          have i3 := I3.out
          clear I2 I3
          rw [e5] at i2 i3 ⊢
          clear e5 HE5
          generalize n - 1 - i = jq at *
          have HL0 := Lib.hid (Later.refl W3)
          have ZF0 : Hid (∀ s, W3.heap.size ≤ s → W3.heap.size ≤ s) := Lib.hid (fun _ h => h)
          have ZS0 : Hid (∀ V, Later W3 V → (Later W3) V) := Lib.hid (fun _ h => h)
          refine walk_start 10 (S := Later W3) (T := Later W3) (by kernel_rfl) (fun r => W3.heap.size ≤ r) (fun _ h => h.size) ZS0.out (closed_later _) (Later.refl _).drew ?_
          refine walk_take (i := 0) (d := some 91) (v := ?_) rfl rfl (by kernel_rfl) (fun _ _ _ h => h) (Or.inl ⟨by rfl, fun V hV => ?_⟩) ?_
          rotate_left 1
          · (obtain ⟨q0, q1, q2, q3⟩ := SA.out V (HL0.out.trans hV); obtain ⟨s0, s1⟩ := SC.out V (HBA.out.trans ((show Below _ _ _ from (HL0.out.trans hV)).mono HBA.out.size)); clear hV; go_simp; (try with_reducible rfl))
          try simp only [Act.put, List.setIfInBounds_toArray, List.set_cons_zero, List.set_cons_succ]
          refine walk_take (i := 1) (d := some 92) (v := ?_) rfl rfl (by kernel_rfl) (fun _ _ _ h => h) (Or.inl ⟨by rfl, fun V hV => ?_⟩) ?_
          rotate_left 1
          · (clear hV; go_simp; (try with_reducible rfl))
          try simp only [Act.put, List.setIfInBounds_toArray, List.set_cons_zero, List.set_cons_succ]
          refine walk_take (i := 2) (d := some 93) (v := ?_) rfl rfl (by kernel_rfl) (fun _ _ _ h => h) (Or.inl ⟨by rfl, fun V hV => ?_⟩) ?_
          rotate_left 1
          · (clear hV; go_simp; (try with_reducible rfl))
          try simp only [Act.put, List.setIfInBounds_toArray, List.set_cons_zero, List.set_cons_succ]
          refine walk_take (i := 3) (d := some 94) (v := ?_) rfl rfl (by kernel_rfl) (fun _ _ _ h => h) (Or.inl ⟨by rfl, fun V hV => ?_⟩) ?_
          rotate_left 1
          · (clear hV; go_simp; (try with_reducible rfl))
          try simp only [Act.put, List.setIfInBounds_toArray, List.set_cons_zero, List.set_cons_succ]
          refine walk_take (i := 4) (d := some 95) (v := ?_) rfl rfl (by kernel_rfl) (fun _ _ _ h => h) (Or.inl ⟨by rfl, fun V hV => ?_⟩) ?_
          rotate_left 1
          · (obtain ⟨q0, q1, q2, q3⟩ := SA.out V (HL0.out.trans hV); obtain ⟨s0, s1⟩ := SC.out V (HBA.out.trans ((show Below _ _ _ from (HL0.out.trans hV)).mono HBA.out.size)); clear hV; go_simp; (try with_reducible rfl))
          try simp only [Act.put, List.setIfInBounds_toArray, List.set_cons_zero, List.set_cons_succ]
          refine walk_take (i := 5) (d := some 96) (v := ?_) rfl rfl (by kernel_rfl) (fun _ _ _ h => h) (Or.inl ⟨by rfl, fun V hV => ?_⟩) ?_
          rotate_left 1
          · (clear hV; go_simp; (try with_reducible rfl))
          try simp only [Act.put, List.setIfInBounds_toArray, List.set_cons_zero, List.set_cons_succ]
          refine walk_take (i := 6) (d := some 97) (v := ?_) rfl rfl (by kernel_rfl) (fun _ _ _ h => h) (Or.inl ⟨by rfl, fun V hV => ?_⟩) ?_
          rotate_left 1
          · (clear hV; go_simp; (try with_reducible rfl))
          try simp only [Act.put, List.setIfInBounds_toArray, List.set_cons_zero, List.set_cons_succ]
          refine walk_take (i := 7) (d := some 98) (v := ?_) rfl rfl (by kernel_rfl) (fun _ _ _ h => h) (Or.inl ⟨by rfl, fun V hV => ?_⟩) ?_
          rotate_left 1
          · (clear hV; go_simp; (try with_reducible rfl))
          try simp only [Act.put, List.setIfInBounds_toArray, List.set_cons_zero, List.set_cons_succ]
          refine walk_take (i := 8) (d := some 99) (v := ?_) rfl rfl (by kernel_rfl) (fun _ _ _ h => h) (Or.inl ⟨by rfl, fun V hV => ?_⟩) ?_
          rotate_left 1
          · (obtain ⟨q0, q1, q2, q3⟩ := SA.out V (HL0.out.trans hV); obtain ⟨s0, s1⟩ := SC.out V (HBA.out.trans ((show Below _ _ _ from (HL0.out.trans hV)).mono HBA.out.size)); clear hV; go_simp; (try with_reducible rfl))
          try simp only [Act.put, List.setIfInBounds_toArray, List.set_cons_zero, List.set_cons_succ]
          refine walk_core 9 rfl (by kernel_rfl) (fun _ _ _ _ _ h => h) (fun V hV K hK => ?_)
          have hV0 := HL0.out.trans hV
          go_simp
          go_at_call 49
          refine (put_any (p := O lb) y y (PA.out.below hV0) HFB.out.2 HFB.out.1 (fun _ => rfl)).mono ?_
          rintro e x9 ⟨hb, hm9⟩
          obtain ⟨D1, f1, D2, f2, D3, f3, rfl, hp9⟩ := putd lb y hm9
          rw [← HEB.out] at hp9
          rw [← HEB.out]
          have HP9 := Lib.hid hp9
          clear hm9 hp9
          have HT9 := Lib.hid (hV.of hb)
          have HL1 := Lib.hid (hV0.of hb)
          have hsize := hb.size
          have hkeep := fun (r : Nat) (_ : True) (h : r < V.heap.size) => hb.block r h
          have ZF1 : Hid (∀ s, x9.heap.size ≤ s → _) := Lib.hid (fun s h => ZF0.out s (Nat.le_trans hV.size (Nat.le_trans hsize h)))
          refine hK.out _ _ (Later x9) (Later x9) _ (fun r _ h => hkeep r trivial h) (fun _ h _ => h) (fun V' h => (hV.of hb).trans h) (fun _ h => h) (fun V' h => ZF1.out _ h.size) (Later.refl _) (closed_later _) ?_
          clear hK K hV hsize hkeep hV0 hb
          try simp only [Act.put, List.setIfInBounds_toArray, List.set_cons_zero, List.set_cons_succ]
          refine walk_exit (fun V hV => ?_)
          have hV0 := HL1.out.trans hV
          try simp only [Act.put, List.setIfInBounds_toArray, List.set_cons_zero, List.set_cons_succ]
          have hav := HA.out.below hV0
          have hbv := HB.out.below hV0
          have hp9 := HP9.out.below hV
          obtain ⟨_, _, _, _, _, _, kv, _⟩ := hbv
          obtain ⟨z0, z1, z2, z3⟩ := cells4 kv
          have fz0 := kv.frozen 0
          have fz1 := kv.frozen 1
          have fz2 := kv.frozen 2
          have fz3 := kv.frozen 3
          have hbv := HB.out.below hV0
          have HAV := Lib.hid hav
          have HBV := Lib.hid hbv
          have HPV := Lib.hid hp9
          have HVV := Lib.hid (HBA.out.trans ((show Below _ _ _ from hV0).mono HBA.out.size))
          clear hav hbv hp9 kv hV hV0
          refine wpAnyJ_one (i := 10) (by kernel_rfl) rfl (fun K hK => ?_)
          simp only [List.getElem_toArray, List.getElem_cons_succ, List.getElem_cons_zero]
          go_simp
          refine hK.out _ _ (fun h _ => absurd rfl h) ?_
          clear hK K
          try simp only [Act.put, List.setIfInBounds_toArray, List.set_cons_zero, List.set_cons_succ]
          refine wpAnyJ_done (by kernel_rfl) ?_ _
          obtain ⟨W4, hW4⟩ : ∃ W4, W4 = (((V.setCell ⟨w1.heap.size + 1, 0, none⟩ (.bool true)).setCell ⟨w1.heap.size + 1, 1, none⟩ (.slice D1 lb'.length f1)).setCell ⟨w1.heap.size + 1, 2, none⟩ (.slice D2 lb'.length f2)).setCell ⟨w1.heap.size + 1, 3, none⟩ (.slice D3 0 f3) := ⟨_, rfl⟩
          have b4 : AtP W4 (w1.heap.size + 1) lb' := by rw [hW4]; exact HBV.out.put HPV.out
          have a4 : AtP W4 w1.heap.size la' := by rw [hW4]; exact HAV.out.far HBV.out (by omega)
          have c4 : Below w1.heap.size w1 W4 := by rw [hW4]; exact (((HVV.out.setCell (p := ⟨w1.heap.size + 1, 0, none⟩) (by simp) _).setCell (p := ⟨w1.heap.size + 1, 1, none⟩) (by simp) _).setCell (p := ⟨w1.heap.size + 1, 2, none⟩) (by simp) _).setCell (p := ⟨w1.heap.size + 1, 3, none⟩) (by simp) _
          rw [← hW4]
          have HA4 := Lib.hid a4
          have HB4 := Lib.hid b4
          have HC4 := Lib.hid c4
          clear hW4 z0 z1 z2 z3 fz0 fz1 fz2 fz3 HAV HBV HPV HVV HA HB HBA SA PA s0 s1 a4 b4 c4 HEA HEB
          go_wp2_with fail
          go_roundw
          case rel => exact ⟨i + 1, by omega, by go_num, HC4, Lib.hid (by rw [HLA.out]; exact HA4.out), Lib.hid (by rw [HLB.out]; exact HB4.out)⟩
          case measure => simp [intOf]; omega
        · obtain rfl : i = n := by omega
          have HA2 : Hid (AtP wr w1.heap.size (insAll L)) := Lib.hid (by have := HA.out; rw [List.take_of_length_le (by rw [HNL.out]; exact Nat.le_refl _)] at this; exact this)
          have HB2 : Hid (AtP wr (w1.heap.size + 1) (insAll L)) := Lib.hid (by have := HB.out; rw [List.take_of_length_le (by rw [List.length_reverse, HNL.out]; exact Nat.le_refl _), insAll_rev] at this; exact this)
          clear HA HB hi hlt
          go_wp2_with fail
          go_meet
          exact ⟨HBA, HA2, HB2⟩
    case rest =>
      clear HBA HA HB
      obtain ⟨HBA, HA, HB⟩ := hcut
      obtain ⟨wf, rfl⟩ : ∃ wf : World, wf = wc := ⟨_, rfl⟩
      have HBF : Hid (Below w.heap.size w wf) := Lib.hid (HB1.out.trans (HBA.out.mono HB1.out.size))
      have hfa := insAll_facts L
      have hlen := insAll_length HG.out.1
      obtain ⟨ab, ao, z, rfl, hzm, hz, hc⟩ := strs_at HS.out HKN.out
      have HR : Hid (Rise (insAll L)) := Lib.hid hfa.1
      have HLN : Hid ((insAll L).length = n) := Lib.hid (by rw [hlen]; exact HNL.out)
      have HSZ : Hid (∀ x ∈ insAll L, x.size ≤ 40) := Lib.hid fun x hx => (HG.out.2 x ((hfa.2.1 x).1 hx)).2
      have HM : Hid (z ∈ insAll L) := Lib.hid ((hfa.2.1 z).2 (List.mem_of_getElem? hz))
      have SZ : Hid (∀ V, Later wf V → V.cell? ⟨ab, ao + k, none⟩ = some (.string z)) := Lib.hid fun V hV => hc V (HBF.out.trans ((show Below _ _ _ from hV).mono HBF.out.size))
      clear hfa hlen hzm hz hc HBA HG HNL HS
      generalize insAll L = l at *
      have en := HLN.out
      clear HLN
      subst en
      have i0 : (0 : Int) ≤ (k : Int) := by omega
      have i1 : (k : Int) < (l.length : Int) := by have := HKN.out; omega
      obtain ⟨A1, a1, A2, a2, A3, a3, ka, pa⟩ := HA.out
      obtain ⟨B1, b1, B2, b2, B3, b3, kb, pb⟩ := HB.out
      have SA : Hid (∀ V, Later wf V → V.cell? ⟨w1.heap.size, 0, none⟩ = some (.bool true) ∧ V.cell? ⟨w1.heap.size, 1, none⟩ = some (.slice A1 l.length a1) ∧ V.cell? ⟨w1.heap.size, 2, none⟩ = some (.slice A2 l.length a2) ∧ V.cell? ⟨w1.heap.size, 3, none⟩ = some (.slice A3 0 a3)) := Lib.hid fun V hV => cells4 (ka.below hV ka.lt)
      have SB : Hid (∀ V, Later wf V → V.cell? ⟨w1.heap.size + 1, 0, none⟩ = some (.bool true) ∧ V.cell? ⟨w1.heap.size + 1, 1, none⟩ = some (.slice B1 l.length b1) ∧ V.cell? ⟨w1.heap.size + 1, 2, none⟩ = some (.slice B2 l.length b2) ∧ V.cell? ⟨w1.heap.size + 1, 3, none⟩ = some (.slice B3 0 b3)) := Lib.hid fun V hV => cells4 (kb.below hV kb.lt)
      have PA := Lib.hid pa
      have PB := Lib.hid pb
      have HKA := Lib.hid ka
      have HEN : Hid (Enc (O l)) := Lib.hid (enc_O (by have := HN12.out; omega) HSZ.out)
      have HFL : Hid (Few (O l)) := Lib.hid (few_O HN12.out)
      have CE : Hid (∀ V A1 c1 A2 c2 A3 c3, PgR V A1 c1 A2 c2 A3 c3 (O l) → Calls Try.prog 42 #[.agg #[.bool true, .slice A1 l.length c1, .slice A2 l.length c2, .slice A3 0 c3]] V fun e w' => Below V.heap.size V w' ∧ ∃ A c, e = .returned (.slice A (encP (O l)).length c) ∧ ∀ V', Later w' V' → (convert 36 9 (.slice A (encP (O l)).length c)).run Try.prog V' = .ok (.string ⟨(encP (O l)).toArray⟩) V') := Lib.hid fun V A1 c1 A2 c2 A3 c3 hp => by
        refine (encode_any hp HEN.out).mono ?_
        rintro e w' ⟨hb, A, c, rfl, hq⟩
        exact ⟨hb, A, c, rfl, fun V' hV' => conv_b (hq.below hV')⟩
      have HFD : Hid (Few (O (delK l z))) := Lib.hid (few_O (by
        have := HN12.out
        unfold delK
        split
        · simp only [List.length_append, List.length_take, List.length_drop]; omega
        · exact this))
      have HRD : Hid (Rise (delK l z)) := Lib.hid (del_rise HR.out z)
      have HID : Hid (insK (delK l z) z = l) := Lib.hid (ins_del HR.out HM.out)
      have HNT : Hid (thereB (delK l z) z = false) := Lib.hid (not_there_del HR.out z)
      have CD : Hid (∀ V A1 c1 A2 c2 A3 c3, PgR V A1 c1 A2 c2 A3 c3 (O l) → Calls Try.prog 52 #[.agg #[.bool true, .slice A1 l.length c1, .slice A2 l.length c2, .slice A3 0 c3], .string z] V fun e w' => Below V.heap.size V w' ∧ ∃ B1 d1 B2 d2 B3 d3, e = .returned (.agg #[.bool true, .slice B1 (delK l z).length d1, .slice B2 (delK l z).length d2, .slice B3 0 d3]) ∧ PgR w' B1 d1 B2 d2 B3 d3 (O (delK l z))) := Lib.hid fun V A1 c1 A2 c2 A3 c3 hp => by
        refine (drop_any (p := O l) z hp HFL.out HR.out (fun _ => rfl)).mono ?_
        rintro e w' ⟨hb, hq⟩
        exact ⟨hb, dropd l z hq⟩
      have CP : Hid (∀ V A1 c1 A2 c2 A3 c3, PgR V A1 c1 A2 c2 A3 c3 (O (delK l z)) → Calls Try.prog 49 #[.agg #[.bool true, .slice A1 (delK l z).length c1, .slice A2 (delK l z).length c2, .slice A3 0 c3], .string z, .string z] V fun e w' => Below V.heap.size V w' ∧ ∃ B1 d1 B2 d2 B3 d3, e = .returned (.agg #[.bool true, .slice B1 l.length d1, .slice B2 l.length d2, .slice B3 0 d3]) ∧ PgR w' B1 d1 B2 d2 B3 d3 (O l)) := Lib.hid fun V A1 c1 A2 c2 A3 c3 hp => by
        refine (put_any (p := O (delK l z)) z z hp HFD.out HRD.out (fun _ => rfl)).mono ?_
        rintro e w' ⟨hb, hq⟩
        have := putd (delK l z) z hq
        rw [HID.out] at this
        exact ⟨hb, this⟩
      have CF : Hid (∀ V A1 c1 A2 c2 A3 c3, PgR V A1 c1 A2 c2 A3 c3 (O (delK l z)) → Calls Try.prog 50 #[.agg #[.bool true, .slice A1 (delK l z).length c1, .slice A2 (delK l z).length c2, .slice A3 0 c3], .string z] V fun e w' => e = .returned (.tuple #[.int .i64 (findN (delK l z) z : Nat), .bool false]) ∧ Below V.heap.size V w') := Lib.hid fun V A1 c1 A2 c2 A3 c3 hp => by
        refine (find_any (p := O (delK l z)) z hp HFD.out HRD.out).mono ?_
        rintro e w' ⟨rfl, hb⟩
        rw [show thereB (O (delK l z)).keys z = false from HNT.out]
        exact ⟨rfl, hb⟩
      clear ka kb pa pb HA HB HFL HFD HRD HID HNT HEN HR HM HSZ
      generalize delK l z = ld at *
      generalize (encP (O l)).length = N at *
      generalize (⟨(encP (O l)).toArray⟩ : ByteArray) = sL at *
      generalize findN ld z = fz at *
      go_upto_region 23 with fail
      have HL0 := Lib.hid (Later.refl wf)
      have ZF0 : Hid (∀ s, wf.heap.size ≤ s → wf.heap.size ≤ s) := Lib.hid (fun _ h => h)
      have ZS0 : Hid (∀ V, Later wf V → (Later wf) V) := Lib.hid (fun _ h => h)
      refine walk_start 15 (S := Later wf) (T := Later wf) (by kernel_rfl) (fun r => wf.heap.size ≤ r) (fun _ h => h.size) ZS0.out (closed_later _) (Later.refl _).drew ?_
      refine walk_take (i := 0) (d := some 101) (v := ?_) rfl rfl (by kernel_rfl) (fun _ _ _ h => h) (Or.inl ⟨by rfl, fun V hV => ?_⟩) ?_
      rotate_left 1
      · (obtain ⟨q0, q1, q2, q3⟩ := SA.out V (HL0.out.trans hV); obtain ⟨p0, p1, p2, p3⟩ := SB.out V (HL0.out.trans hV); clear hV; go_simp; (try with_reducible rfl))
      try simp only [Act.put, List.setIfInBounds_toArray, List.set_cons_zero, List.set_cons_succ]
      refine walk_take (i := 3) (d := some 104) (v := ?_) rfl rfl (by kernel_rfl) (fun _ _ _ h => h) (Or.inl ⟨by rfl, fun V hV => ?_⟩) ?_
      rotate_left 1
      · (obtain ⟨q0, q1, q2, q3⟩ := SA.out V (HL0.out.trans hV); obtain ⟨p0, p1, p2, p3⟩ := SB.out V (HL0.out.trans hV); clear hV; go_simp; (try with_reducible rfl))
      try simp only [Act.put, List.setIfInBounds_toArray, List.set_cons_zero, List.set_cons_succ]
      refine walk_core 1 rfl (by kernel_rfl) (fun _ _ _ _ _ h => h) (fun V hV K hK => ?_)
      have hV0 := HL0.out.trans hV
      go_simp
      go_at_call 42
      refine (CE.out V A1 a1 A2 a2 A3 a3 (PA.out.below hV0)).mono ?_
      rintro e x1 ⟨hb, Ar, cr, rfl, cvr⟩
      have CV1 := Lib.hid cvr
      clear cvr
      have HT1 := Lib.hid (hV.of hb)
      have HL1 := Lib.hid (hV0.of hb)
      have hsize := hb.size
      have hkeep := fun (r : Nat) (_ : True) (h : r < V.heap.size) => hb.block r h
      have ZF1 : Hid (∀ s, x1.heap.size ≤ s → _) := Lib.hid (fun s h => ZF0.out s (Nat.le_trans hV.size (Nat.le_trans hsize h)))
      refine hK.out _ _ (Later x1) (Later x1) _ (fun r _ h => hkeep r trivial h) (fun _ h _ => h) (fun V' h => (hV.of hb).trans h) (fun _ h => h) (fun V' h => ZF1.out _ h.size) (Later.refl _) (closed_later _) ?_
      clear hK K hV hsize hkeep hV0 hb
      try simp only [Act.put, List.setIfInBounds_toArray, List.set_cons_zero, List.set_cons_succ]
      refine walk_take (i := 2) (d := some 103) (v := ?_) rfl rfl (by kernel_rfl) (fun _ _ _ h => h) (Or.inl ⟨by rfl, fun V hV => ?_⟩) ?_
      rotate_left 1
      · (have cvr := CV1.out V hV; clear hV; go_simp; (try with_reducible rfl))
      try simp only [Act.put, List.setIfInBounds_toArray, List.set_cons_zero, List.set_cons_succ]
      refine walk_core 4 rfl (by kernel_rfl) (fun _ _ _ _ _ h => h) (fun V hV K hK => ?_)
      have hV0 := HL1.out.trans hV
      go_simp
      go_at_call 42
      refine (CE.out V B1 b1 B2 b2 B3 b3 (PB.out.below hV0)).mono ?_
      rintro e x4 ⟨hb, Aq, cq, rfl, cvq⟩
      have CV4 := Lib.hid cvq
      clear cvq
      have HT4 := Lib.hid (hV.of hb)
      have HL2 := Lib.hid (hV0.of hb)
      have hsize := hb.size
      have hkeep := fun (r : Nat) (_ : True) (h : r < V.heap.size) => hb.block r h
      have ZF2 : Hid (∀ s, x4.heap.size ≤ s → _) := Lib.hid (fun s h => ZF1.out s (Nat.le_trans hV.size (Nat.le_trans hsize h)))
      refine hK.out _ _ (Later x4) (Later x4) _ (fun r _ h => hkeep r trivial h) (fun _ h _ => h) (fun V' h => (hV.of hb).trans h) (fun _ h => h) (fun V' h => ZF2.out _ h.size) (Later.refl _) (closed_later _) ?_
      clear hK K hV hsize hkeep hV0 hb
      try simp only [Act.put, List.setIfInBounds_toArray, List.set_cons_zero, List.set_cons_succ]
      refine walk_take (i := 5) (d := some 106) (v := ?_) rfl rfl (by kernel_rfl) (fun _ _ _ h => h) (Or.inl ⟨by rfl, fun V hV => ?_⟩) ?_
      rotate_left 1
      · (have cvq := CV4.out V hV; clear hV; go_simp; (try with_reducible rfl))
      try simp only [Act.put, List.setIfInBounds_toArray, List.set_cons_zero, List.set_cons_succ]
      refine walk_take (i := 6) (d := some 107) (v := ?_) rfl rfl (by kernel_rfl) (fun _ _ _ h => h) (Or.inl ⟨by rfl, fun V hV => ?_⟩) ?_
      rotate_left 1
      · (clear hV; go_simp; (try with_reducible rfl))
      try simp only [Act.put, List.setIfInBounds_toArray, List.set_cons_zero, List.set_cons_succ]
      refine walk_take (i := 7) (d := some 108) (v := ?_) rfl rfl (by kernel_rfl) (fun _ _ _ h => h) (Or.inl ⟨by rfl, fun V hV => ?_⟩) ?_
      rotate_left 1
      · (clear hV; go_simp; (try with_reducible rfl))
      try simp only [Act.put, List.setIfInBounds_toArray, List.set_cons_zero, List.set_cons_succ]
      refine walk_take (i := 8) (d := some 109) (v := ?_) rfl rfl (by kernel_rfl) (fun _ _ _ h => h) (Or.inl ⟨by rfl, fun V hV => ?_⟩) ?_
      rotate_left 1
      · (clear hV; go_simp; (try with_reducible rfl))
      try simp only [Act.put, List.setIfInBounds_toArray, List.set_cons_zero, List.set_cons_succ]
      refine walk_take (i := 9) (d := some 110) (v := ?_) rfl rfl (by kernel_rfl) (fun _ _ _ h => h) (Or.inl ⟨by rfl, fun V hV => ?_⟩) ?_
      rotate_left 1
      · (obtain ⟨q0, q1, q2, q3⟩ := SA.out V (HL2.out.trans hV); obtain ⟨p0, p1, p2, p3⟩ := SB.out V (HL2.out.trans hV); clear hV; go_simp; (try with_reducible rfl))
      try simp only [Act.put, List.setIfInBounds_toArray, List.set_cons_zero, List.set_cons_succ]
      refine walk_take (i := 10) (d := some 111) (v := ?_) rfl rfl (by kernel_rfl) (fun _ _ _ h => h) (Or.inl ⟨by rfl, fun V hV => ?_⟩) ?_
      rotate_left 1
      · (clear hV; go_simp; (try with_reducible rfl))
      try simp only [Act.put, List.setIfInBounds_toArray, List.set_cons_zero, List.set_cons_succ]
      refine walk_take (i := 11) (d := some 112) (v := ?_) rfl rfl (by kernel_rfl) (fun _ _ _ h => h) (Or.inl ⟨by rfl, fun V hV => ?_⟩) ?_
      rotate_left 1
      · (clear hV; go_simp; (try with_reducible rfl))
      try simp only [Act.put, List.setIfInBounds_toArray, List.set_cons_zero, List.set_cons_succ]
      refine walk_take (i := 12) (d := some 113) (v := ?_) rfl rfl (by kernel_rfl) (fun _ _ _ h => h) (Or.inl ⟨by rfl, fun V hV => ?_⟩) ?_
      rotate_left 1
      · (clear hV; go_simp; (try with_reducible rfl))
      try simp only [Act.put, List.setIfInBounds_toArray, List.set_cons_zero, List.set_cons_succ]
      refine walk_take (i := 13) (d := some 114) (v := ?_) rfl rfl (by kernel_rfl) (fun _ _ _ h => h) (Or.inl ⟨by rfl, fun V hV => ?_⟩) ?_
      rotate_left 1
      · (clear hV; go_simp; (try with_reducible rfl))
      try simp only [Act.put, List.setIfInBounds_toArray, List.set_cons_zero, List.set_cons_succ]
      refine walk_take (i := 14) (d := some 115) (v := ?_) rfl rfl (by kernel_rfl) (fun _ _ _ h => h) (Or.inl ⟨by rfl, fun V hV => ?_⟩) ?_
      rotate_left 1
      · (clear hV; go_simp; (try with_reducible rfl))
      try simp only [Act.put, List.setIfInBounds_toArray, List.set_cons_zero, List.set_cons_succ]
      refine walk_exit (fun V hV => wpAnyJ_done (by kernel_rfl) ?_ _)
      have hV0 := HL2.out.trans hV
      obtain ⟨w4, rfl⟩ : ∃ w4 : World, w4 = V := ⟨_, rfl⟩
      have H4 := Lib.hid hV0
      clear hV hV0
      go_upto_region 25 with fail
      have HL0 := Lib.hid (Later.refl w4)
      have ZF0 : Hid (∀ s, w4.heap.size ≤ s → w4.heap.size ≤ s) := Lib.hid (fun _ h => h)
      have ZS0 : Hid (∀ V, Later w4 V → (Later w4) V) := Lib.hid (fun _ h => h)
      refine walk_start 16 (S := Later w4) (T := Later w4) (by kernel_rfl) (fun r => w4.heap.size ≤ r) (fun _ h => h.size) ZS0.out (closed_later _) (Later.refl _).drew ?_
      refine walk_take (i := 0) (d := some 116) (v := ?_) rfl rfl (by kernel_rfl) (fun _ _ _ h => h) (Or.inl ⟨by rfl, fun V hV => ?_⟩) ?_
      rotate_left 1
      · (obtain ⟨q0, q1, q2, q3⟩ := SA.out V (H4.out.trans (HL0.out.trans hV)); have s0 := SZ.out V (H4.out.trans (HL0.out.trans hV)); clear hV; go_simp; (try with_reducible rfl))
      try simp only [Act.put, List.setIfInBounds_toArray, List.set_cons_zero, List.set_cons_succ]
      refine walk_take (i := 1) (d := some 117) (v := ?_) rfl rfl (by kernel_rfl) (fun _ _ _ h => h) (Or.inl ⟨by rfl, fun V hV => ?_⟩) ?_
      rotate_left 1
      · (clear hV; go_simp; (try with_reducible rfl))
      try simp only [Act.put, List.setIfInBounds_toArray, List.set_cons_zero, List.set_cons_succ]
      refine walk_take (i := 2) (d := some 118) (v := ?_) rfl rfl (by kernel_rfl) (fun _ _ _ h => h) (Or.inl ⟨by rfl, fun V hV => ?_⟩) ?_
      rotate_left 1
      · (clear hV; go_simp; (try with_reducible rfl))
      try simp only [Act.put, List.setIfInBounds_toArray, List.set_cons_zero, List.set_cons_succ]
      refine walk_take (i := 3) (d := some 119) (v := ?_) rfl rfl (by kernel_rfl) (fun _ _ _ h => h) (Or.inl ⟨by rfl, fun V hV => ?_⟩) ?_
      rotate_left 1
      · (clear hV; go_simp; (try with_reducible rfl))
      try simp only [Act.put, List.setIfInBounds_toArray, List.set_cons_zero, List.set_cons_succ]
      refine walk_take (i := 4) (d := some 120) (v := ?_) rfl rfl (by kernel_rfl) (fun _ _ _ h => h) (Or.inl ⟨by rfl, fun V hV => ?_⟩) ?_
      rotate_left 1
      · (obtain ⟨q0, q1, q2, q3⟩ := SA.out V (H4.out.trans (HL0.out.trans hV)); have s0 := SZ.out V (H4.out.trans (HL0.out.trans hV)); clear hV; go_simp; (try with_reducible rfl))
      try simp only [Act.put, List.setIfInBounds_toArray, List.set_cons_zero, List.set_cons_succ]
      refine walk_take (i := 6) (d := some 122) (v := ?_) rfl rfl (by kernel_rfl) (fun _ _ _ h => h) (Or.inl ⟨by rfl, fun V hV => ?_⟩) ?_
      rotate_left 1
      · (clear hV; go_simp; (try with_reducible rfl))
      try simp only [Act.put, List.setIfInBounds_toArray, List.set_cons_zero, List.set_cons_succ]
      refine walk_take (i := 7) (d := some 123) (v := ?_) rfl rfl (by kernel_rfl) (fun _ _ _ h => h) (Or.inl ⟨by rfl, fun V hV => ?_⟩) ?_
      rotate_left 1
      · (clear hV; go_simp; (try with_reducible rfl))
      try simp only [Act.put, List.setIfInBounds_toArray, List.set_cons_zero, List.set_cons_succ]
      refine walk_take (i := 8) (d := some 124) (v := ?_) rfl rfl (by kernel_rfl) (fun _ _ _ h => h) (Or.inl ⟨by rfl, fun V hV => ?_⟩) ?_
      rotate_left 1
      · (clear hV; go_simp; (try with_reducible rfl))
      try simp only [Act.put, List.setIfInBounds_toArray, List.set_cons_zero, List.set_cons_succ]
      refine walk_take (i := 9) (d := some 125) (v := ?_) rfl rfl (by kernel_rfl) (fun _ _ _ h => h) (Or.inl ⟨by rfl, fun V hV => ?_⟩) ?_
      rotate_left 1
      · (obtain ⟨q0, q1, q2, q3⟩ := SA.out V (H4.out.trans (HL0.out.trans hV)); have s0 := SZ.out V (H4.out.trans (HL0.out.trans hV)); clear hV; go_simp; (try with_reducible rfl))
      try simp only [Act.put, List.setIfInBounds_toArray, List.set_cons_zero, List.set_cons_succ]
      refine walk_take (i := 10) (d := some 126) (v := ?_) rfl rfl (by kernel_rfl) (fun _ _ _ h => h) (Or.inl ⟨by rfl, fun V hV => ?_⟩) ?_
      rotate_left 1
      · (clear hV; go_simp; (try with_reducible rfl))
      try simp only [Act.put, List.setIfInBounds_toArray, List.set_cons_zero, List.set_cons_succ]
      refine walk_take (i := 11) (d := some 127) (v := ?_) rfl rfl (by kernel_rfl) (fun _ _ _ h => h) (Or.inl ⟨by rfl, fun V hV => ?_⟩) ?_
      rotate_left 1
      · (clear hV; go_simp; (try with_reducible rfl))
      try simp only [Act.put, List.setIfInBounds_toArray, List.set_cons_zero, List.set_cons_succ]
      refine walk_take (i := 12) (d := some 128) (v := ?_) rfl rfl (by kernel_rfl) (fun _ _ _ h => h) (Or.inl ⟨by rfl, fun V hV => ?_⟩) ?_
      rotate_left 1
      · (clear hV; go_simp; (try with_reducible rfl))
      try simp only [Act.put, List.setIfInBounds_toArray, List.set_cons_zero, List.set_cons_succ]
      refine walk_take (i := 13) (d := some 129) (v := ?_) rfl rfl (by kernel_rfl) (fun _ _ _ h => h) (Or.inl ⟨by rfl, fun V hV => ?_⟩) ?_
      rotate_left 1
      · (obtain ⟨q0, q1, q2, q3⟩ := SA.out V (H4.out.trans (HL0.out.trans hV)); have s0 := SZ.out V (H4.out.trans (HL0.out.trans hV)); clear hV; go_simp; (try with_reducible rfl))
      try simp only [Act.put, List.setIfInBounds_toArray, List.set_cons_zero, List.set_cons_succ]
      refine walk_pend ⟨15, 11, (.cells #[.bool false, .slice none 0 0, .slice none 0 0, .slice none 0 0] 67), fun r => .pointer (some ⟨r, 0, none⟩)⟩ ⟨_, rfl, rfl, rfl, fun W => ?_⟩ ?_
      · (go_simp; (try with_reducible rfl))
      refine walk_core 5 rfl (by kernel_rfl) (fun _ _ _ _ _ h => h) (fun V hV K hK => ?_)
      have hV0 := HL0.out.trans hV
      go_simp
      go_at_call 52
      refine (CD.out V A1 a1 A2 a2 A3 a3 (PA.out.below (H4.out.trans hV0))).mono ?_
      rintro e x5 ⟨hb, D1, d1, D2, d2, D3, d3, rfl, hp5⟩
      have HP5 := Lib.hid hp5
      clear hp5
      have HT5 := Lib.hid (hV.of hb)
      have HL1 := Lib.hid (hV0.of hb)
      have hsize := hb.size
      have hkeep := fun (r : Nat) (_ : True) (h : r < V.heap.size) => hb.block r h
      have ZF1 : Hid (∀ s, x5.heap.size ≤ s → _) := Lib.hid (fun s h => ZF0.out s (Nat.le_trans hV.size (Nat.le_trans hsize h)))
      refine hK.out _ _ (Later x5) (Later x5) _ (fun r _ h => hkeep r trivial h) (fun _ h _ => h) (fun V' h => (hV.of hb).trans h) (fun _ h => h) (fun V' h => ZF1.out _ h.size) (Later.refl _) (closed_later _) ?_
      clear hK K hV hsize hkeep hV0 hb
      try simp only [Act.put, List.setIfInBounds_toArray, List.set_cons_zero, List.set_cons_succ]
      refine walk_core 14 rfl (by kernel_rfl) (fun _ _ _ _ _ h => h) (fun V hV K hK => ?_)
      have hV0 := HL1.out.trans hV
      go_simp
      go_at_call 49
      refine (CP.out V D1 d1 D2 d2 D3 d3 (HP5.out.below hV)).mono ?_
      rintro e x14 ⟨hb, E1, e1, E2, e2, E3, e3, rfl, hp14⟩
      have HP14 := Lib.hid hp14
      clear hp14
      have HT14 := Lib.hid (hV.of hb)
      have HL2 := Lib.hid (hV0.of hb)
      have hsize := hb.size
      have hkeep := fun (r : Nat) (_ : True) (h : r < V.heap.size) => hb.block r h
      have ZF2 : Hid (∀ s, x14.heap.size ≤ s → _) := Lib.hid (fun s h => ZF1.out s (Nat.le_trans hV.size (Nat.le_trans hsize h)))
      refine hK.out _ _ (Later x14) (Later x14) _ (fun r _ h => hkeep r trivial h) (fun _ h _ => h) (fun V' h => (hV.of hb).trans h) (fun _ h => h) (fun V' h => ZF2.out _ h.size) (Later.refl _) (closed_later _) ?_
      clear hK K hV hsize hkeep hV0 hb
      try simp only [Act.put, List.setIfInBounds_toArray, List.set_cons_zero, List.set_cons_succ]
      refine walk_force (by kernel_rfl) (by kernel_rfl) (by kernel_rfl) (by kernel_rfl) (fun r15 x15 hV hr15 hB15 => ?_)
      have lt15 : r15 < x15.heap.size := (Array.getElem?_eq_some_iff.1 hr15).1
      have HL3 := Lib.hid (HL2.out.trans hV)
      have ZF3 : Hid (∀ s, x15.heap.size ≤ s → _ ∧ s ≠ r15) := Lib.hid (fun s h => ⟨ZF2.out s (Nat.le_trans hV.size h), Nat.ne_of_gt (Nat.lt_of_lt_of_le lt15 h)⟩)
      refine ⟨Later x15, Later x15, Later.refl _, fun V' h => hV.trans h, fun _ h => h, fun V' h => ZF2.out _ (Nat.le_trans hV.size h.size), fun V' h => Nat.lt_of_lt_of_le lt15 h.size, closed_later _, ?_⟩
      try simp only [Act.put, List.setIfInBounds_toArray, List.set_cons_zero, List.set_cons_succ]
      have HT15 := Lib.hid hV
      clear hV
      refine walk_exit (fun V hV => ?_)
      have hV0 := HL3.out.trans hV
      try simp only [Act.put, List.setIfInBounds_toArray, List.set_cons_zero, List.set_cons_succ]
      have hp15 := HP14.out.below (HT15.out.trans hV)
      have kr : Blk V r15 67 #[.bool false, .slice none 0 0, .slice none 0 0, .slice none 0 0] := Blk.below (show Blk x15 r15 67 #[.bool false, .slice none 0 0, .slice none 0 0, .slice none 0 0] from hr15) hV lt15
      have hr4 : w4.heap.size ≤ r15 := hB15
      have hr5 : wf.heap.size ≤ r15 := Nat.le_trans (show Below _ _ _ from H4.out).size hr4
      have hne : w1.heap.size ≠ r15 := Nat.ne_of_lt (Nat.lt_of_lt_of_le HKA.out.lt hr5)
      have hv4 := H4.out.trans hV0
      obtain ⟨z0, z1, z2, z3⟩ := cells4 kr
      have fz0 := kr.frozen 0
      have fz1 := kr.frozen 1
      have fz2 := kr.frozen 2
      have fz3 := kr.frozen 3
      have HP15 := Lib.hid hp15
      have KR := Lib.hid kr
      have HR5 := Lib.hid hr5
      have HV4 := Lib.hid hv4
      clear hp15 kr hr4 hr5 hne hv4 hV hV0 HL0
      refine wpAnyJ_one (i := 16) (by kernel_rfl) rfl (fun K hK => ?_)
      simp only [List.getElem_toArray, List.getElem_cons_succ, List.getElem_cons_zero]
      go_simp
      refine hK.out _ _ (fun h _ => absurd rfl h) ?_
      clear hK K
      try simp only [Act.put, List.setIfInBounds_toArray, List.set_cons_zero, List.set_cons_succ]
      refine wpAnyJ_done (by kernel_rfl) ?_ _
      obtain ⟨W5, hW5⟩ : ∃ W5, W5 = (((V.setCell ⟨r15, 0, none⟩ (.bool true)).setCell ⟨r15, 1, none⟩ (.slice E1 l.length e1)).setCell ⟨r15, 2, none⟩ (.slice E2 l.length e2)).setCell ⟨r15, 3, none⟩ (.slice E3 0 e3) := ⟨_, rfl⟩
      have k5 : Blk W5 r15 67 #[.bool true, .slice E1 l.length e1, .slice E2 l.length e2, .slice E3 0 e3] := by rw [hW5]; exact set4 KR.out
      have p5 : PgR W5 E1 e1 E2 e2 E3 e3 (O l) := by rw [hW5]; exact HP15.out.set4 KR.out
      have h5 : Later wf W5 := by rw [hW5]; exact (((((show Below _ _ _ from HV4.out).setCell (p := ⟨r15, 0, none⟩) HR5.out _).setCell (p := ⟨r15, 1, none⟩) HR5.out _).setCell (p := ⟨r15, 2, none⟩) HR5.out _).setCell (p := ⟨r15, 3, none⟩) HR5.out _)
      rw [← hW5]
      have SR : Hid (∀ V, Later W5 V → V.cell? ⟨r15, 0, none⟩ = some (.bool true) ∧ V.cell? ⟨r15, 1, none⟩ = some (.slice E1 l.length e1) ∧ V.cell? ⟨r15, 2, none⟩ = some (.slice E2 l.length e2) ∧ V.cell? ⟨r15, 3, none⟩ = some (.slice E3 0 e3)) := Lib.hid fun V hV => cells4 (k5.below hV k5.lt)
      have P5 := Lib.hid p5
      have H5 := Lib.hid h5
      clear hW5 k5 p5 h5 z0 z1 z2 z3 fz0 fz1 fz2 fz3 HP15 KR HR5 HV4 HP14 HP5
      go_upto_region 26 with fail
      have HL0 := Lib.hid (Later.refl W5)
      have ZF0 : Hid (∀ s, W5.heap.size ≤ s → W5.heap.size ≤ s) := Lib.hid (fun _ h => h)
      have ZS0 : Hid (∀ V, Later W5 V → (Later W5) V) := Lib.hid (fun _ h => h)
      refine walk_start 16 (S := Later W5) (T := Later W5) (by kernel_rfl) (fun r => W5.heap.size ≤ r) (fun _ h => h.size) ZS0.out (closed_later _) (Later.refl _).drew ?_
      refine walk_take (i := 0) (d := some 132) (v := ?_) rfl rfl (by kernel_rfl) (fun _ _ _ h => h) (Or.inl ⟨by rfl, fun V hV => ?_⟩) ?_
      rotate_left 1
      · (obtain ⟨q0, q1, q2, q3⟩ := SA.out V (H5.out.trans (HL0.out.trans hV)); have s0 := SZ.out V (H5.out.trans (HL0.out.trans hV)); clear hV; go_simp; (try with_reducible rfl))
      try simp only [Act.put, List.setIfInBounds_toArray, List.set_cons_zero, List.set_cons_succ]
      refine walk_take (i := 1) (d := some 133) (v := ?_) rfl rfl (by kernel_rfl) (fun _ _ _ h => h) (Or.inl ⟨by rfl, fun V hV => ?_⟩) ?_
      rotate_left 1
      · (clear hV; go_simp; (try with_reducible rfl))
      try simp only [Act.put, List.setIfInBounds_toArray, List.set_cons_zero, List.set_cons_succ]
      refine walk_take (i := 2) (d := some 134) (v := ?_) rfl rfl (by kernel_rfl) (fun _ _ _ h => h) (Or.inl ⟨by rfl, fun V hV => ?_⟩) ?_
      rotate_left 1
      · (clear hV; go_simp; (try with_reducible rfl))
      try simp only [Act.put, List.setIfInBounds_toArray, List.set_cons_zero, List.set_cons_succ]
      refine walk_take (i := 3) (d := some 135) (v := ?_) rfl rfl (by kernel_rfl) (fun _ _ _ h => h) (Or.inl ⟨by rfl, fun V hV => ?_⟩) ?_
      rotate_left 1
      · (clear hV; go_simp; (try with_reducible rfl))
      try simp only [Act.put, List.setIfInBounds_toArray, List.set_cons_zero, List.set_cons_succ]
      refine walk_take (i := 4) (d := some 136) (v := ?_) rfl rfl (by kernel_rfl) (fun _ _ _ h => h) (Or.inl ⟨by rfl, fun V hV => ?_⟩) ?_
      rotate_left 1
      · (obtain ⟨q0, q1, q2, q3⟩ := SA.out V (H5.out.trans (HL0.out.trans hV)); have s0 := SZ.out V (H5.out.trans (HL0.out.trans hV)); clear hV; go_simp; (try with_reducible rfl))
      try simp only [Act.put, List.setIfInBounds_toArray, List.set_cons_zero, List.set_cons_succ]
      refine walk_take (i := 6) (d := some 138) (v := ?_) rfl rfl (by kernel_rfl) (fun _ _ _ h => h) (Or.inl ⟨by rfl, fun V hV => ?_⟩) ?_
      rotate_left 1
      · (clear hV; go_simp; (try with_reducible rfl))
      try simp only [Act.put, List.setIfInBounds_toArray, List.set_cons_zero, List.set_cons_succ]
      refine walk_take (i := 7) (d := some 139) (v := ?_) rfl rfl (by kernel_rfl) (fun _ _ _ h => h) (Or.inl ⟨by rfl, fun V hV => ?_⟩) ?_
      rotate_left 1
      · (clear hV; go_simp; (try with_reducible rfl))
      try simp only [Act.put, List.setIfInBounds_toArray, List.set_cons_zero, List.set_cons_succ]
      refine walk_take (i := 8) (d := some 140) (v := ?_) rfl rfl (by kernel_rfl) (fun _ _ _ h => h) (Or.inl ⟨by rfl, fun V hV => ?_⟩) ?_
      rotate_left 1
      · (clear hV; go_simp; (try with_reducible rfl))
      try simp only [Act.put, List.setIfInBounds_toArray, List.set_cons_zero, List.set_cons_succ]
      refine walk_take (i := 9) (d := some 141) (v := ?_) rfl rfl (by kernel_rfl) (fun _ _ _ h => h) (Or.inl ⟨by rfl, fun V hV => ?_⟩) ?_
      rotate_left 1
      · (obtain ⟨q0, q1, q2, q3⟩ := SA.out V (H5.out.trans (HL0.out.trans hV)); have s0 := SZ.out V (H5.out.trans (HL0.out.trans hV)); clear hV; go_simp; (try with_reducible rfl))
      try simp only [Act.put, List.setIfInBounds_toArray, List.set_cons_zero, List.set_cons_succ]
      refine walk_core 5 rfl (by kernel_rfl) (fun _ _ _ _ _ h => h) (fun V hV K hK => ?_)
      have hV0 := HL0.out.trans hV
      go_simp
      go_at_call 52
      refine (CD.out V A1 a1 A2 a2 A3 a3 (PA.out.below (H5.out.trans hV0))).mono ?_
      rintro e x5' ⟨hb, D1, d1, D2, d2, D3, d3, rfl, hp5⟩
      obtain ⟨x5, rfl⟩ : ∃ x5 : World, x5 = x5' := ⟨_, rfl⟩
      have HP5 := Lib.hid hp5
      clear hp5
      have HT5 := Lib.hid (hV.of hb)
      have HL1 := Lib.hid (hV0.of hb)
      have hsize := hb.size
      have hkeep := fun (r : Nat) (_ : True) (h : r < V.heap.size) => hb.block r h
      have ZF1 : Hid (∀ s, x5.heap.size ≤ s → _) := Lib.hid (fun s h => ZF0.out s (Nat.le_trans hV.size (Nat.le_trans hsize h)))
      refine hK.out _ _ (Later x5) (Later x5) _ (fun r _ h => hkeep r trivial h) (fun _ h _ => h) (fun V' h => (hV.of hb).trans h) (fun _ h => h) (fun V' h => ZF1.out _ h.size) (Later.refl _) (closed_later _) ?_
      clear hK K hV hsize hkeep hV0 hb
      try simp only [Act.put, List.setIfInBounds_toArray, List.set_cons_zero, List.set_cons_succ]
      refine walk_core 10 rfl (by kernel_rfl) (fun _ _ _ _ _ h => h) (fun V hV K hK => ?_)
      have hV0 := HL1.out.trans hV
      go_simp
      go_at_call 50
      refine (CF.out V D1 d1 D2 d2 D3 d3 (HP5.out.below hV)).mono ?_
      rintro e x10 ⟨rfl, hb⟩
      have HT10 := Lib.hid (hV.of hb)
      have HL2 := Lib.hid (hV0.of hb)
      have hsize := hb.size
      have hkeep := fun (r : Nat) (_ : True) (h : r < V.heap.size) => hb.block r h
      have ZF2 : Hid (∀ s, x10.heap.size ≤ s → _) := Lib.hid (fun s h => ZF1.out s (Nat.le_trans hV.size (Nat.le_trans hsize h)))
      refine hK.out _ _ (Later x10) (Later x10) _ (fun r _ h => hkeep r trivial h) (fun _ h _ => h) (fun V' h => (hV.of hb).trans h) (fun _ h => h) (fun V' h => ZF2.out _ h.size) (Later.refl _) (closed_later _) ?_
      clear hK K hV hsize hkeep hV0 hb
      try simp only [Act.put, List.setIfInBounds_toArray, List.set_cons_zero, List.set_cons_succ]
      refine walk_take (i := 11) (d := some 131) (v := ?_) rfl rfl (by kernel_rfl) (fun _ _ _ h => h) (Or.inl ⟨by rfl, fun V hV => ?_⟩) ?_
      rotate_left 1
      · (clear hV; go_simp; (try with_reducible rfl))
      try simp only [Act.put, List.setIfInBounds_toArray, List.set_cons_zero, List.set_cons_succ]
      refine walk_take (i := 12) (d := some 143) (v := ?_) rfl rfl (by kernel_rfl) (fun _ _ _ h => h) (Or.inl ⟨by rfl, fun V hV => ?_⟩) ?_
      rotate_left 1
      · (clear hV; go_simp; (try with_reducible rfl))
      try simp only [Act.put, List.setIfInBounds_toArray, List.set_cons_zero, List.set_cons_succ]
      refine walk_take (i := 13) (d := some 144) (v := ?_) rfl rfl (by kernel_rfl) (fun _ _ _ h => h) (Or.inl ⟨by rfl, fun V hV => ?_⟩) ?_
      rotate_left 1
      · (clear hV; go_simp; (try with_reducible rfl))
      try simp only [Act.put, List.setIfInBounds_toArray, List.set_cons_zero, List.set_cons_succ]
      refine walk_take (i := 14) (d := some 12) (v := ?_) rfl rfl (by kernel_rfl) (fun _ _ _ h => h) (Or.inl ⟨by rfl, fun V hV => ?_⟩) ?_
      rotate_left 1
      · (clear hV; go_simp; (try with_reducible rfl))
      try simp only [Act.put, List.setIfInBounds_toArray, List.set_cons_zero, List.set_cons_succ]
      refine walk_take (i := 15) (d := some 13) (v := ?_) rfl rfl (by kernel_rfl) (fun _ _ _ h => h) (Or.inl ⟨by rfl, fun V hV => ?_⟩) ?_
      rotate_left 1
      · (clear hV; go_simp; (try with_reducible rfl))
      try simp only [Act.put, List.setIfInBounds_toArray, List.set_cons_zero, List.set_cons_succ]
      refine walk_exit (fun V hV => wpAnyJ_done (by kernel_rfl) ?_ _)
      have hV0 := HL2.out.trans hV
      obtain ⟨w6, rfl⟩ : ∃ w6 : World, w6 = V := ⟨_, rfl⟩
      have H6 := Lib.hid hV0
      have H65 : Hid (Later wf w6) := Lib.hid (H5.out.trans hV0)
      clear hV hV0
      go_upto_region 27 with fail
      have HL0 := Lib.hid (Later.refl w6)
      have ZF0 : Hid (∀ s, w6.heap.size ≤ s → w6.heap.size ≤ s) := Lib.hid (fun _ h => h)
      have ZS0 : Hid (∀ V, Later w6 V → (Later w6) V) := Lib.hid (fun _ h => h)
      refine walk_start 12 (S := Later w6) (T := Later w6) (by kernel_rfl) (fun r => w6.heap.size ≤ r) (fun _ h => h.size) ZS0.out (closed_later _) (Later.refl _).drew ?_
      refine walk_take (i := 0) (d := some 145) (v := ?_) rfl rfl (by kernel_rfl) (fun _ _ _ h => h) (Or.inl ⟨by rfl, fun V hV => ?_⟩) ?_
      rotate_left 1
      · (clear hV; go_simp; (try with_reducible rfl))
      try simp only [Act.put, List.setIfInBounds_toArray, List.set_cons_zero, List.set_cons_succ]
      refine walk_take (i := 1) (d := some 146) (v := ?_) rfl rfl (by kernel_rfl) (fun _ _ _ h => h) (Or.inl ⟨by rfl, fun V hV => ?_⟩) ?_
      rotate_left 1
      · (clear hV; go_simp; (try with_reducible rfl))
      try simp only [Act.put, List.setIfInBounds_toArray, List.set_cons_zero, List.set_cons_succ]
      refine walk_take (i := 2) (d := some 147) (v := ?_) rfl rfl (by kernel_rfl) (fun _ _ _ h => h) (Or.inl ⟨by rfl, fun V hV => ?_⟩) ?_
      rotate_left 1
      · (clear hV; go_simp; (try with_reducible rfl))
      try simp only [Act.put, List.setIfInBounds_toArray, List.set_cons_zero, List.set_cons_succ]
      refine walk_take (i := 3) (d := some 148) (v := ?_) rfl rfl (by kernel_rfl) (fun _ _ _ h => h) (Or.inl ⟨by rfl, fun V hV => ?_⟩) ?_
      rotate_left 1
      · (obtain ⟨q0, q1, q2, q3⟩ := SA.out V (H65.out.trans (HL0.out.trans hV)); obtain ⟨p0, p1, p2, p3⟩ := SR.out V (H6.out.trans (HL0.out.trans hV)); clear hV; go_simp; (try with_reducible rfl))
      try simp only [Act.put, List.setIfInBounds_toArray, List.set_cons_zero, List.set_cons_succ]
      refine walk_take (i := 6) (d := some 151) (v := ?_) rfl rfl (by kernel_rfl) (fun _ _ _ h => h) (Or.inl ⟨by rfl, fun V hV => ?_⟩) ?_
      rotate_left 1
      · (obtain ⟨q0, q1, q2, q3⟩ := SA.out V (H65.out.trans (HL0.out.trans hV)); obtain ⟨p0, p1, p2, p3⟩ := SR.out V (H6.out.trans (HL0.out.trans hV)); clear hV; go_simp; (try with_reducible rfl))
      try simp only [Act.put, List.setIfInBounds_toArray, List.set_cons_zero, List.set_cons_succ]
      refine walk_core 4 rfl (by kernel_rfl) (fun _ _ _ _ _ h => h) (fun V hV K hK => ?_)
      have hV0 := HL0.out.trans hV
      go_simp
      go_at_call 42
      refine (CE.out V E1 e1 E2 e2 E3 e3 (P5.out.below (H6.out.trans hV0))).mono ?_
      rintro e x4 ⟨hb, Ar, cr, rfl, cvr⟩
      have CV1 := Lib.hid cvr
      clear cvr
      have HT4 := Lib.hid (hV.of hb)
      have HL1 := Lib.hid (hV0.of hb)
      have hsize := hb.size
      have hkeep := fun (r : Nat) (_ : True) (h : r < V.heap.size) => hb.block r h
      have ZF1 : Hid (∀ s, x4.heap.size ≤ s → _) := Lib.hid (fun s h => ZF0.out s (Nat.le_trans hV.size (Nat.le_trans hsize h)))
      refine hK.out _ _ (Later x4) (Later x4) _ (fun r _ h => hkeep r trivial h) (fun _ h _ => h) (fun V' h => (hV.of hb).trans h) (fun _ h => h) (fun V' h => ZF1.out _ h.size) (Later.refl _) (closed_later _) ?_
      clear hK K hV hsize hkeep hV0 hb
      try simp only [Act.put, List.setIfInBounds_toArray, List.set_cons_zero, List.set_cons_succ]
      refine walk_take (i := 5) (d := some 150) (v := ?_) rfl rfl (by kernel_rfl) (fun _ _ _ h => h) (Or.inl ⟨by rfl, fun V hV => ?_⟩) ?_
      rotate_left 1
      · (have cvr := CV1.out V hV; clear hV; go_simp; (try with_reducible rfl))
      try simp only [Act.put, List.setIfInBounds_toArray, List.set_cons_zero, List.set_cons_succ]
      refine walk_core 7 rfl (by kernel_rfl) (fun _ _ _ _ _ h => h) (fun V hV K hK => ?_)
      have hV0 := HL1.out.trans hV
      go_simp
      go_at_call 42
      refine (CE.out V A1 a1 A2 a2 A3 a3 (PA.out.below (H65.out.trans hV0))).mono ?_
      rintro e x7 ⟨hb, Aq, cq, rfl, cvq⟩
      have CV4 := Lib.hid cvq
      clear cvq
      have HT7 := Lib.hid (hV.of hb)
      have HL2 := Lib.hid (hV0.of hb)
      have hsize := hb.size
      have hkeep := fun (r : Nat) (_ : True) (h : r < V.heap.size) => hb.block r h
      have ZF2 : Hid (∀ s, x7.heap.size ≤ s → _) := Lib.hid (fun s h => ZF1.out s (Nat.le_trans hV.size (Nat.le_trans hsize h)))
      refine hK.out _ _ (Later x7) (Later x7) _ (fun r _ h => hkeep r trivial h) (fun _ h _ => h) (fun V' h => (hV.of hb).trans h) (fun _ h => h) (fun V' h => ZF2.out _ h.size) (Later.refl _) (closed_later _) ?_
      clear hK K hV hsize hkeep hV0 hb
      try simp only [Act.put, List.setIfInBounds_toArray, List.set_cons_zero, List.set_cons_succ]
      refine walk_take (i := 8) (d := some 153) (v := ?_) rfl rfl (by kernel_rfl) (fun _ _ _ h => h) (Or.inl ⟨by rfl, fun V hV => ?_⟩) ?_
      rotate_left 1
      · (have cvq := CV4.out V hV; clear hV; go_simp; (try with_reducible rfl))
      try simp only [Act.put, List.setIfInBounds_toArray, List.set_cons_zero, List.set_cons_succ]
      refine walk_take (i := 9) (d := some 154) (v := ?_) rfl rfl (by kernel_rfl) (fun _ _ _ h => h) (Or.inl ⟨by rfl, fun V hV => ?_⟩) ?_
      rotate_left 1
      · (clear hV; go_simp; (try with_reducible rfl))
      try simp only [Act.put, List.setIfInBounds_toArray, List.set_cons_zero, List.set_cons_succ]
      refine walk_take (i := 10) (d := some 155) (v := ?_) rfl rfl (by kernel_rfl) (fun _ _ _ h => h) (Or.inl ⟨by rfl, fun V hV => ?_⟩) ?_
      rotate_left 1
      · (clear hV; go_simp; (try with_reducible rfl))
      try simp only [Act.put, List.setIfInBounds_toArray, List.set_cons_zero, List.set_cons_succ]
      refine walk_take (i := 11) (d := some 4) (v := ?_) rfl rfl (by kernel_rfl) (fun _ _ _ h => h) (Or.inl ⟨by rfl, fun V hV => ?_⟩) ?_
      rotate_left 1
      · (clear hV; go_simp; (try with_reducible rfl))
      try simp only [Act.put, List.setIfInBounds_toArray, List.set_cons_zero, List.set_cons_succ]
      refine walk_exit (fun V hV => wpAnyJ_done (by kernel_rfl) ?_ _)
      have hV0 := HL2.out.trans hV
      have HZ : Hid (Below w.heap.size w V) := Lib.hid (HBF.out.trans ((show Below _ _ _ from H65.out.trans hV0).mono HBF.out.size))
      clear hV hV0
      go_wp2_with fail
      go_ret
      exact ⟨rfl, HZ.out⟩
theorem pageOrder_lit (hS : Strs w A n c L) (k : Int) (hk : (Lit.int IntKind.i64 k).wf = true) :
    Calls Try.prog 12 #[.slice A n c, .int .i64 k] w fun e w' => e = .returned (.bool true) ∧ Below w.heap.size w w' := by
  exact pageOrder_all hS k (wf_i64_in hk).1 (wf_i64_in hk).2
end
end Go.Proofs.Ytlbikfamjogpnaa
end
