/- A slice of calls that came in: opened to its cells. Conditions: none. -/
import Derived.Test.YtifldkcfbggkeaaCopiesW
import Derived.Deep.Slices
import Derived.Deep.Fields
import Derived.ChangeSame
import Derived.ProofKit
namespace Go.Proofs.Ytifldkcfbggkeaa
open Go.ChangeShapes Go.WideShapes Go.Deep Go.RowKit

section
variable {H : Type} {enc : TypeId × Value → H} {P : Program} {w : World} {base : Nat} {spare : Nat → Bool} {held : Bool}
theorem open_slice_fields {t e : TypeId} {fs : Array Field} {fuel : Nat} {cs : List Value} {x : DataW H × List MemPlace} (ht : P.underlying t = some (.slice e)) (he : P.underlying e = some (.struct fs))
    (hone : oneCellFields P fs = true) (hC : P.cellsOf e = fs.size) (h : DataW.trod enc P w base spare held fuel t cs = some x) :
    (cs = [.slice none 0 0] ∧ x = (.nil, [])) ∨
    ∃ (a : Addr) (len cap m : Nat) (D : Nat → DataW H) (Pl : Nat → List MemPlace), cs = [.slice (some a) len cap] ∧ base ≤ a.block ∧ len ≤ cap ∧ cap ≤ maxLen ∧ m = (if spare a.block then cap else len) ∧
      x = (.slice ((List.range len).map D) ((List.range (m - len)).map fun j => D (len + j)), MemPlace.row a (m * fs.size) ++ (List.range m).flatMap Pl) ∧
      ∀ i, i < m → ∃ (ys : List (DataW H × List MemPlace)) (n : Nat), D i = .agg (ys.map (·.1)) ∧ Pl i = ys.flatMap (·.2) ∧ ys.length = fs.size ∧
        ∀ (j : Nat) (f : Field), fs[j]? = some f → ∃ (v : Value) (y : DataW H × List MemPlace), w.cell? (a.add (i * fs.size + j)) = some v ∧ ys[j]? = some y ∧ DataW.trod enc P w base spare held n f.type [v] = some y := by
  rcases open_slice ht h with h0 | ⟨a, len, cap, m, n, D, Pl, hcs, hb, hl, hm, hmm, hx, hi⟩
  · exact .inl h0
  · refine .inr ⟨a, len, cap, m, D, Pl, hcs, hb, hl, hm, hmm, by rw [hC] at hx; exact hx, fun i him => ?_⟩
    obtain ⟨cs', hc, ht'⟩ := hi i him
    rw [hC] at hc
    obtain ⟨ys, n', hn', hy, hlen, hyl, hf⟩ := DataW.trod_struct he ht'
    obtain ⟨_, hcl, hat⟩ := World.cells?_some hc
    simp only [Prod.mk.injEq] at hy
    refine ⟨ys, n', hy.1, hy.2, hyl, fun j f hj => ?_⟩
    obtain ⟨ho, hk⟩ := hone_of hone j f hj
    have hjl : j < fs.size := (Array.getElem?_eq_some_iff.1 hj).1
    have hcell := hat j hjl
    have hv : cs'[j]? = some (cs'[j]'(by omega)) := List.getElem?_eq_getElem (by omega)
    have h1 := hf j f hj
    rw [ho, hk] at h1
    have hone' : (cs'.drop j).take 1 = [cs'[j]'(by omega)] := by
      rw [List.drop_eq_getElem_cons (by omega)]
      rfl
    rw [hone'] at h1
    have hys : ys[j]? = some (ys[j]'(by omega)) := List.getElem?_eq_getElem (by omega)
    refine ⟨_, _, ?_, hys, h1.trans hys⟩
    rw [← Go.Deep.add_add, hcell, hv]
end


theorem plain_of_cell {w : World} {a : Addr} {v : Value} (h : w.cell? a = some v) : a = ⟨a.block, a.off, none⟩ := by
  obtain ⟨b, o, sp⟩ := a
  cases sp with
  | none => rfl
  | some x =>
    simp only [World.cell?] at h
    split at h <;> simp at h

theorem add_plain (b o j : Nat) : (⟨b, o, none⟩ : Addr).add j = ⟨b, o + j, none⟩ := by unfold Addr.add; by_cases e : j = 0 <;> simp [e]

theorem wf_i64_le {n : Int} (h : (Lit.int .i64 n).wf = true) : -9223372036854775808 ≤ n ∧ n ≤ 9223372036854775807 := by
  simp only [Lit.wf, Bool.and_eq_true, decide_eq_true_eq] at h
  have e1 : IntKind.i64.min = -9223372036854775808 := by decide
  have e2 : IntKind.i64.max = 9223372036854775807 := by decide
  omega

section
variable {H : Type} {enc : TypeId × Value → H} {W : World} {base : Nat} {spare : Nat → Bool} {held : Bool}

/-- A field that is a slice of bytes, opened. -/
theorem open_bts_field {fuel : Nat} {v : Value} {x : DataW H × List MemPlace} (hs : ∀ b, spare b = true) (h : DataW.trod enc Try.prog W base spare held fuel 27 [v] = some x) :
    ∃ A n c l, v = .slice A n c ∧ Bts W A n c l := by
  rcases open_ints Try.underlying27 Try.underlying5 (by kernel_rfl) h with ⟨hcs, _⟩ | ⟨x, l, c, zs, hcs, _, hl, hm, hz, _, hcell, hwz⟩
  · obtain rfl : v = .slice none 0 0 := by simpa using hcs
    exact ⟨none, 0, 0, [], rfl, bts_nil W⟩
  · obtain rfl : v = .slice (some x) l c := by simpa using hcs
    rw [hs, if_pos rfl] at hz
    obtain ⟨r, hr⟩ := IsRow.bts (w := W) (A := some x) (n := l) (c := c) (zs := zs) (.inr ⟨x, rfl, hl, hm, hz, hcell, hwz⟩)
    exact ⟨_, _, _, r, rfl, hr⟩

theorem open_int_field {fuel : Nat} {v : Value} {x : DataW H × List MemPlace} (h : DataW.trod enc Try.prog W base spare held fuel 3 [v] = some x) :
    ∃ n : Int, v = .int .i64 n ∧ -9223372036854775808 ≤ n ∧ n ≤ 9223372036854775807 := by
  obtain ⟨n, hcs, _, hw⟩ := DataW.trod_int Try.underlying3 h
  exact ⟨n, by simpa using hcs, wf_i64_le hw⟩

set_option maxHeartbeats 400000 in
/-- The calls that came in, opened. -/
theorem open_acts {fuel : Nat} {v : Value} {x : DataW H × List MemPlace} (hs : ∀ b, spare b = true) (h : DataW.trod enc Try.prog W base spare held fuel 31 [v] = some x) :
    ∃ A n c L, v = .slice A n c ∧ n ≤ c ∧ c ≤ maxLen ∧ ActsAt W W.heap.size A n L := by
  rcases open_slice_fields Try.underlying31 Try.underlying35 (by kernel_rfl) (by kernel_rfl) h with ⟨hcs, _⟩ | ⟨a, len, cap, m, D, Pl, hcs, _, hl, hm, hmm, _, hi⟩
  · obtain rfl : v = .slice none 0 0 := by simpa using hcs
    exact ⟨none, 0, 0, [], rfl, Nat.le_refl _, Nat.zero_le _, rfl, fun i x hx => by simp at hx⟩
  · obtain rfl : v = .slice (some a) len cap := by simpa using hcs
    rw [hs, if_pos rfl] at hmm
    subst hmm
    have each : ∀ i, i < len → ∃ x : Ac, x.fits ∧ ∃ bb oo, (some a : Option Addr) = some ⟨bb, oo, none⟩ ∧ bb < W.heap.size ∧
        W.cell? ⟨bb, oo + i * 5, none⟩ = some (.int .i64 x.op) ∧ W.cell? ⟨bb, oo + i * 5 + 1, none⟩ = some (.int .i64 x.sector) ∧ W.cell? ⟨bb, oo + i * 5 + 2, none⟩ = some (.int .i64 x.n) ∧
        W.cell? ⟨bb, oo + i * 5 + 3, none⟩ = some (.int .i64 x.how) ∧ ∃ A' m c, W.cell? ⟨bb, oo + i * 5 + 4, none⟩ = some (.slice A' m c) ∧ BtsB W W.heap.size A' m c x.B := by
      intro i hil
      obtain ⟨ys0, n0, _, _, _, hf0⟩ := hi 0 (by omega)
      obtain ⟨v00, _, h00, _, _⟩ := hf0 0 _ rfl
      have ha : a = ⟨a.block, a.off, none⟩ := by
        have e : a.add (0 * 5 + 0) = a := by simp [Addr.add]
        exact plain_of_cell (by rw [← e]; exact h00)
      obtain ⟨ys, n, _, _, _, hf⟩ := hi i (by omega)
      obtain ⟨v0, y0, c0, _, t0⟩ := hf 0 _ rfl
      obtain ⟨v1, y1, c1, _, t1⟩ := hf 1 _ rfl
      obtain ⟨v2, y2, c2, _, t2⟩ := hf 2 _ rfl
      obtain ⟨v3, y3, c3, _, t3⟩ := hf 3 _ rfl
      obtain ⟨v4, y4, c4, _, t4⟩ := hf 4 _ rfl
      obtain ⟨x0, rfl, _, _⟩ := open_int_field t0
      obtain ⟨x1, rfl, _, _⟩ := open_int_field t1
      obtain ⟨x2, rfl, _, hx2⟩ := open_int_field t2
      obtain ⟨x3, rfl, _, _⟩ := open_int_field t3
      obtain ⟨A', m', c', l, rfl, hb⟩ := open_bts_field hs t4
      rw [ha] at c0 c1 c2 c3 c4
      simp only [add_plain, List.size_toArray, List.length_cons, List.length_nil, Nat.reduceAdd, Nat.add_zero, ← Nat.add_assoc] at c0 c1 c2 c3 c4
      exact ⟨⟨x0, x1, x2, x3, l⟩, hx2, a.block, a.off, by rw [← ha], World.block_lt_of_cell? W ⟨a.block, a.off + i * 5, none⟩ c0, c0, c1, c2, c3, A', m', c', c4, hb⟩
    have list : ∀ k, k ≤ len → ∃ L : List Ac, L.length = k ∧ ∀ (i : Nat) (x : Ac), L[i]? = some x → x.fits ∧ ∃ bb oo, (some a : Option Addr) = some ⟨bb, oo, none⟩ ∧ bb < W.heap.size ∧
        W.cell? ⟨bb, oo + i * 5, none⟩ = some (.int .i64 x.op) ∧ W.cell? ⟨bb, oo + i * 5 + 1, none⟩ = some (.int .i64 x.sector) ∧ W.cell? ⟨bb, oo + i * 5 + 2, none⟩ = some (.int .i64 x.n) ∧
        W.cell? ⟨bb, oo + i * 5 + 3, none⟩ = some (.int .i64 x.how) ∧ ∃ A' m c, W.cell? ⟨bb, oo + i * 5 + 4, none⟩ = some (.slice A' m c) ∧ BtsB W W.heap.size A' m c x.B := by
      intro k
      induction k with
      | zero => exact fun _ => ⟨[], rfl, fun i x hx => by simp at hx⟩
      | succ k ih =>
        intro hk
        obtain ⟨L, hL, hall⟩ := ih (by omega)
        obtain ⟨x, hx⟩ := each k (by omega)
        refine ⟨L ++ [x], by simp [hL], fun i y hy => ?_⟩
        by_cases e : i < k
        · rw [List.getElem?_append_left (by omega)] at hy
          exact hall i y hy
        · have hik : i = k := by
            have := (List.getElem?_eq_some_iff.1 hy).1
            simp at this
            omega
          subst hik
          rw [List.getElem?_append_right (by omega), hL, Nat.sub_self] at hy
          simp at hy
          subst hy
          exact hx
    obtain ⟨L, hL, hall⟩ := list len (Nat.le_refl _)
    exact ⟨some a, len, m, L, rfl, hl, hm, hL, hall⟩
end
end Go.Proofs.Ytifldkcfbggkeaa
