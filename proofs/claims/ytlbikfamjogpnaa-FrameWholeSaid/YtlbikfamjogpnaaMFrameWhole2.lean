/- The texts of this proof, joined: contracts of the functions that the law reaches, and what they come to in plain Lean. Conditions: those that each theorem names. -/
import Derived.Test.YtlbikfamjogpnaaMFrameWhole1
import Derived.Test.YtlbikfamjogpnaaMFrameWhole0
import Derived.Deep.CutBlock
import Derived.Deep.Matrix

/- The law's own 'awake' over frames answers true. Conditions: none. -/
section
namespace Go.Proofs.Ytlbikfamjogpnaa
open Go.RowKit
set_option linter.unusedVariables false
set_option linter.unusedSimpArgs false

theorem clean_end {S : List (List UInt8)} {first sectors u : Nat} {P : Fr → Prop} (h : Clean S first sectors u) : ∀ f, frameAt S first sectors u = some f → P f := by
  intro f hf
  rw [h.none] at hf
  cases hf
theorem DiskAt.area {w w' : World} {B p b a : Nat} {A : Ar} {d : Dk} (h : DiskAt w b a d) (ha : AreaAt w B p b A) (hk : DKept (fun k => k = p) w w') : DiskAt w' b a d := by
  obtain ⟨_, At, c, hA, _⟩ := ha
  have hn := h.apart97 hA
  exact h.keep (hk.block b h.ltb (fun e => hn (.inl e.symm))) (hk.block a h.lta (fun e => hn (.inr e.symm))) (fun g cs hg => hk.blk hg (fun e => by subst e; exact hg.ne_ hA (by decide) rfl))
theorem AreaAt.disk {w w' : World} {B p b a : Nat} {A : Ar} {d : Dk} (h : AreaAt w B p b A) (hd : DiskAt w b a d) (hk : DKept (DS b a) w w') : AreaAt w' B p b A := by
  obtain ⟨h0, At, c, hA, ho⟩ := h
  exact ⟨h0, At, c, hk.blk hA (hd.apart97 hA), own_keep ho fun g hg => hk.block g (ho.lt g hg).2 (hd.apartI ho hg)⟩
theorem DKept.area {w0 w w' : World} {B p b : Nat} {A : Ar} (hB : Below w0.heap.size w0 w) (ha : AreaAt w B p b A) (hp : w0.heap.size ≤ B) (hk : DKept (fun k => k = p) w w') : Below w0.heap.size w0 w' :=
  DKept.low hB (Nat.le_refl _) (by rintro i rfl; exact Nat.le_trans hp ha.1) hk

set_option maxRecDepth 100000 in
set_option maxHeartbeats 4000000 in
theorem awake5 (w : World) : Calls Try.prog 13 #[] w fun e w' => e = .returned (.bool true) ∧ Below w.heap.size w w' := by
  have kc := fun (w : World) (C : Array Value) (n c : Nat) => Lib.run_convert_bytes_const (P := Try.prog) w 36 5 C n c Try.underlying36 Try.underlying5
  go_enter Try.func13, Try.ntmps13
  go_wp2_with fail
  refine (new_ok 10 w (by omega) (by omega)).mono ?_
  rintro e w1 ⟨b, a, rfl, hd1, hb, ha, hB1⟩
  have P1 : Chain (Dk.new 10).S 2 6 7 [] := new_chain 10 2 6 7 (by omega)
  have C1 := new_clean 10 2 6
  have HB := Lib.hid hb
  have HAA := Lib.hid ha
  clear hb ha
  go_wp2_with fail
  refine (open_ok (fs := []) (Dk.new 10) 2 6 7 hd1 (by omega) P1 rfl rfl (by omega) (clean_end C1)).mono ?_
  rintro e w2 ⟨p, A, rfl, ha2, hA, hp2, hB2⟩
  obtain rfl : A = ⟨1, 2, 6, 0, [], 0⟩ := hA
  have hd2 := hd1.below hB2
  have hB2' : Below w.heap.size w w2 := hB1.trans (hB2.mono hB1.size)
  have hBA : w.heap.size ≤ w1.heap.size := hB1.size
  have CA := Lib.hid (all_any ha2 (by show 0 ≤ _; omega))
  have CG := Lib.hid (fun V (hV : Later w2 V) => begin_any 7 (ha2.below hV))
  have CA : Hid (Calls Try.prog 21 #[.pointer (some ⟨p, 0, none⟩)] w2 fun e w' => ∃ A9 c9, e = .returned (.slice A9 0 c9) ∧ w'.ownsRow w2.heap.size 3 1 (.slice A9 0 c9) 0 [] ∧ Below w2.heap.size w2 w') := CA
  go_wp2_with fail
  refine CA.out.mono ?_
  rintro e w3 ⟨A9, c9, rfl, -, hB3⟩
  have ha3 := ha2.below hB3
  have hd3 := hd2.below hB3
  have hB3' : Below w.heap.size w w3 := hB2'.trans (hB3.mono hB2'.size)
  have CG0 := Lib.hid (CG.out w3 hB3)
  go_wp2_with fail
  refine CG0.out.mono ?_
  rintro e w4 ⟨rfl, ha4, hk4⟩
  have hd4 := hd3.area ha3 hk4
  have hB4' := DKept.area hB3' ha3 hBA hk4
  have ha4 : AreaAt w4 w1.heap.size p b ⟨1, 2, 6, 7, [], 0⟩ := ha4
  have hp4 : Plain ⟨1, 2, 6, 7, [], 0⟩ (Dk.new 10) [] := ⟨P1, rfl, rfl, rfl, rfl, rfl, by show 7 < _; omega⟩
  have ha5 := ha4.below ((Below.refl _ w4).alloc (Nat.le_refl _) (.cells #[.int .u8 97, .int .u8 98, .int .u8 99] 5 (3, 4)))
  have hd5 := hd4.below ((Below.refl _ w4).alloc (Nat.le_refl _) (.cells #[.int .u8 97, .int .u8 98, .int .u8 99] 5 (3, 4)))
  have hB5' : Below w.heap.size w (w4.alloc (.cells #[.int .u8 97, .int .u8 98, .int .u8 99] 5 (3, 4))) := hB4'.alloc hB4'.size _
  have hbt : Bts (w4.alloc (.cells #[.int .u8 97, .int .u8 98, .int .u8 99] 5 (3, 4))) (some ⟨w4.heap.size, 0, none⟩) 3 3 [97, 98, 99] := bts_lit w4 [97, 98, 99] 3 rfl (by unfold maxLen; omega) (3, 4)
  have CADD := Lib.hid (add_ok (Dk.new 10) 5 ha5 hd5 hp4 hbt (by omega) (by decide))
  have HP4 := Lib.hid hp4
  have HBA := Lib.hid hBA
  clear CG CG0 hk4 hB3 hB3' ha3 hd3 ha2 hd2 hB2 hB2' hd1 CA kc hBA hp4 hp2 P1 hbt hd4 ha4 hB4' hB1
  have kc := fun (w : World) (C : Array Value) (n c : Nat) => Lib.run_convert_bytes_const (P := Try.prog) w 36 5 C n c Try.underlying36 Try.underlying5
  go_wp2_with fail
  refine CADD.out.mono ?_
  rintro e w6 ⟨d6, rfl, ha6, hd6, hp6, hwr6, hlv6, hk6⟩
  have hB6' := kept_low hB5' ha5 HBA.out HB.out HAA.out hk6
  have hcl6 : Clean d6.S 2 6 1 := by
    have := C1.more (n := 1) (m := 1) hwr6 (Nat.le_refl _)
    exact this
  have ha6 : AreaAt w6 w1.heap.size p b ⟨1, 2, 6, 7, [0], 1⟩ := ha6
  have hp6 : Plain ⟨1, 2, 6, 7, [0], 1⟩ d6 [(5, [97, 98, 99])] := hp6
  clear CADD kc hk6 hB5' ha5 hd5 hwr6
  go_wp2_with fail
  refine (get_ok d6 0 ha6 hd6 hp6 rfl).mono ?_
  rintro e w7 ⟨g7, c7, rfl, hg7, hbt7, hB7⟩
  have hB7' : Below w.heap.size w w7 := hB6'.trans (hB7.mono hB6'.size)
  have hd7 := hd6.below hB7
  clear hB7 ha6 hd6 hB6'
  go_wp2_with fail
  refine (open_ok d6 2 6 7 hd7 (by omega) hp6.chain hp6.off hp6.cut (by omega) (clean_end hcl6)).mono ?_
  rintro e w8 ⟨p8, A8, rfl, ha8, hA8, hp8, hB8⟩
  have hbt8 := hbt7.below hB8
  have hB8' : Below w.heap.size w w8 := hB7'.trans (hB8.mono hB7'.size)
  have cv : (convert 36 9 (.slice (some ⟨g7, 0, none⟩) 3 c7)).run Try.prog w8 = .ok (.string ⟨#[97, 98, 99]⟩) w8 := run_string_of w8 36 9 5 Try.underlying36 Try.underlying5 Try.underlying9 (c := c7) hbt8.2.1
  clear hbt7 hbt8 hp6 hcl6 hB7' hB8 hd7
  obtain rfl : A8 = ⟨d6.lives, 2, 6, 7, [0], 1⟩ := hA8
  have CL := Lib.hid (life_any ha8)
  have CA : Hid (Calls Try.prog 21 #[.pointer (some ⟨p8, 0, none⟩)] w8 fun e w' => ∃ A9 c9, e = .returned (.slice A9 1 c9) ∧ w'.ownsRow w8.heap.size 3 1 (.slice A9 1 c9) 1 [natv 0] ∧ Below w8.heap.size w8 w') := Lib.hid (all_any ha8 (by show 1 ≤ _; omega))
  have CR : Hid (∀ V, Below w8.heap.size w8 V → Calls Try.prog 19 #[.pointer (some ⟨p8, 0, none⟩)] V fun e w' => e = .returned (.int .i64 5) ∧ ∃ m, w' = V.drewN m) := Lib.hid (fun V hV => room_any (ha8.below hV) (by show 1 ≤ _; omega) (by show 6 ≤ _; omega))
  have CS : Hid (∀ V, Calls Try.prog 17 #[.int .i64 44] V fun e w' => e = .returned (.int .i64 1) ∧ V = w') := Lib.hid (fun V => size_any V 44 (by omega) (by omega))
  have CS2 : Hid (∀ V, Calls Try.prog 17 #[.int .i64 45] V fun e w' => e = .returned (.int .i64 2) ∧ V = w') := Lib.hid (fun V => size_any V 45 (by omega) (by omega))
  have CF : Hid (∀ V : World, Calls Try.prog 20 #[.int .i64 3, .slice (some ⟨V.heap.size, 0, none⟩) 2 2] (V.alloc (.cells #[.int .i64 44, .int .i64 45] 3)) fun e w' => e = .returned (.bool true) ∧ V.alloc (.cells #[.int .i64 44, .int .i64 45] 3) = w') := Lib.hid (fun V => fits_any (L := [44, 45]) 3 ⟨⟨by simp, ⟨rfl, fun _ => ⟨_, rfl, by simp, fun j u hu => by rw [add_zero_off, (Blk.new V 3 #[.int .i64 44, .int .i64 45]).cell j]; simpa using hu⟩⟩, Nat.le_refl _, by unfold maxLen; omega⟩, rfl, by decide⟩ (by omega) (by omega) (by omega))
  have HB8 := Lib.hid hB8'
  clear ha8 hp8 hB8' hlv6
  go_wp2_with fail
  refine CL.out.mono ?_
  rintro e w9 ⟨rfl, rfl⟩
  go_wp2_with fail
  refine CA.out.mono ?_
  rintro e w9 ⟨A9, c9, rfl, -, hB9⟩
  have HB9 := Lib.hid (HB8.out.trans (hB9.mono HB8.out.size))
  have CR0 := Lib.hid (CR.out w9 hB9)
  clear hB9 CR
  go_wp2_with fail
  refine CR0.out.mono ?_
  rintro e w10 ⟨rfl, m, rfl⟩
  go_wp2_with fail
  refine (CS.out _).mono ?_
  rintro e w11 ⟨rfl, rfl⟩
  go_wp2_with fail
  refine (CS2.out _).mono ?_
  rintro e w11 ⟨rfl, rfl⟩
  go_wp2_with fail
  refine (CF.out _).mono ?_
  rintro e w11 ⟨rfl, rfl⟩
  go_wp2_with fail
  go_ret
  exact ⟨rfl, (below_drewN HB9.out m).alloc HB9.out.size _⟩
end Go.Proofs.Ytlbikfamjogpnaa
end

/- A slice of noughts that is made. Conditions: none. -/
section
namespace Go.Proofs.Ytlbikfamjogpnaa
open Go.RowKit
/-- A row of noughts. -/
def zs (n : Nat) : List UInt8 := List.replicate n 0
end Go.Proofs.Ytlbikfamjogpnaa
end

/- FrameKnown answers true. Conditions: none. -/
section
namespace Go.Proofs.Ytlbikfamjogpnaa
open Go.RowKit
set_option linter.unusedVariables false
set_option linter.unusedSimpArgs false
end Go.Proofs.Ytlbikfamjogpnaa
end

/- FrameRows answers true. Conditions: a slice of ints that reads, a byte. -/
section
namespace Go.Proofs.Ytlbikfamjogpnaa
open Go.RowKit
set_option linter.unusedVariables false
set_option linter.unusedSimpArgs false

theorem begun {d : Dk} {A : Ar} {fs : List (UInt8 × List UInt8)} (h : Plain A d fs) (life : Nat) (hl : life < 18446744073709551616) : Plain { A with life := life, ats := [], used := 0 } d [] :=
  ⟨⟨h.chain.len, h.chain.fit, Nat.zero_le _, fun i k b hx => by simp at hx⟩, rfl, rfl, h.lives, h.off, h.cut, hl⟩
end Go.Proofs.Ytlbikfamjogpnaa
end

/- A slice of slices of bytes that came in, opened. Conditions: none. -/
section
namespace Go.Proofs.Ytlbikfamjogpnaa
open Go.ChangeShapes Go.WideShapes Go.Deep Go.RowKit

/-- A slice of slices of bytes that can be read. -/
def Mats (w : World) (A : Option Addr) (n c : Nat) (ls : List (List UInt8)) : Prop :=
  n ≤ c ∧ c ≤ maxLen ∧ ls.length = n ∧ ∀ (i : Nat) (l : List UInt8), ls[i]? = some l → ∃ ab ao Ai ci, A = some ⟨ab, ao, none⟩ ∧ w.cell? ⟨ab, ao + i, none⟩ = some (.slice Ai l.length ci) ∧ Bts w Ai l.length ci l
theorem Mats.at_ {w : World} {A : Option Addr} {n c : Nat} {ls : List (List UInt8)} (h : Mats w A n c ls) {i : Nat} (hi : i < n) :
    ∃ ab ao Ai ci l, A = some ⟨ab, ao, none⟩ ∧ ls[i]? = some l ∧ ∀ w', Below w.heap.size w w' → w'.cell? ⟨ab, ao + i, none⟩ = some (.slice Ai l.length ci) ∧ Bts w' Ai l.length ci l := by
  obtain ⟨h1, h2, h3, h4⟩ := h
  obtain ⟨l, hl⟩ : ∃ l, ls[i]? = some l := ⟨_, List.getElem?_eq_getElem (by omega)⟩
  obtain ⟨ab, ao, Ai, ci, e, hc, hb⟩ := h4 i l hl
  exact ⟨ab, ao, Ai, ci, l, e, hl, fun w' hw => ⟨(hw.cell (p := ⟨ab, ao + i, none⟩) (World.block_lt_of_cell? _ _ hc)).trans hc, hb.below hw⟩⟩

section
variable {H : Type} {enc : TypeId × Value → H} {P : Program} {W : World} {base : Nat} {spare : Nat → Bool} {held : Bool}
theorem open_mats_gen {t e q : TypeId} (ht : P.underlying t = some (.slice e)) (he : P.underlying e = some (.slice q)) (hq : P.underlying q = some (.int .u8)) (ce : P.cellsOf e = 1) (cq : P.cellsOf q = 1) {fuel : Nat} {v : Value} {x : DataW H × List MemPlace} (hs : ∀ b, spare b = true)
    (h : DataW.trod enc P W base spare held fuel t [v] = some x) : ∃ A n c ls, v = .slice A n c ∧ Mats W A n c ls := by
  obtain rfl : spare = fun _ => true := funext hs
  rcases open_int_rows ht he hq ce cq h with ⟨hcs, _⟩ | ⟨a, len, cap, A, L, C, Z, hcs, _, hl, hm, _, hr⟩
  · obtain rfl : v = .slice none 0 0 := by simpa using hcs
    exact ⟨none, 0, 0, [], rfl, Nat.le_refl _, Nat.zero_le _, rfl, fun i l h => by simp at h⟩
  · obtain rfl : v = .slice (some a) len cap := by simpa using hcs
    have hrow : ∀ r, r < len → ∃ l : List UInt8, l.length = L r ∧ W.cell? (a.add r) = some (.slice (A r) (L r) (C r)) ∧ Bts W (A r) (L r) (C r) l := by
      intro r hlt
      obtain ⟨h1, h2, h3, h4, h5, h6, h7⟩ := hr r (by omega)
      have hrow : IsRow .u8 W (A r) (L r) (C r) (Z r) := by
        cases hA : A r with
        | none => exact .inl ⟨rfl, by have := h6 hA; omega, h6 hA, List.eq_nil_of_length_eq_zero (by rw [h4]; exact h6 hA)⟩
        | some a' => exact .inr ⟨a', rfl, h2, h3, h4, fun i hi => (h7 a' hA).2 i (by omega), h5⟩
      obtain ⟨l, hl⟩ := hrow.bts
      exact ⟨l, hl.2.2.2.2, h1, hl⟩
    refine ⟨some a, len, cap, (List.range len).map fun r => if hlt : r < len then (hrow r hlt).choose else [], rfl, hl, hm, by simp, fun i l hil => ?_⟩
    have hi : i < len := by
      have := (List.getElem?_eq_some_iff.1 hil).1
      simpa using this
    rw [List.getElem?_map, List.getElem?_range hi] at hil
    simp only [Option.map_some, hi, dite_true, Option.some.injEq] at hil
    have hsp := (hrow i hi).choose_spec
    rw [hil] at hsp
    obtain ⟨e1, e2, e3⟩ := hsp
    have e0 := (hr 0 (by omega)).1
    rw [show a.add 0 = a by simp [Addr.add]] at e0
    have hpl := plain_of' e0
    obtain ⟨ab, ao, sp⟩ := a
    obtain rfl : sp = none := congrArg Addr.spot hpl
    have e9 : (⟨ab, ao, none⟩ : Addr).add i = ⟨ab, ao + i, none⟩ := by
      unfold Addr.add
      by_cases e : i = 0 <;> simp [e]
    rw [e9, ← e1] at e2
    rw [← e1] at e3
    exact ⟨ab, ao, _, _, rfl, e2, e3⟩
end
end Go.Proofs.Ytlbikfamjogpnaa
end

/- FrameWhole answers true. Conditions: a slice of slices of bytes, two slices of bytes that read, two ints. -/
section
namespace Go.Proofs.Ytlbikfamjogpnaa
open Go.RowKit
set_option linter.unusedVariables false
set_option linter.unusedSimpArgs false

theorem own_at {w : World} {B n c : Nat} {A : Option Addr} {L : List Nat} (h : w.ownsRow B 3 1 (.slice A n c) n (L.map natv)) {i : Nat} (hi : i < n) :
    ∃ g, A = some ⟨g, 0, none⟩ ∧ ∀ w', Below w.heap.size w w' → w'.cell? ⟨g, i, none⟩ = some (.int .i64 (L.getD i 0 : Nat)) := by
  have hl := h.1
  rw [List.length_map] at hl
  rcases h.2 with ⟨e, hn⟩ | ⟨g, cap, cur, e, hg, hh, hnc, r⟩
  · omega
  · injection e with e1 e2 e3
    subst e1
    refine ⟨g, rfl, fun w' hb => ?_⟩
    have hc := h.cells (g := g) rfl i (natv (L.getD i 0)) (by rw [List.getElem?_map, List.getElem?_eq_getElem (by omega), List.getD_eq_getElem?_getD, List.getElem?_eq_getElem (by omega)]; rfl)
    rw [add_zero_off] at hc
    exact (hb.cell (p := ⟨g, i, none⟩) (World.block_lt_of_cell? _ _ hc)).trans hc

/-- What a cut leaves of frames and one more. -/
theorem cut_leaves {S S' : List (List UInt8)} {first sectors life m : Nat} {fs : List (UInt8 × List UInt8)} {kind : UInt8} {b : List UInt8} (h : Chain S first sectors life fs) (hc : Clean S first sectors (offs fs fs.length)) (hb : b.length ≤ 1000) (hlife : life < 18446744073709551616)
    (hn : fs.length < 4294967296) (hroom : offs fs fs.length + fsz b.length ≤ sectors) (hm : m ≤ fsz b.length)
    (hw : written S S' (first + offs fs fs.length) (fsz b.length) m (layB kind life fs.length b (fsz b.length - 1))) :
    ∃ fs2, (fs2 = fs ∧ m < fsz b.length ∨ fs2 = fs ++ [(kind, b)]) ∧ Chain S' first sectors life fs2 ∧ Clean S' first sectors (offs fs2 fs2.length) := by
  by_cases e : m = fsz b.length
  · subst e
    refine ⟨fs ++ [(kind, b)], .inr rfl, h.more hb hlife hn hroom hw, ?_⟩
    rw [offs_more]
    exact hc.more hw (Nat.le_refl _)
  · exact ⟨fs, .inl ⟨rfl, by omega⟩, h.stay hm (layB_rows _ _ _ _ _) hw, hc.part hw (by omega)⟩
def ones (ls : List (List UInt8)) : List (UInt8 × List UInt8) := ls.map fun l => (1, l)
section
variable {w : World} {A0 A1 A4 : Option Addr} {n0 c0 n1 c1 n4 c4 : Nat} {ls : List (List UInt8)} {bs more : List UInt8}
set_option maxRecDepth 100000 in
set_option maxHeartbeats 8000000 in
theorem frameWhole_wide (h0 : Mats w A0 n0 c0 ls) (h1 : Bts w A1 n1 c1 bs) (n how : Int) (h4 : Bts w A4 n4 c4 more) (hno : 6 < n0 ∨ 300 < n1 ∨ n < 1 ∨ 10 < n ∨ 300 < n4) :
    Calls Try.prog 6 #[.slice A0 n0 c0, .slice A1 n1 c1, .int .i64 n, .int .i64 how, .slice A4 n4 c4] w fun e w' => e = .returned (.bool true) ∧ Below w.heap.size w w' := by
  have hm0 : n0 ≤ maxLen := Nat.le_trans h0.1 h0.2.1
  have hm1 : n1 ≤ maxLen := Nat.le_trans h1.2.2.1 h1.2.2.2.1
  have hm4 : n4 ≤ maxLen := Nat.le_trans h4.2.2.1 h4.2.2.2.1
  unfold maxLen at hm0 hm1 hm4
  clear h0 h1 h4
  by_cases a0 : 6 < n0
  · have g0 : decide (6 < n0) = true := decide_eq_true a0
    clear hno
    go_enter Try.func6, Try.ntmps6
    go_wp2_with fail
    refine (awake5 w).mono ?_
    rintro e w1 ⟨rfl, hB1⟩
    go_wp2
    go_ret
    exact ⟨rfl, hB1⟩
  have g0 : decide (6 < n0) = false := decide_eq_false a0
  by_cases a1 : 300 < n1
  · have g1 : decide (300 < n1) = true := decide_eq_true a1
    clear hno
    go_enter Try.func6, Try.ntmps6
    go_wp2_with fail
    refine (awake5 w).mono ?_
    rintro e w1 ⟨rfl, hB1⟩
    go_wp2
    go_ret
    exact ⟨rfl, hB1⟩
  have g1 : decide (300 < n1) = false := decide_eq_false a1
  by_cases a2 : n < 1
  · have g2 : decide (n < 1) = true := decide_eq_true a2
    clear hno
    go_enter Try.func6, Try.ntmps6
    go_wp2_with fail
    refine (awake5 w).mono ?_
    rintro e w1 ⟨rfl, hB1⟩
    go_wp2
    go_ret
    exact ⟨rfl, hB1⟩
  have g2 : decide (n < 1) = false := decide_eq_false a2
  by_cases a3 : 10 < n
  · have g3 : decide (10 < n) = true := decide_eq_true a3
    clear hno
    go_enter Try.func6, Try.ntmps6
    go_wp2_with fail
    refine (awake5 w).mono ?_
    rintro e w1 ⟨rfl, hB1⟩
    go_wp2
    go_ret
    exact ⟨rfl, hB1⟩
  have g3 : decide (10 < n) = false := decide_eq_false a3
  have hn4 : 300 < n4 := by omega
  have g4 : decide (300 < n4) = true := decide_eq_true hn4
  clear hno
  go_enter Try.func6, Try.ntmps6
  go_wp2_with fail
  refine (awake5 w).mono ?_
  rintro e w1 ⟨rfl, hB1⟩
  go_wp2
  all_goals first
    | (exfalso; omega)
    | (go_ret; exact ⟨rfl, hB1⟩)

set_option maxRecDepth 100000 in
set_option maxHeartbeats 8000000 in
theorem frameWhole_in (h0 : Mats w A0 n0 c0 ls) (h1 : Bts w A1 n1 c1 bs) (n how : Int) (h4 : Bts w A4 n4 c4 more) (a0 : n0 ≤ 6) (a1 : n1 ≤ 300) (a2 : 1 ≤ n) (a3 : n ≤ 10) (a4 : n4 ≤ 300) :
    Calls Try.prog 6 #[.slice A0 n0 c0, .slice A1 n1 c1, .int .i64 n, .int .i64 how, .slice A4 n4 c4] w fun e w' => e = .returned (.bool true) ∧ Below w.heap.size w w' := by
  have HM := Lib.hid h0
  have HL := Lib.hid h1
  have HR := Lib.hid h4
  have hlm := h0.2.2.1
  have HLM := Lib.hid hlm
  clear h0 h1 h4 hlm
  have g0 : decide (6 < n0) = false := decide_eq_false (by omega)
  have g1 : decide (300 < n1) = false := decide_eq_false (by omega)
  have g2 : decide (n < 1) = false := decide_eq_false (by omega)
  have g3 : decide (10 < n) = false := decide_eq_false (by omega)
  have g4 : decide (300 < n4) = false := decide_eq_false (by omega)
  go_enter Try.func6, Try.ntmps6
  go_wp2_with fail
  refine (awake5 w).mono ?_
  rintro e w1 ⟨rfl, hB1⟩
  go_wp2_with fail
  refine (new_ok 40 w1 (by omega) (by omega)).mono ?_
  rintro e w2 ⟨b, a, rfl, hd2, hb, ha, hb2⟩
  have hB2 : Below w.heap.size w w2 := hB1.trans (hb2.mono hB1.size)
  have HB := Lib.hid (Nat.le_trans hB1.size hb)
  have HAA := Lib.hid (Nat.le_trans hB1.size ha)
  have HZ2 := Lib.hid hB2.size
  clear hb ha hb2 hB1 g0 g1 g2 g3 g4
  have P1 : Chain (Dk.new 40).S 0 40 0 [] := new_chain 40 0 40 0 (by omega)
  go_wp2_with fail
  refine (open_ok (fs := []) (Dk.new 40) 0 40 0 hd2 (by omega) P1 rfl rfl (by omega) (clean_end (new_clean 40 0 40))).mono ?_
  rintro e w3 ⟨p, A, rfl, ha3, hA, hp3, hb3⟩
  obtain rfl : A = ⟨1, 0, 40, 0, [], 0⟩ := hA
  have hd3 := hd2.below hb3
  have hB3 : Below w.heap.size w w3 := hB2.trans (hb3.mono hB2.size)
  have C1 := Lib.hid (begin_any 3 ha3)
  have HP3 := Lib.hid hp3
  have HA3 := Lib.hid ha3
  have HD3 := Lib.hid hd3
  have HB3 := Lib.hid hB3
  clear ha3 hd3 hB3 hB2 hb3 hd2 P1 hp3
  go_wp2_with fail
  refine C1.out.mono ?_
  rintro e w4 ⟨rfl, ha4, hk4⟩
  have HB4 := Lib.hid (DKept.area HB3.out HA3.out HZ2.out hk4)
  have HD4 := Lib.hid (HD3.out.area HA3.out hk4)
  have HP4 : Hid (Plain ⟨1, 0, 40, 3, [], 0⟩ (Dk.new 40) []) := Lib.hid (begun HP3.out 3 (by omega))
  have HA4 : Hid (AreaAt w4 w2.heap.size p b ⟨1, 0, 40, 3, [], 0⟩) := Lib.hid ha4
  clear C1 ha4 hk4 HA3 HD3 HB3 HP3
  go_wp2_with fail
  go_loopg [15] n0 (fun m iv wr => ∃ (j : Nat) (d : Dk) (u : Nat), j + m = n0 ∧ iv = .int .i64 (j : Int) ∧ u ≤ 4 * j ∧ Hid (u = offs (ones (ls.take j)) j) ∧
    Hid (AreaAt wr w2.heap.size p b ⟨1, 0, 40, 3, offsL (ones (ls.take j)), u⟩) ∧ Hid (DiskAt wr b a d) ∧ Hid (Plain ⟨1, 0, 40, 3, offsL (ones (ls.take j)), u⟩ d (ones (ls.take j))) ∧ Hid (Clean d.S 0 40 u) ∧ Hid (Below w.heap.size w wr))
  case atStart => exact ⟨0, Dk.new 40, 0, by omega, rfl, by omega, Lib.hid rfl, HA4, HD4, HP4, Lib.hid (new_clean 40 0 40), HB4⟩
  case round =>
    obtain ⟨j, d, u, hj, rfl, hu, HU, HA, HD, HP, HC, HBW⟩ := hrel
    by_cases hlt : j < n0
    · obtain ⟨ab, ao, Ai, ci, l, rfl, hl, hat⟩ := HM.out.at_ hlt
      obtain ⟨hcell, hbl⟩ := hat wr HBW.out
      have HJ := Lib.hid hj
      have HLJ := Lib.hid hl
      have HBL := Lib.hid hbl
      have hlmx : l.length ≤ maxLen := Nat.le_trans hbl.2.2.1 hbl.2.2.2.1
      unfold maxLen at hlmx
      clear hj hl hat hbl
      obtain ⟨q, hq⟩ : ∃ q, q = l.length := ⟨_, rfl⟩
      rw [← hq] at hcell HBL hlmx
      have HQ := Lib.hid hq
      clear hq
      by_cases hbig : 200 < q
      · have g0 : decide (200 < q) = true := decide_eq_true hbig
        go_wp2
        go_ret
        exact ⟨rfl, HBW.out⟩
      have g0 : decide (200 < q) = false := decide_eq_false hbig
      have hfz : fsz q ≤ 4 := by unfold fsz; split <;> omega
      have CADD := Lib.hid (add_ok d 1 HA.out HD.out HP.out HBL.out (by omega) (show u + fsz q ≤ 40 by omega))
      go_wp2_with fail
      refine CADD.out.mono ?_
      rintro e w5 ⟨d5, rfl, ha5, hd5, hp5, hwr5, hlv5, hk5⟩
      have HB5 := Lib.hid (kept_low HBW.out HA.out HZ2.out HB.out HAA.out hk5)
      have ht : ones (ls.take (j + 1)) = ones (ls.take j) ++ [(1, l)] := by
        unfold ones
        rw [List.take_add_one, HLJ.out, List.map_append]
        rfl
      have hjl : (ones (ls.take j)).length = j := by
        unfold ones
        rw [List.length_map, List.length_take, HLM.out]
        omega
      have HC5 : Hid (Clean d5.S 0 40 (u + fsz q)) := Lib.hid (by rw [← HQ.out] at hwr5; exact HC.out.more hwr5 (Nat.le_refl _))
      have hlo : offs (ones (ls.take (j + 1))) (j + 1) = u + fsz q := by
        have := offs_more (ones (ls.take j)) (1, l)
        rw [List.length_append, hjl, ← HU.out, ← ht, ← HQ.out] at this
        exact this
      have hll : offsL (ones (ls.take (j + 1))) = offsL (ones (ls.take j)) ++ [u] := by rw [ht, offsL_more, hjl, HU.out]
      rw [← HQ.out] at ha5 hp5
      have HLO := Lib.hid hlo
      have HLL := Lib.hid hll
      have HT := Lib.hid ht
      have HA5 := Lib.hid ha5
      have HD5 := Lib.hid hd5
      have HP5 := Lib.hid hp5
      clear ha5 hd5 hp5 hwr5 hlv5 hk5 hlo hll ht hjl CADD
      go_wp2_with fail
      go_roundg (n0 - (j + 1))
      case measure => have := HJ.out; omega
      case rel =>
        have := HJ.out
        refine ⟨j + 1, d5, u + fsz q, by omega, by go_num, by omega, Lib.hid HLO.out.symm, ?_, HD5, ?_, HC5, HB5⟩
        · rw [HLL.out]; exact HA5
        · rw [HLL.out, HT.out]; exact HP5
    · obtain rfl : j = n0 := by omega
      have et : ls.take j = ls := List.take_of_length_le (by rw [HLM.out]; exact Nat.le_refl _)
      rw [et] at HU HA HP
      clear et
      have hol : (ones ls).length = j := by unfold ones; rw [List.length_map, HLM.out]
      have HOL := Lib.hid hol
      clear hol
      have CC := Lib.hid (cut_any d n how (by omega) HD.out)
      go_wp2_with fail
      refine CC.out.mono ?_
      rintro e w5 ⟨rfl, hd5, hk5⟩
      have HB5 := Lib.hid (DKept.low HBW.out (Nat.le_refl _) (by rintro i (rfl | rfl); exact HB.out; exact HAA.out) hk5)
      have HA5 := Lib.hid (HA.out.disk HD.out hk5)
      have HD5 := Lib.hid hd5
      have HL5 := Lib.hid (HL.out.below HB5.out)
      clear CC hd5 hk5 HA HD HBW
      have hf6 : fsz n1 ≤ 6 := by unfold fsz; split <;> omega
      have CADD := Lib.hid (add_any (d.armed n how) 2 HA5.out HD5.out HP.out.chain.fit HP.out.le.1 HP.out.le.2 HL5.out (by omega))
      go_wp2_with fail
      refine CADD.out.mono ?_
      intro e w6 hpost
      have hn1 : bs.length = n1 := HL.out.2.2.2.2
      obtain ⟨r, fs2, hr2, rfl, hd6, hB6, hfs2, hch, hcl, hlr⟩ : ∃ (r : Dk × Int) (fs2 : List (UInt8 × List UInt8)), (r.2 = 0 ∨ r.2 = 4) ∧ e = .returned (.tuple #[.int .i64 (if r.2 = 0 then (u : Int) else 0), .int .i64 r.2]) ∧ DiskAt w6 b a r.1 ∧ Below w.heap.size w w6 ∧
          (fs2 = ones ls ∧ r.2 = 4 ∨ fs2 = ones ls ++ [(2, bs)]) ∧ Chain r.1.S 0 40 3 fs2 ∧ Clean r.1.S 0 40 (offs fs2 fs2.length) ∧ offs fs2 fs2.length ≤ 30 := by
        unfold AddPost at hpost
        rw [if_neg (by rw [hn1]; omega), if_neg (fun hh => hh HP.out.lives), if_neg (by rw [hn1]; show ¬ 40 < u + fsz n1; omega)] at hpost
        obtain ⟨hl2, r, hr, he, hd', ha', hk⟩ := hpost
        have ho := HP.out.off
        obtain ⟨⟨m, hm, hw, hmk⟩, hlv, hcase⟩ := wrun_shape (0 + u) (layB 2 3 (offsL (ones ls)).length bs (fsz bs.length - 1)) (d.armed n how) (fsz bs.length) hl2 ho (by
          show 0 + u + fsz bs.length ≤ d.S.length
          have := HP.out.chain.fit
          rw [hn1]
          have : 0 + 40 ≤ d.S.length := this
          omega) (layB_rows _ _ _ _ _) (by show 0 ≤ max n 0; omega) (fsz bs.length) (Nat.le_refl _)
        have hr : r = wrun (0 + u) (layB 2 3 (offsL (ones ls)).length bs (fsz bs.length - 1)) (d.armed n how) (downs (fsz bs.length) hl2 (fsz bs.length)) := hr
        rw [← hr] at hw hmk hlv hcase
        have hur : u = offs (ones ls) (ones ls).length := by rw [HOL.out]; exact HU.out
        obtain ⟨fs2, h1, h2, h3⟩ := cut_leaves (kind := 2) (b := bs) (m := m) (S' := r.1.S) HP.out.chain (by rw [← hur]; exact HC.out) (by rw [hn1]; omega) (by show 3 < _; omega) (by rw [HOL.out]; omega) (by rw [← hur, hn1]; show u + fsz n1 ≤ 40; omega) hm (by
          rw [offsL_len] at hw
          rw [← hur]
          exact hw)
        refine ⟨r, fs2, ?_, he, hd', kept_low HB5.out HA5.out HZ2.out HB.out HAA.out hk, ?_, h2, h3, ?_⟩
        · rcases hcase with ⟨h, _⟩ | ⟨h, _⟩
          · exact .inl h
          · exact .inr h
        · rcases h1 with ⟨e1, e2⟩ | e1
          · refine .inl ⟨e1, ?_⟩
            rcases hcase with ⟨h, _⟩ | ⟨h, _⟩
            · have := hmk h; omega
            · exact h
          · exact .inr e1
        · rcases h1 with ⟨e1, _⟩ | e1
          · rw [e1, ← hur]; omega
          · rw [e1, offs_more, ← hur]; show u + fsz bs.length ≤ 30; rw [hn1]; omega
      have HB6 := Lib.hid hB6
      have HF := Lib.hid hfs2
      have HLR := Lib.hid hlr
      have CO := Lib.hid (on_any r.1 hd6)
      have HCH := Lib.hid hch
      have HCL := Lib.hid hcl
      obtain ⟨nf, hnf⟩ : ∃ nf, nf = fs2.length := ⟨_, rfl⟩
      have hnfc : nf = j ∧ r.2 = 4 ∨ nf = j + 1 := by
        rcases hfs2 with ⟨e1, e2⟩ | e1
        · exact .inl ⟨by rw [hnf, e1, HOL.out], e2⟩
        · exact .inr (by rw [hnf, e1, List.length_append, HOL.out]; rfl)
      have HNF := Lib.hid hnf
      obtain ⟨y, hy⟩ : ∃ y : Int, y = if r.2 = 0 then (u : Int) else 0 := ⟨_, rfl⟩
      rw [← hy]
      obtain ⟨x, hx⟩ : ∃ x, x = r.2 := ⟨_, rfl⟩
      have HD6 := Lib.hid hd6
      rw [← hx] at hnfc hr2
      rw [← hx]
      clear hpost CADD HA5 HD5 HL5 HP HC HU HB5 hfs2 hlr hd6 hch hcl hnf hB6 hx hy
      have HNFC := Lib.hid hnfc
      have HR2 := Lib.hid hr2
      clear hnfc hr2
      go_wp2_with fail
      refine CO.out.mono ?_
      rintro e w7 ⟨rfl, hd7, hk7⟩
      have HB7 := Lib.hid (DKept.low HB6.out (Nat.le_refl _) (by rintro i (rfl | rfl); exact HB.out; exact HAA.out) hk7)
      have COP := Lib.hid (open_ok (fs := fs2) r.1.on 0 40 3 hd7 (by omega) HCH.out rfl rfl (by omega) (clean_end HCL.out))
      have HD7 := Lib.hid hd7
      clear CO HD6 HB6 hk7 hd7
      go_wp2_with fail
      refine COP.out.mono ?_
      rintro e w8 ⟨p2, A2, rfl, ha8, hA2, hp8, hb8⟩
      have HB8 := Lib.hid (HB7.out.trans (hb8.mono HB7.out.size))
      have HD8 := Lib.hid (HD7.out.below hb8)
      have HA8 := Lib.hid ha8
      have HP8 := Lib.hid hp8
      have HA2 := Lib.hid hA2
      have hal : A2.ats.length = nf := by rw [hA2, HNF.out]; exact offsL_len fs2
      have hae : A2.ats = offsL fs2 := by rw [hA2]
      have CA := Lib.hid (all_any ha8 (by have h1 := hp8.le; have h2 := HLR.out; have h3 := hp8.used; omega))
      rw [hal, hae] at CA
      have HZ9 : Hid (w.heap.size ≤ w7.heap.size) := Lib.hid HB7.out.size
      clear COP ha8 hp8 hA2 hb8 hal hae HD7 HB7
      go_wp2_with fail
      refine CA.out.mono ?_
      rintro e w9 ⟨A9, c9, rfl, ho9, hb9⟩
      have HO9 := Lib.hid ho9
      have HB9 := Lib.hid (HB8.out.trans (hb9.mono HB8.out.size))
      have HD9 := Lib.hid (HD8.out.below hb9)
      have HA9 := Lib.hid (HA8.out.below hb9)
      clear CA ho9 hb9 HD8 HA8 HB8
      have ew : IntKind.i64.wrap ((j : Int) + 1) = (j : Int) + 1 := IntWalk.i64_in _ (by omega)
      have g5 : decide ((nf : Int) < (j : Int)) = false := decide_eq_false (by have := HNFC.out; omega)
      have g5' : decide (nf < j) = false := decide_eq_false (by have := HNFC.out; omega)
      have g6 : decide ((j : Int) + 1 < (nf : Int)) = false := decide_eq_false (by have := HNFC.out; omega)
      have hx : (x = 0 ∧ nf = j + 1) ∨ x = 4 := by have := HNFC.out; have := HR2.out; omega
      have HX : Hid ((x = 0 ∧ nf = j + 1) ∨ x = 4) := Lib.hid hx
      have g8 : x = 0 → ((nf : Int) != (j : Int) + 1) = false := fun h0 => by
        rcases hx with ⟨_, e⟩ | e
        · rw [e]; simp
        · omega
      have hx2 : x = 0 ∨ x = 4 := by omega
      clear hx
      have H3 : Hid (3 < 18446744073709551616) := Lib.hid (by omega)
      rcases hx2 with rfl | rfl
      all_goals
        first | (have g8' := g8 rfl; clear g8) | clear g8
        go_wp2_with fail
        go_loopg [22] nf (fun m iv wr => ∃ k : Nat, k + m = nf ∧ iv = .int .i64 (k : Int) ∧ Hid (Later w9 wr))
        case atStart => exact ⟨0, by omega, rfl, Lib.hid (Later.refl _)⟩
        case round =>
          obtain ⟨k, hk, rfl, HLW⟩ := hrel
          have HK := Lib.hid hk
          clear hk
          by_cases hlk : k < nf
          · obtain ⟨g9, rfl, hc9⟩ := own_at HO9.out hlk
            have hc := hc9 wr HLW.out
            rw [offsL_at fs2 (by rw [← HNF.out]; exact hlk)] at hc
            obtain ⟨⟨kd, x⟩, hx⟩ : ∃ x, fs2[k]? = some x := ⟨_, List.getElem?_eq_getElem (by rw [← HNF.out]; exact hlk)⟩
            have CG := Lib.hid (get_ok r.1.on k (HA9.out.below HLW.out) (HD9.out.below HLW.out) HP8.out hx)
            have HXK := Lib.hid hx
            obtain ⟨o, ho⟩ : ∃ o, o = offs fs2 k := ⟨_, rfl⟩
            rw [← ho] at hc CG
            clear hc9 hx ho
            go_wp2_with fail
            refine CG.out.mono ?_
            rintro e w10 ⟨gx, cx, rfl, hgx, hbx, hb10⟩
            have HL10 := Lib.hid (HLW.out.of hb10)
            have cv1 := run_string_of w10 36 9 5 Try.underlying36 Try.underlying5 Try.underlying9 (c := cx) hbx.2.1
            have hB10 : Below w.heap.size w w10 := HB9.out.trans ((show Below _ _ _ from HL10.out).mono HB9.out.size)
            clear CG hc hgx hbx hb10
            by_cases hkj : k < j
            · obtain ⟨ab, ao, Ai, ci, l, rfl, hl, hat⟩ := HM.out.at_ hkj
              obtain ⟨hcell, hbl⟩ := hat w10 hB10
              have e1 : (kd, x) = (1, l) := by
                have h1 : fs2[k]? = some (1, l) := by
                  rcases HF.out with ⟨e, _⟩ | e
                  · rw [e]; unfold ones; rw [List.getElem?_map, hl]; rfl
                  · rw [e, List.getElem?_append_left (by rw [HOL.out]; exact hkj)]; unfold ones; rw [List.getElem?_map, hl]; rfl
                exact Option.some.inj (HXK.out.symm.trans h1)
              obtain ⟨rfl, rfl⟩ := Prod.mk.inj e1
              have cv2 := run_string_of w10 36 9 5 Try.underlying36 Try.underlying5 Try.underlying9 (c := ci) hbl.2.1
              clear hl hat hbl e1 hB10
              go_wp2_with fail
              go_roundg (nf - (k + 1))
              case measure => have := HK.out; omega
              case rel => have := HK.out; exact ⟨k + 1, by omega, by go_num, HL10⟩
            · obtain rfl : k = j := by have := HNFC.out; omega
              have e1 : (kd, x) = (2, bs) := by
                have h1 : fs2[k]? = some (2, bs) := by
                  rcases HF.out with ⟨e, _⟩ | e
                  · have := HNF.out
                    rw [e, HOL.out] at this
                    omega
                  · rw [e, List.getElem?_append_right (by rw [HOL.out]; exact Nat.le_refl _), HOL.out, Nat.sub_self]; rfl
                exact Option.some.inj (HXK.out.symm.trans h1)
              obtain ⟨rfl, rfl⟩ := Prod.mk.inj e1
              have cv2 := run_string_of w10 36 9 5 Try.underlying36 Try.underlying5 Try.underlying9 (c := c1) (HL.out.below hB10).2.1
              rw [hn1] at cv1
              clear e1 hB10
              go_wp2_with fail
              go_roundg (nf - (k + 1))
              case measure => have := HK.out; omega
              case rel => have := HK.out; exact ⟨k + 1, by omega, by go_num, HL10⟩
          · obtain rfl : k = nf := by have := HK.out; omega
            have hk7 : k ≤ 7 := by have := HNFC.out; omega
            have ewk : IntKind.i64.wrap ((k : Int) + 1) = (k : Int) + 1 := IntWalk.i64_in _ (by omega)
            have HBW := Lib.hid (HB9.out.trans ((show Below _ _ _ from HLW.out).mono HB9.out.size))
            have HAW := Lib.hid (HA9.out.below HLW.out)
            have HDW := Lib.hid (HD9.out.below HLW.out)
            clear HLW hlk HO9 HD9 HA9 HB9
            obtain ⟨sf, ss, su⟩ : A2.first = 0 ∧ A2.sectors = 40 ∧ A2.used = offs fs2 fs2.length := by rw [HA2.out]; exact ⟨rfl, rfl, rfl⟩
            have SS := Lib.hid (show A2.first = 0 ∧ A2.sectors = 40 ∧ A2.used = offs fs2 fs2.length from ⟨sf, ss, su⟩)
            clear sf ss su
            have FIN : ∀ (wx : World) (Ax : Ar), AreaAt wx w7.heap.size p2 b Ax → DiskAt wx b a r.1.on → Plain Ax r.1.on fs2 → Below w.heap.size w wx → Ax.first = 0 ∧ Ax.sectors = 40 ∧ Ax.used = offs fs2 fs2.length →
                Calls Try.prog 18 #[.pointer (some ⟨p2, 0, none⟩), .int .u8 9, .slice A4 n4 c4] wx fun e w' => ∃ (d : Dk) (v : Int), e = .returned (.tuple #[.int .i64 v, .int .i64 0]) ∧ DiskAt w' b a d ∧ d.off = false ∧ d.cut = 0 ∧ (∃ life, life < 18446744073709551616 ∧ Chain d.S 0 40 life (fs2 ++ [(9, more)])) ∧ Clean d.S 0 40 (offs (fs2 ++ [(9, more)]) (fs2 ++ [(9, more)]).length) ∧ Below w.heap.size w w' := by
              intro wx Ax ha hd hp hB ⟨s1, s2, s3⟩
              have hn4 : more.length = n4 := HR.out.2.2.2.2
              have hf4 : fsz n4 ≤ 6 := by unfold fsz; split <;> omega
              refine (add_ok r.1.on 9 ha hd hp (HR.out.below hB) (by omega) (by rw [s2, s3]; have := HLR.out; omega)).mono ?_
              rintro e w' ⟨d, rfl, -, hd', hp', hw', -, hk'⟩
              refine ⟨d, _, rfl, hd', hp'.off, hp'.cut, ⟨Ax.life, hp.life, ?_⟩, ?_, kept_low hB ha HZ9.out HB.out HAA.out hk'⟩
              · have h : Chain d.S Ax.first Ax.sectors Ax.life (fs2 ++ [(9, more)]) := hp'.chain
                rw [s1, s2] at h
                exact h
              · rw [offs_more]
                rw [s1, s3] at hw'
                exact HCL.out.more hw' (Nat.le_refl _)
            have FIN := Lib.hid FIN
            have HK7 := Lib.hid hk7
            have e2 : ((k : Int) + 1 == (k : Int) + 1) = true := by simp
            have CASES : (j = 0 ∧ k = 0) ∨ (j = 0 ∧ k ≠ 0) ∨ j ≠ 0 := by omega
            rcases CASES with ⟨rfl, rfl⟩ | ⟨rfl, hz⟩ | hz
            · have CB := Lib.hid (begin_any 3 HAW.out)
              have hnil : fs2 = [] := List.eq_nil_of_length_eq_zero HNF.out.symm
              go_wp2_with fail
              refine CB.out.mono ?_
              rintro e w11 ⟨rfl, ha11, hk11⟩
              have CADD := Lib.hid (FIN.out w11 _ ha11 (HDW.out.area HAW.out hk11) (by have := begun HP8.out 3 (by omega); rw [hnil]; exact this) (DKept.area HBW.out HAW.out HZ9.out hk11) ⟨SS.out.1, SS.out.2.1, by rw [hnil]; rfl⟩)
              clear CB ha11 hk11 hnil
              go_wp2_with fail
              refine CADD.out.mono ?_
              rintro e w13 ⟨d13, v13, rfl, hd13, hoff13, hcut13, ⟨life, hlife, hch13⟩, hcl13, hB13⟩
              have COP := Lib.hid (open_ok d13 0 40 life hd13 (by omega) hch13 hoff13 hcut13 hlife (clean_end hcl13))
              have HB13 := Lib.hid hB13
              clear CADD hd13 hoff13 hcut13 hlife hch13 hcl13 hB13
              go_wp2_with fail
              refine COP.out.mono ?_
              rintro e w14 ⟨p14, A14, rfl, ha14, hA14, -, hb14⟩
              have hal : A14.ats.length = 0 + 1 := by rw [hA14, show (0 : Nat) + 1 = fs2.length + 1 by rw [← HNF.out]]; exact (offsL_len _).trans (by rw [List.length_append]; rfl)
              have CA := Lib.hid (all_any ha14 (by rw [hal]; omega))
              rw [hal] at CA
              have HB14 := Lib.hid (HB13.out.trans (hb14.mono HB13.out.size))
              clear COP ha14 hA14 hb14 hal
              go_wp2_with fail
              refine CA.out.mono ?_
              rintro e w15 ⟨A15, c15, rfl, -, hb15⟩
              have HB15 := Lib.hid (HB14.out.trans (hb15.mono HB14.out.size))
              clear hb15
              go_wp2_with fail
              go_ret
              exact ⟨rfl, HB15.out⟩
            · have z1 : ((k : Int) == 0) = false := by simpa using hz
              have z2 : (k == 0) = false := by simpa using hz
              have HZZ := Lib.hid hz
              clear hz
              have CADD := Lib.hid (FIN.out wr A2 HAW.out HDW.out HP8.out HBW.out SS.out)
              go_wp2_with fail
              refine CADD.out.mono ?_
              rintro e w13 ⟨d13, v13, rfl, hd13, hoff13, hcut13, ⟨life, hlife, hch13⟩, hcl13, hB13⟩
              have COP := Lib.hid (open_ok d13 0 40 life hd13 (by omega) hch13 hoff13 hcut13 hlife (clean_end hcl13))
              have HB13 := Lib.hid hB13
              clear CADD hd13 hoff13 hcut13 hlife hch13 hcl13 hB13
              go_wp2_with fail
              refine COP.out.mono ?_
              rintro e w14 ⟨p14, A14, rfl, ha14, hA14, -, hb14⟩
              have hal : A14.ats.length = k + 1 := by rw [hA14, show k + 1 = fs2.length + 1 by rw [← HNF.out]]; exact (offsL_len _).trans (by rw [List.length_append]; rfl)
              have CA := Lib.hid (all_any ha14 (by have := HK7.out; rw [hal]; omega))
              rw [hal] at CA
              have HB14 := Lib.hid (HB13.out.trans (hb14.mono HB13.out.size))
              clear COP ha14 hA14 hb14 hal
              go_wp2_with fail
              refine CA.out.mono ?_
              rintro e w15 ⟨A15, c15, rfl, -, hb15⟩
              have HB15 := Lib.hid (HB14.out.trans (hb15.mono HB14.out.size))
              clear hb15
              go_wp2_with fail
              go_ret
              exact ⟨rfl, HB15.out⟩
            · have z1 : ((j : Int) == 0) = false := by simpa using hz
              have z2 : (j == 0) = false := by simpa using hz
              have HZZ := Lib.hid hz
              clear hz
              have CADD := Lib.hid (FIN.out wr A2 HAW.out HDW.out HP8.out HBW.out SS.out)
              go_wp2_with fail
              refine CADD.out.mono ?_
              rintro e w13 ⟨d13, v13, rfl, hd13, hoff13, hcut13, ⟨life, hlife, hch13⟩, hcl13, hB13⟩
              have COP := Lib.hid (open_ok d13 0 40 life hd13 (by omega) hch13 hoff13 hcut13 hlife (clean_end hcl13))
              have HB13 := Lib.hid hB13
              clear CADD hd13 hoff13 hcut13 hlife hch13 hcl13 hB13
              go_wp2_with fail
              refine COP.out.mono ?_
              rintro e w14 ⟨p14, A14, rfl, ha14, hA14, -, hb14⟩
              have hal : A14.ats.length = k + 1 := by rw [hA14, show k + 1 = fs2.length + 1 by rw [← HNF.out]]; exact (offsL_len _).trans (by rw [List.length_append]; rfl)
              have CA := Lib.hid (all_any ha14 (by have := HK7.out; rw [hal]; omega))
              rw [hal] at CA
              have HB14 := Lib.hid (HB13.out.trans (hb14.mono HB13.out.size))
              clear COP ha14 hA14 hb14 hal
              go_wp2_with fail
              refine CA.out.mono ?_
              rintro e w15 ⟨A15, c15, rfl, -, hb15⟩
              have HB15 := Lib.hid (HB14.out.trans (hb15.mono HB14.out.size))
              clear hb15
              go_wp2_with fail
              go_ret
              exact ⟨rfl, HB15.out⟩
theorem frameWhole_all (h0 : Mats w A0 n0 c0 ls) (h1 : Bts w A1 n1 c1 bs) (n how : Int) (h4 : Bts w A4 n4 c4 more) :
    Calls Try.prog 6 #[.slice A0 n0 c0, .slice A1 n1 c1, .int .i64 n, .int .i64 how, .slice A4 n4 c4] w fun e w' => e = .returned (.bool true) ∧ Below w.heap.size w w' := by
  by_cases h : 6 < n0 ∨ 300 < n1 ∨ n < 1 ∨ 10 < n ∨ 300 < n4
  · exact frameWhole_wide h0 h1 n how h4 h
  · exact frameWhole_in h0 h1 n how h4 (by omega) (by omega) (by omega) (by omega) (by omega)
end
end Go.Proofs.Ytlbikfamjogpnaa
end
