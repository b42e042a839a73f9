/- The texts of this proof, joined: contracts of the functions that the law reaches, and what they come to in plain Lean. Conditions: those that each theorem names. -/
import Derived.Test.YtafeddjcomeniaaMTreeIll0
import Derived.Test.YtafeddjcomeniaaMTreeIll3
import Derived.Deep.CutRange

/- publicanlaw7's small. Conditions: the changes lie in memory. -/
section
namespace Go.Proofs.Ytafeddjcomeniaa
open Go.RowKit
set_option linter.unusedVariables false
set_option linter.unusedSimpArgs false

def fitB (x : Ac7) : Bool := decide (1 ≤ x.k.size) && (decide (x.k.size ≤ 40) && decide (x.v.size ≤ 400))
def smallB (L : List Ac7) : Bool := decide (L.length ≤ 120) && L.all fitB
theorem small_yes {L : List Ac7} (h : smallB L = true) : L.length ≤ 120 ∧ ∀ (i : Nat) (x : Ac7), L[i]? = some x → keyFit x.k ∧ x.v.size ≤ 400 := by
  unfold smallB at h
  rw [Bool.and_eq_true, decide_eq_true_eq, List.all_eq_true] at h
  refine ⟨h.1, fun i x hx => ?_⟩
  have := h.2 x (List.mem_of_getElem? hx)
  unfold fitB at this
  simp only [Bool.and_eq_true, decide_eq_true_eq] at this
  exact ⟨⟨this.1, this.2.1⟩, this.2.2⟩
theorem all_snoc {L : List Ac7} {i : Nat} {x : Ac7} (hx : L[i]? = some x) : (L.take (i + 1)).all fitB = ((L.take i).all fitB && fitB x) := by
  obtain ⟨hi, rfl⟩ := List.getElem?_eq_some_iff.1 hx
  rw [List.take_add_one, List.getElem?_eq_getElem hi, List.all_append]
  simp
theorem not_all {L : List Ac7} {i : Nat} {x : Ac7} (hx : L[i]? = some x) (h : fitB x = false) : smallB L = false := by
  unfold smallB
  have : L.all fitB = false := by
    rw [List.all_eq_false]
    exact ⟨x, List.mem_of_getElem? hx, by rw [h]; simp⟩
  rw [this, Bool.and_false]
set_option maxRecDepth 100000 in
set_option maxHeartbeats 4000000 in
theorem small_any {w V : World} {B0 : Nat} {A : Option Addr} {n c : Nat} {L : List Ac7} (h : Acts7At w B0 A n L) (hb : Below B0 w V) (hn : n ≤ 9223372036854775807) :
    Calls Try.prog 13 #[.slice A n c] V fun e w' => e = .returned (.bool (smallB L)) ∧ V = w' := by
  have H := Lib.hid h
  have HB := Lib.hid hb
  have hL := h.1
  have HLL := Lib.hid hL
  clear h hb
  obtain ⟨SB, hSB⟩ : ∃ SB, SB = smallB L := ⟨_, rfl⟩
  rw [← hSB]
  have HSB := Lib.hid hSB
  clear hSB
  by_cases h120 : 120 < n
  · have e1 : (120 : Int) < (n : Int) := by omega
    obtain rfl : SB = false := HSB.out.trans (by unfold smallB; rw [decide_eq_false (by omega), Bool.false_and])
    clear hL
    go_enter Try.func13, Try.ntmps13
    go_wp2_with fail
    go_ret
    exact ⟨rfl, rfl⟩
  · have e1 : ¬ ((120 : Int) < (n : Int)) := by omega
    clear hL
    go_enter Try.func13, Try.ntmps13
    go_wp2_with fail
    go_loopg [3] n (fun m iv wr => ∃ i : Nat, iv = .int .i64 (i : Int) ∧ i + m = n ∧ wr = V ∧ Hid ((L.take i).all fitB = true))
    case atStart => exact ⟨0, rfl, by omega, rfl, Lib.hid rfl⟩
    case round =>
      obtain ⟨i, rfl, him, rfl, HA⟩ := hrel
      by_cases hlt : i < n
      · have hd3 : (i : Int) < (n : Int) := by omega
        have b1 : (0 : Int) ≤ (i : Int) := by omega
        obtain ⟨x, bb, oo, hx, rfl, hc⟩ := H.out.at_ hlt
        obtain ⟨y0, y1, y2⟩ := hc wr HB.out
        have HX := Lib.hid hx
        clear hx hc
        by_cases a1 : x.k.size < 1
        · have d1 : (x.k.size : Int) < 1 := by omega
          obtain rfl : SB = false := HSB.out.trans (not_all HX.out (by unfold fitB; rw [decide_eq_false (by omega), Bool.false_and]))
          go_wp2_with fail
          go_ret
          exact ⟨rfl, rfl⟩
        · have d1 : ¬ ((x.k.size : Int) < 1) := by omega
          by_cases a2 : 40 < x.k.size
          · have d2 : (40 : Int) < (x.k.size : Int) := by omega
            obtain rfl : SB = false := HSB.out.trans (not_all HX.out (by unfold fitB; rw [decide_eq_false (by omega : ¬ x.k.size ≤ 40), Bool.false_and, Bool.and_false]))
            go_wp2_with fail
            go_ret
            exact ⟨rfl, rfl⟩
          · have d2 : ¬ ((40 : Int) < (x.k.size : Int)) := by omega
            by_cases a3 : 400 < x.v.size
            · have d3 : (400 : Int) < (x.v.size : Int) := by omega
              obtain rfl : SB = false := HSB.out.trans (not_all HX.out (by unfold fitB; rw [decide_eq_false (by omega : ¬ x.v.size ≤ 400), Bool.and_false, Bool.and_false]))
              go_wp2_with fail
              go_ret
              exact ⟨rfl, rfl⟩
            · have d3 : ¬ ((400 : Int) < (x.v.size : Int)) := by omega
              have hs : Hid ((L.take (i + 1)).all fitB = true) := Lib.hid (by
                rw [all_snoc HX.out, HA.out]
                unfold fitB
                rw [decide_eq_true (by omega), decide_eq_true (by omega), decide_eq_true (by omega)]; rfl)
              have ewi : IntKind.i64.wrap ((i : Int) + 1) = (i : Int) + 1 := IntWalk.i64_in _ (by omega)
              go_wp2_with fail
              go_roundg (n - (i + 1))
              case measure => omega
              case rel => exact ⟨i + 1, by simp, by omega, rfl, hs⟩
      · have hd3 : ¬ ((i : Int) < (n : Int)) := by omega
        obtain rfl : SB = true := HSB.out.trans (by
          have := HA.out
          rw [List.take_of_length_le (by have := HLL.out; omega)] at this
          unfold smallB
          rw [this, decide_eq_true (by have := HLL.out; omega)]; rfl)
        go_wp2_with fail
        go_ret
        exact ⟨rfl, rfl⟩
end Go.Proofs.Ytafeddjcomeniaa
end

/- What publicanlaw7's laws keep: rows of items, the shelf's numbers. Conditions: none. -/
section
namespace Go.Proofs.Ytafeddjcomeniaa
open Go.RowKit
set_option linter.unusedVariables false
set_option linter.unusedSimpArgs false

theorem far_item : Far 61 := ⟨by decide, by decide, by decide, by decide⟩
theorem flatkv_get : ∀ (L : List KV) (i : Nat) (x : KV), L[i]? = some x → (L.flatMap kvC)[i * 2]? = some (.string x.1) ∧ (L.flatMap kvC)[i * 2 + 1]? = some (.string x.2)
  | [], i, x, h => by simp at h
  | a :: L, 0, x, h => by cases h; exact ⟨rfl, rfl⟩
  | a :: L, i + 1, x, h => by
    obtain ⟨h1, h2⟩ := flatkv_get L i x (by simpa using h)
    have e : (kvC a).length = 2 := rfl
    constructor
    · rw [List.flatMap_cons, List.getElem?_append_right (by omega), e, show (i + 1) * 2 - 2 = i * 2 by omega]; exact h1
    · rw [List.flatMap_cons, List.getElem?_append_right (by omega), e, show (i + 1) * 2 + 1 - 2 = i * 2 + 1 by omega]; exact h2
/-- A row of items: its cells, as long as blocks of items stay. -/
def ItRow (w : World) (A : Option Addr) (c : Nat) (L : List KV) : Prop := L.length ≤ c ∧ c ≤ maxLen ∧ ∀ (i : Nat) (x : KV), L[i]? = some x → ∃ g cs, A = some ⟨g, 0, none⟩ ∧ Blk w g 61 cs ∧ cs[i * 2]? = some (.string x.1) ∧ cs[i * 2 + 1]? = some (.string x.2)
theorem Items.row {G : Nat} {w : World} {v : Value} {L : List KV} (h : Items G w v L) : ∃ A c, v = .slice A L.length c ∧ ItRow w A c L := by
  obtain ⟨A, c, rfl, ho⟩ := h
  refine ⟨A, c, rfl, ?_⟩
  rcases ho.2 with ⟨e, hz⟩ | ⟨g, cap, cur, e, hg, hb, h1, h2, h3, h4⟩
  · injection e with e1 e2 e3
    subst e3
    exact ⟨by omega, Nat.zero_le _, fun i x hx => by have := (List.getElem?_eq_some_iff.1 hx).1; omega⟩
  · cases e
    refine ⟨h1, h2, fun i x hx => ⟨g, cur, rfl, hb, ?_⟩⟩
    have hi := (List.getElem?_eq_some_iff.1 hx).1
    obtain ⟨a, b⟩ := flatkv_get L i x hx
    rw [← h4, List.getElem?_take, if_pos (by omega), Array.getElem?_toList] at a b
    exact ⟨a, b⟩
theorem ItRow.keep {w w' : World} {A : Option Addr} {c : Nat} {L : List KV} (h : ItRow w A c L) (hk : ∀ g cs, Blk w g 61 cs → Blk w' g 61 cs) : ItRow w' A c L :=
  ⟨h.1, h.2.1, fun i x hx => by
    obtain ⟨g, cs, e, hb, a, b⟩ := h.2.2 i x hx
    exact ⟨g, cs, e, hk g cs hb, a, b⟩⟩
theorem ItRow.kp {B : Nat} {w w' : World} {A : Option Addr} {c : Nat} {L : List KV} (h : ItRow w A c L) (hk : Kp B w w') : ItRow w' A c L := h.keep fun g cs hb => hk.far g _ cs far_item hb
theorem ItRow.later {w w' : World} {A : Option Addr} {c : Nat} {L : List KV} (h : ItRow w A c L) (hk : Later w w') : ItRow w' A c L := h.keep fun g cs hb => hb.below hk hb.lt
theorem ItRow.get {w : World} {A : Option Addr} {c : Nat} {L : List KV} (h : ItRow w A c L) {i : Nat} (hi : i < L.length) : ∃ g, A = some ⟨g, 0, none⟩ ∧ ∀ m, (w.drewN m).cell? ⟨g, i * 2, none⟩ = some (.string L[i].1) ∧ (w.drewN m).cell? ⟨g, i * 2 + 1, none⟩ = some (.string L[i].2) := by
  obtain ⟨g, cs, e, hb, a, b⟩ := h.2.2 i L[i] (List.getElem?_eq_getElem hi)
  refine ⟨g, e, fun m => ?_⟩
  have hb' := hb.below (later_drewN w m) hb.lt
  exact ⟨(hb'.cell _).trans a, (hb'.cell _).trans b⟩
/-- Where a law stands whose shelf is well: its tree is the map l, behind k changes and j calls. -/
structure At (b : Nat) (s : Sh) (j k : Nat) (r : Int) (l : List KV) (w : World) : Prop where
  st : St b b 0 s w
  tree : Tree everyP s.S k r l
  n1 : s.n ≤ 5000 * j
  len : s.S.length ≤ 100 * k
section
variable {b j k : Nat} {s s' : Sh} {r n : Int} {l l' : List KV} {w w' : World}
theorem At.later (h : At b s j k r l w) (q : Later w w') : At b s j k r l w' := ⟨h.st.later q, h.tree, h.n1, h.len⟩
theorem At.next (h : At b s j k r l w) (hk : k ≤ 125) (hj : j ≤ 10000) (hs : ∃ v', ShAt b w' b 0 s' v') (hp : Kp b w w') (h2 : Two s'.S) (hg : Grow s s') (ht : Tree everyP s'.S (k + 1) n l') : At b s' (j + 1) (k + 1) n l' w' := by
  obtain ⟨_, g1, g2, g3⟩ := hg
  have h1 := h.n1
  have h3 := h.len
  exact ⟨⟨hs, Nat.le_trans h.st.size hp.below.size, h2, by have := h.st.n0; omega, by omega, by omega⟩, ht, by omega, by omega⟩
theorem At.same (h : At b s j k r l w) (hk : k ≤ 125) (hj : j ≤ 10000) (hs : ∃ v', ShAt b w' b 0 s' v') (hp : Kp b w w') (h2 : Two s'.S) (hg : Grow s s') : At b s' (j + 1) (k + 1) r l w' := by
  obtain ⟨⟨X, hX⟩, g1, g2, g3⟩ := hg
  have h1 := h.n1
  have h3 := h.len
  exact ⟨⟨hs, Nat.le_trans h.st.size hp.below.size, h2, by have := h.st.n0; omega, by omega, by omega⟩, by rw [hX]; exact (h.tree.grow X).more (Nat.le_succ k), by omega, by omega⟩
/-- Behind a read. -/
theorem At.read {K : Nat} (h : At b s j k r l w) (hj : j ≤ 10000) (hr : Read b b 0 s K w w') (hK : K ≤ 5000) : ∃ s', s'.S = s.S ∧ At b s' (j + 1) k r l w' ∧ Kp b w w' := by
  obtain ⟨n', h1, h2, h3, h4⟩ := hr.st h.st (by have := h.n1; omega)
  exact ⟨⟨s.S, n'⟩, rfl, ⟨h3, h.tree, by have := h.n1; show n' ≤ _; omega, h.len⟩, h4⟩
theorem At.start (w : World) : At w.heap.size ⟨[], 0⟩ 0 0 0 [] (w.alloc (.cells #[.slice none 0 0, .int .i64 0, .int .i64 0] 26)) := ⟨shelf_new w, Tree.none0 [], by decide, by decide⟩
theorem At.put (h : At b s j k r l w) (hk : k ≤ 124) (hj : j ≤ 10000) {key val : ByteArray} (hf : keyFit key) (hv : val.size ≤ 400) : Calls Try.prog 10 #[shV b, .int .u64 r, .string key, .string val] w fun e w' => ∃ s' n, e = .returned (.tuple #[.int .u64 n, .int .i64 0]) ∧ At b s' (j + 1) (k + 1) n (putL l key val) w' ∧ Kp b w w' ∧ Grow s s' :=
  (put_well (qput_every _) h.st h.st.n0 h.tree (by omega) hf hv).mono fun e w' ⟨s', n, he, hs, hp, h2, hg, ht⟩ => ⟨s', n, he, h.next (by omega) hj hs hp h2 hg ht, hp, hg⟩
theorem At.drop (h : At b s j k r l w) (hk : k ≤ 124) (hj : j ≤ 10000) (key : ByteArray) : Calls Try.prog 11 #[shV b, .int .u64 r, .string key] w fun e w' => ∃ s' n er, e = .returned (.tuple #[.int .u64 n, .int .i64 er]) ∧ Kp b w w' ∧ Grow s s' ∧ ((er = 5 ∧ n = 0 ∧ getL l key = none ∧ At b s' (j + 1) (k + 1) r l w') ∨ (er = 0 ∧ getL l key ≠ none ∧ At b s' (j + 1) (k + 1) n (delL l key) w')) :=
  (drop_well (fun _ => trivial) key h.st h.st.n0 h.tree (by omega)).mono fun e w' ⟨s', n, er, he, hs, hp, h2, hg, hr⟩ => ⟨s', n, er, he, hp, hg, by
    rcases hr with ⟨e1, e2, e3⟩ | ⟨e1, e2, e3⟩
    · exact .inl ⟨e1, e2, e3, h.same (by omega) hj hs hp h2 hg⟩
    · exact .inr ⟨e1, e2, h.next (by omega) hj hs hp h2 hg (e3.more (Nat.le_succ k))⟩⟩
theorem At.range (h : At b s j k r l w) (hk : k ≤ 124) (hj : j ≤ 10000) (fr til : ByteArray) (most : Int) : Calls Try.prog 12 #[shV b, .int .u64 r, .string fr, .string til, .int .i64 most] w fun e w' => ∃ A c s', e = .returned (.tuple #[.slice A (ranged fr til most l).length c, .int .i64 0]) ∧ ItRow w' A c (ranged fr til most l) ∧ s'.S = s.S ∧ At b s' (j + 1) k r l w' ∧ Kp b w w' :=
  (range_well fr til h.st h.st.n0 h.tree (by omega)).mono fun e w' ⟨lv, he, hi, hr⟩ => by
    obtain ⟨s', h1, h2, h3⟩ := h.read hj hr (by omega)
    obtain ⟨A, c, rfl, hr⟩ := hi.row
    exact ⟨A, c, s', he, hr, h1, h2, h3⟩
end
end Go.Proofs.Ytafeddjcomeniaa
end

/- publicanlaw7.TreeIll answers true. Conditions: the changes lie in memory. -/
section
namespace Go.Proofs.Ytafeddjcomeniaa
open Go.RowKit
set_option linter.unusedVariables false
set_option linter.unusedSimpArgs false

def putsL (l : List KV) (L : List Ac7) : List KV := L.foldl (fun l x => if x.drop then l else putL l x.k x.v) l
theorem puts_snoc {L : List Ac7} {i : Nat} {x : Ac7} (hx : L[i]? = some x) : putsL [] (L.take (i + 1)) = if x.drop then putsL [] (L.take i) else putL (putsL [] (L.take i)) x.k x.v := by
  obtain ⟨hi, rfl⟩ := List.getElem?_eq_some_iff.1 hx
  rw [List.take_add_one, List.getElem?_eq_getElem hi]
  unfold putsL
  rw [List.foldl_append]
  rfl
theorem At.skip {b j k : Nat} {s : Sh} {r : Int} {l : List KV} {w : World} (h : At b s j k r l w) : At b s (j + 1) (k + 1) r l w := ⟨h.st, h.tree.more (Nat.le_succ k), by have := h.n1; omega, by have := h.len; omega⟩
theorem ranged_all {most : Int} {l : List KV} (h : (l.length : Int) ≤ most) : ranged ⟨#[]⟩ ⟨#[]⟩ most l = l := by
  unfold ranged
  rw [filt_all, List.take_of_length_le (by omega)]
theorem puts_len : ∀ (L : List Ac7) (l : List KV), (putsL l L).length ≤ l.length + L.length
  | [], l => by simp [putsL]
  | x :: L, l => by
    have h := puts_len L (if x.drop then l else putL l x.k x.v)
    have h2 := putL_len x.k x.v l
    show (putsL (if x.drop then l else putL l x.k x.v) L).length ≤ _
    rw [List.length_cons]
    split at h <;> simp_all <;> omega
/-- How the one change ends. -/
structure Out (b : Nat) (ill : Int) (s1 s' : Sh) (n er : Int) (V w : World) : Prop where
  res : (er = 4 ∧ n = 0 ∧ s'.n = ill) ∨ ((er = 0 ∨ er = 5) ∧ s'.n < ill)
  grown : ∃ X, s'.S = s1.S ++ X
  n0 : 0 ≤ s'.n
  n1 : s'.n ≤ 100
  len : s'.S.length ≤ s1.S.length + 100
  two : Two s'.S
  sh : ∃ v', ShAt b w b ill s' v'
  kp : Kp b V w
theorem Out.of_chg {Q : Pg → Prop} {b : Nat} {ill : Int} {S : List Pg} {s' : Sh} {n er : Int} {k : Nat} {l : List KV} {V w : World} (hi : 1 ≤ ill) (h : Chg Q ill ⟨S, 0⟩ s' n er k l) (hw : Wr b b ill s' V w) : Out b ill ⟨S, 0⟩ s' n er V w := by
  have hc := h.cost
  dsimp only at hc
  rcases h.res with ⟨e, e2, X, g⟩ | ⟨e, ⟨X, g⟩, _⟩
  · have h1 := g.n; have h2 := g.len; have h3 := (g.sick rfl).1; have h4 := g.S
    dsimp only at h1 h2 h4
    exact ⟨.inl ⟨e, e2, h3⟩, ⟨X, h4⟩, h1, by omega, by rw [h4, List.length_append]; dsimp only; omega, h.two, hw.sh, hw.kp⟩
  · have h1 := g.n; have h2 := g.len; have h3 := g.well rfl; have h4 := g.S
    dsimp only at h1 h2 h3 h4
    exact ⟨.inr ⟨.inl e, by omega⟩, ⟨X, h4⟩, h1, by omega, by rw [h4, List.length_append]; dsimp only; omega, h.two, hw.sh, hw.kp⟩
theorem Out.of_chgD {Q : Pg → Prop} {b : Nat} {ill : Int} {S : List Pg} {s' : Sh} {n er : Int} {k : Nat} {l : List KV} {key : ByteArray} {V w : World} (hi : 1 ≤ ill) (h : ChgD Q ill ⟨S, 0⟩ s' n er k l key) (hw : Wr b b ill s' V w) : Out b ill ⟨S, 0⟩ s' n er V w := by
  have hc := h.cost
  dsimp only at hc
  rcases h.res with ⟨e, e2, X, g⟩ | ⟨e, _, _, X, g⟩ | ⟨e, _, ⟨X, g⟩, _⟩
  · have h1 := g.n; have h2 := g.len; have h3 := (g.sick rfl).1; have h4 := g.S
    dsimp only at h1 h2 h4
    exact ⟨.inl ⟨e, e2, h3⟩, ⟨X, h4⟩, h1, by omega, by rw [h4, List.length_append]; dsimp only; omega, h.two, hw.sh, hw.kp⟩
  · have h1 := g.n; have h2 := g.len; have h3 := g.well rfl; have h4 := g.S
    dsimp only at h1 h2 h3 h4
    exact ⟨.inr ⟨.inr e, by omega⟩, ⟨X, h4⟩, h1, by omega, by rw [h4, List.length_append]; dsimp only; omega, h.two, hw.sh, hw.kp⟩
  · have h1 := g.n; have h2 := g.len; have h3 := g.well rfl; have h4 := g.S
    dsimp only at h1 h2 h3 h4
    exact ⟨.inr ⟨.inl e, by omega⟩, ⟨X, h4⟩, h1, by omega, by rw [h4, List.length_append]; dsimp only; omega, h.two, hw.sh, hw.kp⟩
theorem far_act7 : Far 46 := ⟨by decide, by decide, by decide, by decide⟩
set_option maxRecDepth 100000 in
set_option maxHeartbeats 16000000 in
theorem treeIll_all (W : World) (A : Option Addr) (n c : Nat) (L : List Ac7) (x : Ac7) (ill : Int) (hnc : n ≤ c) (hc : c ≤ maxLen) (h : Acts7At W W.heap.size A n L) :
    Calls Try.prog 7 #[.slice A n c, .agg #[.string x.k, .string x.v, .bool x.drop], .int .i64 ill] W fun e w' => e = .returned (.bool true) ∧ Below W.heap.size W w' := by
  have hn : n ≤ 9223372036854775807 := by unfold maxLen at hc; omega
  obtain ⟨W0, hW0⟩ : ∃ W0, W0 = W.alloc (.cells #[.string x.k, .string x.v, .bool x.drop] 46) := ⟨_, rfl⟩
  have hl0 : Later W W0 := by rw [hW0]; exact below_new _ _
  obtain ⟨q, hq⟩ : ∃ q, q = W.heap.size := ⟨_, rfl⟩
  have kx0 : Blk W0 q 46 #[.string x.k, .string x.v, .bool x.drop] := by rw [hW0, hq]; exact Blk.new _ _ _
  have CA := Lib.hid (awake_any W0)
  have H := Lib.hid h
  have HLL := Lib.hid h.1
  have HL0 := Lib.hid hl0
  have HQ := Lib.hid hq
  have HKX0 := Lib.hid kx0
  have HW0 := Lib.hid hW0
  clear h hl0 hq kx0 hW0
  go_enter Try.func7, Try.ntmps7
  go_upto_region 1 with fail
  rw [← HW0.out, ← HQ.out]
  go_wp2_with fail
  refine CA.out.mono ?_
  rintro e w1 ⟨rfl, hl1⟩
  have HL1 : Hid (Later W w1) := Lib.hid (HL0.out.trans hl1)
  have HKX := Lib.hid (HKX0.out.below hl1 HKX0.out.lt)
  have CS := Lib.hid (small_any (c := c) H.out (show Below _ _ _ from HL1.out) hn)
  clear CA hl1
  go_wp2_with fail
  refine CS.out.mono ?_
  rintro e w' ⟨rfl, rfl⟩
  clear CS
  cases hsm : smallB L with
  | false =>
    have FIN : Hid (Below W.heap.size W w1) := Lib.hid HL1.out
    clear hsm
    go_wp2_with fail
    go_ret
    exact ⟨rfl, FIN.out⟩
  | true =>
    obtain ⟨h120, hfit⟩ := small_yes hsm
    have HFIT := Lib.hid hfit
    clear hsm hfit
    by_cases h60 : 60 < n
    · have d1 : (60 : Int) < (n : Int) := by omega
      have FIN : Hid (Below W.heap.size W w1) := Lib.hid HL1.out
      go_wp2_with fail
      go_ret
      exact ⟨rfl, FIN.out⟩
    · have d1 : ¬ ((60 : Int) < (n : Int)) := by omega
      obtain ⟨W2, hW2⟩ : ∃ W2, W2 = w1.alloc (.cells #[.string x.k, .string x.v, .bool x.drop] 46) := ⟨_, rfl⟩
      have hl2 : Later w1 W2 := by rw [hW2]; exact below_new _ _
      have k2 : Blk W2 w1.heap.size 46 #[.string x.k, .string x.v, .bool x.drop] := by rw [hW2]; exact Blk.new _ _ _
      have ha2 : Acts7At W2 W2.heap.size (some ⟨w1.heap.size, 0, none⟩) 1 [x] := ⟨rfl, fun i y hy => by
        match i, hy with
        | 0, hy => cases hy; exact ⟨_, 0, rfl, k2.lt, (k2.cell 0).trans rfl, (k2.cell 1).trans rfl, (k2.cell 2).trans rfl⟩
        | i + 1, hy => simp at hy⟩
      have CS := Lib.hid (small_any (c := 1) ha2 (Below.refl _ _) (by omega))
      have HL2 : Hid (Later W W2) := Lib.hid (HL1.out.trans hl2)
      have HKX2 := Lib.hid (HKX.out.below hl2 HKX.out.lt)
      have HW2 := Lib.hid hW2
      have kx0 := (HKX.out.cell 0).trans rfl
      have kx1 := (HKX.out.cell 1).trans rfl
      have kx2 := (HKX.out.cell 2).trans rfl
      clear hl2 k2 ha2 hW2
      go_wp2_with fail
      rw [← HW2.out]
      refine CS.out.mono ?_
      rintro e w' ⟨rfl, rfl⟩
      clear CS kx0 kx1 kx2
      cases hsx : smallB [x] with
      | false =>
        have FIN : Hid (Below W.heap.size W W2) := Lib.hid HL2.out
        clear hsx
        go_wp2_with fail
        go_ret
        exact ⟨rfl, FIN.out⟩
      | true =>
        obtain ⟨_, hfx⟩ := small_yes hsx
        have HFX := Lib.hid (hfx 0 x rfl)
        clear hsx hfx
        by_cases hi1 : ill < 1
        · have FIN : Hid (Below W.heap.size W W2) := Lib.hid HL2.out
          go_wp2_with fail
          go_ret
          exact ⟨rfl, FIN.out⟩
        · by_cases hi2 : 20 < ill
          · have FIN : Hid (Below W.heap.size W W2) := Lib.hid HL2.out
            go_wp2_with fail
            go_ret
            exact ⟨rfl, FIN.out⟩
          · obtain ⟨W3, hW3⟩ : ∃ W3, W3 = W2.alloc (.cells #[.slice none 0 0, .int .i64 0, .int .i64 0] 26) := ⟨_, rfl⟩
            obtain ⟨b, hb⟩ : ∃ b, b = W2.heap.size := ⟨_, rfl⟩
            have hat := At.start W2
            rw [← hW3, ← hb] at hat
            have hl3 : Later W2 W3 := by rw [hW3]; exact below_new _ _
            have HAT := Lib.hid hat
            have HL3 : Hid (Later W W3) := Lib.hid (HL2.out.trans hl3)
            have HKX3 := Lib.hid (HKX2.out.below hl3 HKX2.out.lt)
            have HBW : Hid (W.heap.size ≤ b ∧ q < b) := Lib.hid (by have := HKX2.out.lt; have := (show Below _ _ _ from HL2.out).size; rw [hb]; omega)
            have HB := Lib.hid hb
            have HW3 := Lib.hid hW3
            have HILL : Hid (1 ≤ ill ∧ ill ≤ 20) := Lib.hid (by omega)
            clear hat hl3 hb hW3
            go_upto_region 6 with fail
            rw [← HW3.out, ← HB.out]
            go_wp2_with fail
            clear hi1 hi2
            go_loopg [8, 9] n (fun m rv iv wr => ∃ (i : Nat) (s : Sh) (r : Int), iv = .int .i64 (i : Int) ∧ rv = .int .u64 r ∧ i + m = n ∧ Hid (At b s i i r (putsL [] (L.take i)) wr) ∧ Hid (Kp b W3 wr))
            case atStart => exact ⟨0, ⟨[], 0⟩, 0, rfl, rfl, by omega, HAT, Lib.hid ⟨Below.refl _ _, fun _ _ _ _ h => h, Sm.refl _⟩⟩
            case round =>
              obtain ⟨i, s, r, rfl, rfl, him, HA, HP⟩ := hrel
              by_cases hlt : i < n
              · have hd3 : (i : Int) < (n : Int) := by omega
                have b1 : (0 : Int) ≤ (i : Int) := by omega
                have ewi : IntKind.i64.wrap ((i : Int) + 1) = (i : Int) + 1 := IntWalk.i64_in _ (by omega)
                obtain ⟨y, bb, oo, hy, rfl, hc⟩ := H.out.at_ hlt
                have HC : Hid (∀ V, Later wr V → V.cell? ⟨bb, oo + i * 3, none⟩ = some (.string y.k) ∧ V.cell? ⟨bb, oo + i * 3 + 1, none⟩ = some (.string y.v)) := Lib.hid fun V hV => by
                  obtain ⟨a, b, _⟩ := hc V ((show Below W.heap.size W W3 from HL3.out).trans ((HP.out.below.mono HBW.out.1).trans ((show Below _ _ _ from hV).mono (by have := HBW.out; have := HA.out.st.size; omega))))
                  exact ⟨a, b⟩
                have hc2 := (hc wr ((show Below W.heap.size W W3 from HL3.out).trans (HP.out.below.mono HBW.out.1))).2.2
                have hsn := puts_snoc hy
                have hf := HFIT.out i y hy
                cases hyd : y.drop with
                | true =>
                  rw [hyd] at hsn hc2
                  have HA2 : Hid (At b s (i + 1) (i + 1) r (putsL [] (L.take (i + 1))) wr) := Lib.hid (by rw [hsn]; exact HA.out.skip)
                  clear hsn hf hyd hc hy
                  go_wp2_with fail
                  go_roundg (n - (i + 1))
                  case measure => omega
                  case rel => exact ⟨i + 1, s, r, by simp, rfl, by omega, HA2, HP⟩
                | false =>
                  rw [hyd] at hsn hc2
                  have CP : Hid (∀ V, Later wr V → Calls Try.prog 10 #[shV b, .int .u64 r, .string y.k, .string y.v] V fun e w' => ∃ s' n, e = .returned (.tuple #[.int .u64 n, .int .i64 0]) ∧ At b s' (i + 1) (i + 1) n (putL (putsL [] (L.take i)) y.k y.v) w' ∧ Kp b V w' ∧ Grow s s') := Lib.hid fun V hV => (HA.out.later hV).put (by omega) (by omega) hf.1 hf.2
                  have HSN := Lib.hid hsn
                  unfold shV at CP
                  have HCB : Hid (∀ V, Kp b wr V → V.cell? ⟨bb, oo + i * 3, none⟩ = some (.string y.k) ∧ V.cell? ⟨bb, oo + i * 3 + 1, none⟩ = some (.string y.v)) := Lib.hid fun V hV => by
                    obtain ⟨a, b, _⟩ := hc V ((show Below W.heap.size W W3 from HL3.out).trans ((HP.out.below.mono HBW.out.1).trans (hV.below.mono HBW.out.1)))
                    exact ⟨a, b⟩
                  clear hsn hf hyd hc hy
                  go_upto_region 11 with fail
                  go_region_held3 (fun w' => w'.cell? ⟨bb, oo + i * 3, none⟩ = some (.string y.k) ∧ w'.cell? ⟨bb, oo + i * 3 + 1, none⟩ = some (.string y.v))
                    (first | exact HC.out _ (Later.refl wr).drew | exact hS3)
                    (first | (go_simp; go_at_call 10; go_must (refine (CP.out _ (Later.refl wr).drew).mono ?_); rintro e w3 ⟨s', n', rfl, hat', hkp', hgr'⟩
                              have hkp3 : Kp b wr w3 := (Kp.later HA.out.st.size (Later.refl wr).drew).trans hkp'
                              have hS3 := HCB.out w3 hkp3))
                  have HA2 : Hid (At b s' (i + 1) (i + 1) n' (putsL [] (L.take (i + 1))) w3) := Lib.hid (by rw [HSN.out]; exact hat')
                  have HP2 := Lib.hid (HP.out.trans hkp3)
                  clear hat' hkp' hgr' hkp3 hS3
                  go_wp2_with fail
                  go_roundg (n - (i + 1))
                  case measure => omega
                  case rel => exact ⟨i + 1, s', n', by simp, rfl, by omega, HA2, HP2⟩
              · have hd3 : ¬ ((i : Int) < (n : Int)) := by omega
                obtain ⟨l, hl⟩ : ∃ l, l = putsL [] (L.take i) := ⟨_, rfl⟩
                have hll := puts_len (L.take i) []
                rw [← hl] at HA hll
                rw [List.length_take] at hll
                have CR := HA.out.range (by omega) (by omega) ⟨#[]⟩ ⟨#[]⟩ 1000
                rw [ranged_all (by simp at hll; omega)] at CR
                have HLL2 : Hid (l.length ≤ 60) := Lib.hid (by simp at hll; omega)
                have CR := Lib.hid CR
                unfold shV at CR
                clear hl hll
                go_wp2_with fail
                refine CR.out.mono ?_
                rintro e w4 ⟨A1, c1, s1, rfl, hrow, hS1, hat4, hkp4⟩
                obtain ⟨v4, hs4⟩ := hat4.st.sh
                obtain ⟨g0, g1, g2⟩ : w4.cell? ⟨b, 0, none⟩ = some v4 ∧ w4.cell? ⟨b, 1, none⟩ = some (.int .i64 0) ∧ w4.cell? ⟨b, 2, none⟩ = some (.int .i64 s1.n) := ⟨(hs4.blk.cell 0).trans rfl, (hs4.blk.cell 1).trans rfl, (hs4.blk.cell 2).trans rfl⟩
                have f1 := hs4.blk.frozen 1
                have f2 := hs4.blk.frozen 2
                have u1 := upd1 hs4.blk 2 (.int .i64 0)
                obtain ⟨V1, hV1⟩ : ∃ V1, V1 = w4.setCell ⟨b, 2, none⟩ (.int .i64 0) := ⟨_, rfl⟩
                rw [← hV1] at u1
                have hs5 := hs4.upd (s' := ⟨s1.S, 0⟩) (ill' := 0) u1 (by simp) rfl
                have u2 := upd1 hs5.blk 1 (.int .i64 ill)
                obtain ⟨V2, hV2⟩ : ∃ V2, V2 = V1.setCell ⟨b, 1, none⟩ (.int .i64 ill) := ⟨_, rfl⟩
                rw [← hV2] at u2
                have hs6 := hs5.upd (s' := ⟨s1.S, 0⟩) (ill' := ill) u2 (by simp) rfl
                have far1 : ∀ {w w' : World} {v : Value} {cs : Array Value} {il : Int} {s : Sh}, ShAt b w b il s v → Upd w w' b 26 cs → Kp b w w' := fun h u =>
                  ⟨u.kept.below (Nat.le_of_lt h.blk.lt) (fun i e => by subst e; exact Nat.le_refl _), fun g t cs ht x => u.far x fun e => by subst e; exact x.ne_ h.blk ht.h rfl, u.sm h.blk (by decide) (by decide)⟩
                have hkp6 : Kp b w4 V2 := (far1 hs4 u1).trans (far1 hs5 u2)
                have HS6 := Lib.hid hs6
                have HROW := Lib.hid (hrow.kp hkp6)
                have HP6 : Hid (Kp b W3 V2) := Lib.hid ((HP.out.trans hkp4).trans hkp6)
                have HT6 : Hid (Tree everyP s1.S i r l) := Lib.hid hat4.tree
                have HLEN : Hid (s1.S.length ≤ 100 * i) := Lib.hid hat4.len
                have HTW : Hid (Two s1.S) := Lib.hid hat4.st.two
                have HV1 := Lib.hid hV1
                have HV2 := Lib.hid hV2
                have g1' : V1.cell? ⟨b, 1, none⟩ = some (.int .i64 0) := (hs5.blk.cell 1).trans rfl
                have f1' := hs5.blk.frozen 1
                clear CR hrow hS1 hat4 hkp4 hs4 u1 hV1 hs5 u2 hV2 hs6 far1 hkp6
                go_upto_region 16 with fail
                rw [← HV1.out]
                clear g0 g1 g2 f1 f2
                go_upto_region 17 with fail
                rw [← HV2.out]
                clear g1' f1'
                have HSZ6 : Hid (b ≤ V2.heap.size) := Lib.hid (Nat.le_of_lt HS6.out.blk.lt)
                have kx6 := HP6.out.far q _ _ far_act7 HKX3.out
                have kx0 := (kx6.cell 0).trans rfl
                have kx1 := (kx6.cell 1).trans rfl
                have kx2 := (kx6.cell 2).trans rfl
                obtain ⟨dd, hdd⟩ : ∃ dd, dd = x.drop := ⟨_, rfl⟩
                rw [← hdd] at kx2
                clear kx6 hdd
                go_upto_if 89 with fail
                go_cut [12, 13] from 89 to 109 (fun nv ev wx => ∃ (s' : Sh) (n' er : Int), nv = .int .u64 n' ∧ ev = .int .i64 er ∧ Hid (Out b ill ⟨s1.S, 0⟩ s' n' er V2 wx))
                case first =>
                  cases dd with
                  | true =>
                    have CD := Lib.hid (drop_any (Q := everyP) (fun _ => trivial) x.k HS6.out HSZ6.out (Int.le_refl _) (by show (0 : Int) < 90000000; decide) (by have := HLEN.out; dsimp only; omega) HTW.out HT6.out (by omega))
                    unfold shV at CD
                    go_wp2_with fail
                    refine CD.out.mono ?_
                    rintro e w5 ⟨s', n', er, rfl, hwr, hch⟩
                    have HO : Hid (Out b ill ⟨s1.S, 0⟩ s' n' er V2 w5) := Lib.hid (Out.of_chgD HILL.out.1 hch hwr)
                    clear hwr hch CD
                    go_wp2_with fail
                    go_meet
                    exact ⟨s', n', er, rfl, rfl, HO⟩
                  | false =>
                    have CD := Lib.hid (put_any (qput_every _) HS6.out HSZ6.out (Int.le_refl _) (by show (0 : Int) < 90000000; decide) (by have := HLEN.out; dsimp only; omega) HTW.out HT6.out (by omega) HFX.out.1 HFX.out.2)
                    unfold shV at CD
                    go_wp2_with fail
                    refine CD.out.mono ?_
                    rintro e w5 ⟨s', n', er, rfl, hwr, hch⟩
                    have HO : Hid (Out b ill ⟨s1.S, 0⟩ s' n' er V2 w5) := Lib.hid (Out.of_chg HILL.out.1 hch hwr)
                    clear hwr hch CD
                    go_wp2_with fail
                    go_meet
                    exact ⟨s', n', er, rfl, rfl, HO⟩
                case rest =>
                  obtain ⟨s', n', er, rfl, rfl, HO⟩ := hcut
                  obtain ⟨v5, hs5⟩ := HO.out.sh
                  have g1 : wc.cell? ⟨b, 1, none⟩ = some (.int .i64 ill) := (hs5.blk.cell 1).trans rfl
                  have g2 : wc.cell? ⟨b, 2, none⟩ = some (.int .i64 s'.n) := (hs5.blk.cell 2).trans rfl
                  have f1 := hs5.blk.frozen 1
                  have u1 := upd1 hs5.blk 1 (.int .i64 0)
                  obtain ⟨V3, hV3⟩ : ∃ V3, V3 = wc.setCell ⟨b, 1, none⟩ (.int .i64 0) := ⟨_, rfl⟩
                  rw [← hV3] at u1
                  have hs6 := hs5.upd (s' := s') (ill' := 0) u1 (by simp) rfl
                  have hkp7 : Kp b V2 V3 := HO.out.kp.trans ⟨u1.kept.below (Nat.le_of_lt hs5.blk.lt) (fun i e => by subst e; exact Nat.le_refl _), fun g t cs ht x => u1.far x fun e => by subst e; exact x.ne_ hs5.blk ht.h rfl, u1.sm hs5.blk (by decide) (by decide)⟩
                  have hat7 : At b s' 1 (i + 1) r l V3 := ⟨⟨⟨v5, hs6⟩, Nat.le_of_lt hs6.blk.lt, HO.out.two, HO.out.n0, by have := HO.out.n1; omega, by have := HO.out.len; have := HLEN.out; dsimp only at *; omega⟩, by
                    obtain ⟨X, hX⟩ := HO.out.grown
                    rw [hX]
                    exact (HT6.out.grow X).more (Nat.le_succ i), by have := HO.out.n1; omega, by have := HO.out.len; have := HLEN.out; dsimp only at *; omega⟩
                  have HROW7 := Lib.hid (HROW.out.kp hkp7)
                  have HP7 : Hid (Kp b W3 V3) := Lib.hid (HP6.out.trans hkp7)
                  have CR := hat7.range (by omega) (by omega) ⟨#[]⟩ ⟨#[]⟩ 1000
                  rw [ranged_all (by have := HLL2.out; omega)] at CR
                  have CR := Lib.hid CR
                  unfold shV at CR
                  have HV3 := Lib.hid hV3
                  have HRES := Lib.hid HO.out.res
                  clear kx0 kx1 kx2 hs5 u1 hV3 hs6 hkp7 hat7 HO HROW HP6
                  obtain ⟨ME, hME⟩ : ∃ ME, ME = decide (ill ≤ s'.n) := ⟨_, rfl⟩
                  go_upto_region 23 with fail
                  rw [← HV3.out, ← hME]
                  have HME := Lib.hid hME
                  clear hME g1 g2 f1
                  go_cut [139] from 119 to 138 (fun cv wx => cv = .bool false ∧ wx = V3)
                  case first =>
                    rcases HRES.out with ⟨rfl, rfl, e⟩ | ⟨rfl | rfl, e⟩
                    · obtain rfl : ME = true := HME.out.trans (decide_eq_true (by omega))
                      clear e
                      go_wp2_with fail
                      go_meet
                      exact ⟨rfl, rfl⟩
                    · obtain rfl : ME = false := HME.out.trans (decide_eq_false (by omega))
                      clear e
                      go_wp2_with fail
                      go_meet
                      exact ⟨rfl, rfl⟩
                    · obtain rfl : ME = false := HME.out.trans (decide_eq_false (by omega))
                      clear e
                      go_wp2_with fail
                      go_meet
                      exact ⟨rfl, rfl⟩
                  case rest =>
                    obtain ⟨rfl, rfl⟩ := hcut
                    go_wp2_with fail
                    refine CR.out.mono ?_
                    rintro e w8 ⟨A2, c2, s2, rfl, hrow2, _, _, hkp8⟩
                    have HRA := Lib.hid (HROW7.out.kp hkp8)
                    have HRB := Lib.hid hrow2
                    have FIN : Hid (Below W.heap.size W w8) := Lib.hid ((show Below W.heap.size W W3 from HL3.out).trans ((HP7.out.trans hkp8).below.mono HBW.out.1))
                    clear CR hrow2 hkp8
                    obtain ⟨ln, hln⟩ : ∃ ln, ln = l.length := ⟨_, rfl⟩
                    rw [← hln]
                    have HLN := Lib.hid hln
                    clear hln
                    have hln60 : ln ≤ 60 := by have := HLL2.out; have := HLN.out; omega
                    go_wp2_with fail
                    go_loopg [16] ln (fun m iv wr => ∃ j dq : Nat, iv = .int .i64 (j : Int) ∧ j + m = ln ∧ wr = w8.drewN dq)
                    case atStart => exact ⟨0, 0, rfl, by omega, rfl⟩
                    case round =>
                      obtain ⟨j, dq, rfl, hjm, rfl⟩ := hrel
                      by_cases hlt : j < ln
                      · have hd4 : (j : Int) < (ln : Int) := by omega
                        have b2 : (0 : Int) ≤ (j : Int) := by omega
                        have ewj : IntKind.i64.wrap ((j : Int) + 1) = (j : Int) + 1 := IntWalk.i64_in _ (by omega)
                        obtain ⟨ga, rfl, ca⟩ := HRA.out.get (i := j) (by have := HLN.out; omega)
                        obtain ⟨gb, rfl, cb⟩ := HRB.out.get (i := j) (by have := HLN.out; omega)
                        have ya := fun m => (ca (dq + m)).1
                        have za := fun m => (ca (dq + m)).2
                        have yb := fun m => (cb (dq + m)).1
                        have zb := fun m => (cb (dq + m)).2
                        generalize l[j].1 = kj at *
                        generalize l[j].2 = vj at *
                        clear ca cb
                        go_upto_region 31 with fail
                        go_quiet (fail)
                        go_wp2_with fail
                        go_roundg (ln - (j + 1))
                        case measure => omega
                        case rel => exact ⟨j + 1, _, by simp, by omega, rfl⟩
                      · have hd4 : ¬ ((j : Int) < (ln : Int)) := by omega
                        go_wp2_with fail
                        go_ret
                        exact ⟨rfl, FIN.out.trans (below_drewN FIN.out.size dq)⟩
end Go.Proofs.Ytafeddjcomeniaa
end
