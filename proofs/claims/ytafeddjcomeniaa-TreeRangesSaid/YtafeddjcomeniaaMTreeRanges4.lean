/- The texts of this proof, joined: contracts of the functions that the law reaches, and what they come to in plain Lean. Conditions: those that each theorem names. -/
import Derived.Test.YtafeddjcomeniaaMTreeRanges0
import Derived.Test.YtafeddjcomeniaaMTreeRanges3
import Derived.Deep.CutRange

/- publicanlaw7's small. Conditions: the changes lie in memory. -/
section
namespace Go.Proofs.Ytafeddjcomeniaa
open Go.RowKit
set_option linter.unusedVariables false
set_option linter.unusedSimpArgs false

def fitB (x : Ac7) : Bool := decide (1 ≤ x.k.size) && (decide (x.k.size ≤ 40) && decide (x.v.size ≤ 400))
def smallB (L : List Ac7) : Bool := decide (L.length ≤ 120) && L.all fitB
theorem small_yes {L : List Ac7} (h : smallB L = true) : L.length ≤ 120 ∧ ∀ (i : Nat) (x : Ac7), L[i]? = some x → keyFit x.k ∧ x.v.size ≤ 400 := by
  unfold smallB at h
  rw [Bool.and_eq_true, decide_eq_true_eq, List.all_eq_true] at h
  refine ⟨h.1, fun i x hx => ?_⟩
  have := h.2 x (List.mem_of_getElem? hx)
  unfold fitB at this
  simp only [Bool.and_eq_true, decide_eq_true_eq] at this
  exact ⟨⟨this.1, this.2.1⟩, this.2.2⟩
theorem all_snoc {L : List Ac7} {i : Nat} {x : Ac7} (hx : L[i]? = some x) : (L.take (i + 1)).all fitB = ((L.take i).all fitB && fitB x) := by
  obtain ⟨hi, rfl⟩ := List.getElem?_eq_some_iff.1 hx
  rw [List.take_add_one, List.getElem?_eq_getElem hi, List.all_append]
  simp
theorem not_all {L : List Ac7} {i : Nat} {x : Ac7} (hx : L[i]? = some x) (h : fitB x = false) : smallB L = false := by
  unfold smallB
  have : L.all fitB = false := by
    rw [List.all_eq_false]
    exact ⟨x, List.mem_of_getElem? hx, by rw [h]; simp⟩
  rw [this, Bool.and_false]
set_option maxRecDepth 100000 in
set_option maxHeartbeats 4000000 in
theorem small_any {w V : World} {B0 : Nat} {A : Option Addr} {n c : Nat} {L : List Ac7} (h : Acts7At w B0 A n L) (hb : Below B0 w V) (hn : n ≤ 9223372036854775807) :
    Calls Try.prog 13 #[.slice A n c] V fun e w' => e = .returned (.bool (smallB L)) ∧ V = w' := by
  have H := Lib.hid h
  have HB := Lib.hid hb
  have hL := h.1
  have HLL := Lib.hid hL
  clear h hb
  obtain ⟨SB, hSB⟩ : ∃ SB, SB = smallB L := ⟨_, rfl⟩
  rw [← hSB]
  have HSB := Lib.hid hSB
  clear hSB
  by_cases h120 : 120 < n
  · have e1 : (120 : Int) < (n : Int) := by omega
    obtain rfl : SB = false := HSB.out.trans (by unfold smallB; rw [decide_eq_false (by omega), Bool.false_and])
    clear hL
    go_enter Try.func13, Try.ntmps13
    go_wp2_with fail
    go_ret
    exact ⟨rfl, rfl⟩
  · have e1 : ¬ ((120 : Int) < (n : Int)) := by omega
    clear hL
    go_enter Try.func13, Try.ntmps13
    go_wp2_with fail
    go_loopg [3] n (fun m iv wr => ∃ i : Nat, iv = .int .i64 (i : Int) ∧ i + m = n ∧ wr = V ∧ Hid ((L.take i).all fitB = true))
    case atStart => exact ⟨0, rfl, by omega, rfl, Lib.hid rfl⟩
    case round =>
      obtain ⟨i, rfl, him, rfl, HA⟩ := hrel
      by_cases hlt : i < n
      · have hd3 : (i : Int) < (n : Int) := by omega
        have b1 : (0 : Int) ≤ (i : Int) := by omega
        obtain ⟨x, bb, oo, hx, rfl, hc⟩ := H.out.at_ hlt
        obtain ⟨y0, y1, y2⟩ := hc wr HB.out
        have HX := Lib.hid hx
        clear hx hc
        by_cases a1 : x.k.size < 1
        · have d1 : (x.k.size : Int) < 1 := by omega
          obtain rfl : SB = false := HSB.out.trans (not_all HX.out (by unfold fitB; rw [decide_eq_false (by omega), Bool.false_and]))
          go_wp2_with fail
          go_ret
          exact ⟨rfl, rfl⟩
        · have d1 : ¬ ((x.k.size : Int) < 1) := by omega
          by_cases a2 : 40 < x.k.size
          · have d2 : (40 : Int) < (x.k.size : Int) := by omega
            obtain rfl : SB = false := HSB.out.trans (not_all HX.out (by unfold fitB; rw [decide_eq_false (by omega : ¬ x.k.size ≤ 40), Bool.false_and, Bool.and_false]))
            go_wp2_with fail
            go_ret
            exact ⟨rfl, rfl⟩
          · have d2 : ¬ ((40 : Int) < (x.k.size : Int)) := by omega
            by_cases a3 : 400 < x.v.size
            · have d3 : (400 : Int) < (x.v.size : Int) := by omega
              obtain rfl : SB = false := HSB.out.trans (not_all HX.out (by unfold fitB; rw [decide_eq_false (by omega : ¬ x.v.size ≤ 400), Bool.and_false, Bool.and_false]))
              go_wp2_with fail
              go_ret
              exact ⟨rfl, rfl⟩
            · have d3 : ¬ ((400 : Int) < (x.v.size : Int)) := by omega
              have hs : Hid ((L.take (i + 1)).all fitB = true) := Lib.hid (by
                rw [all_snoc HX.out, HA.out]
                unfold fitB
                rw [decide_eq_true (by omega), decide_eq_true (by omega), decide_eq_true (by omega)]; rfl)
              have ewi : IntKind.i64.wrap ((i : Int) + 1) = (i : Int) + 1 := IntWalk.i64_in _ (by omega)
              go_wp2_with fail
              go_roundg (n - (i + 1))
              case measure => omega
              case rel => exact ⟨i + 1, by simp, by omega, rfl, hs⟩
      · have hd3 : ¬ ((i : Int) < (n : Int)) := by omega
        obtain rfl : SB = true := HSB.out.trans (by
          have := HA.out
          rw [List.take_of_length_le (by have := HLL.out; omega)] at this
          unfold smallB
          rw [this, decide_eq_true (by have := HLL.out; omega)]; rfl)
        go_wp2_with fail
        go_ret
        exact ⟨rfl, rfl⟩
end Go.Proofs.Ytafeddjcomeniaa
end

/- What publicanlaw7's laws keep: rows of items, the shelf's numbers. Conditions: none. -/
section
namespace Go.Proofs.Ytafeddjcomeniaa
open Go.RowKit
set_option linter.unusedVariables false
set_option linter.unusedSimpArgs false

theorem far_item : Far 61 := ⟨by decide, by decide, by decide, by decide⟩
theorem flatkv_len (L : List KV) : (L.flatMap kvC).length = L.length * 2 := by
  induction L with
  | nil => rfl
  | cons a L ih => rw [List.flatMap_cons, List.length_append, ih, List.length_cons]; show 2 + _ = _; omega
theorem flatkv_get : ∀ (L : List KV) (i : Nat) (x : KV), L[i]? = some x → (L.flatMap kvC)[i * 2]? = some (.string x.1) ∧ (L.flatMap kvC)[i * 2 + 1]? = some (.string x.2)
  | [], i, x, h => by simp at h
  | a :: L, 0, x, h => by cases h; exact ⟨rfl, rfl⟩
  | a :: L, i + 1, x, h => by
    obtain ⟨h1, h2⟩ := flatkv_get L i x (by simpa using h)
    have e : (kvC a).length = 2 := rfl
    constructor
    · rw [List.flatMap_cons, List.getElem?_append_right (by omega), e, show (i + 1) * 2 - 2 = i * 2 by omega]; exact h1
    · rw [List.flatMap_cons, List.getElem?_append_right (by omega), e, show (i + 1) * 2 + 1 - 2 = i * 2 + 1 by omega]; exact h2
/-- A row of items: its cells, as long as blocks of items stay. -/
def ItRow (w : World) (A : Option Addr) (c : Nat) (L : List KV) : Prop := L.length ≤ c ∧ c ≤ maxLen ∧ ∀ (i : Nat) (x : KV), L[i]? = some x → ∃ g cs, A = some ⟨g, 0, none⟩ ∧ Blk w g 61 cs ∧ cs[i * 2]? = some (.string x.1) ∧ cs[i * 2 + 1]? = some (.string x.2)
theorem Items.row {G : Nat} {w : World} {v : Value} {L : List KV} (h : Items G w v L) : ∃ A c, v = .slice A L.length c ∧ ItRow w A c L := by
  obtain ⟨A, c, rfl, ho⟩ := h
  refine ⟨A, c, rfl, ?_⟩
  rcases ho.2 with ⟨e, hz⟩ | ⟨g, cap, cur, e, hg, hb, h1, h2, h3, h4⟩
  · injection e with e1 e2 e3
    subst e3
    exact ⟨by omega, Nat.zero_le _, fun i x hx => by have := (List.getElem?_eq_some_iff.1 hx).1; omega⟩
  · cases e
    refine ⟨h1, h2, fun i x hx => ⟨g, cur, rfl, hb, ?_⟩⟩
    have hi := (List.getElem?_eq_some_iff.1 hx).1
    obtain ⟨a, b⟩ := flatkv_get L i x hx
    rw [← h4, List.getElem?_take, if_pos (by omega), Array.getElem?_toList] at a b
    exact ⟨a, b⟩
theorem ItRow.keep {w w' : World} {A : Option Addr} {c : Nat} {L : List KV} (h : ItRow w A c L) (hk : ∀ g cs, Blk w g 61 cs → Blk w' g 61 cs) : ItRow w' A c L :=
  ⟨h.1, h.2.1, fun i x hx => by
    obtain ⟨g, cs, e, hb, a, b⟩ := h.2.2 i x hx
    exact ⟨g, cs, e, hk g cs hb, a, b⟩⟩
theorem ItRow.kp {B : Nat} {w w' : World} {A : Option Addr} {c : Nat} {L : List KV} (h : ItRow w A c L) (hk : Kp B w w') : ItRow w' A c L := h.keep fun g cs hb => hk.far g _ cs far_item hb
theorem ItRow.later {w w' : World} {A : Option Addr} {c : Nat} {L : List KV} (h : ItRow w A c L) (hk : Later w w') : ItRow w' A c L := h.keep fun g cs hb => hb.below hk hb.lt
theorem ItRow.get {w : World} {A : Option Addr} {c : Nat} {L : List KV} (h : ItRow w A c L) {i : Nat} (hi : i < L.length) : ∃ g, A = some ⟨g, 0, none⟩ ∧ ∀ m, (w.drewN m).cell? ⟨g, i * 2, none⟩ = some (.string L[i].1) ∧ (w.drewN m).cell? ⟨g, i * 2 + 1, none⟩ = some (.string L[i].2) := by
  obtain ⟨g, cs, e, hb, a, b⟩ := h.2.2 i L[i] (List.getElem?_eq_getElem hi)
  refine ⟨g, e, fun m => ?_⟩
  have hb' := hb.below (later_drewN w m) hb.lt
  exact ⟨(hb'.cell _).trans a, (hb'.cell _).trans b⟩
/-- Where a law stands whose shelf is well: its tree is the map l, behind k changes and j calls. -/
structure At (b : Nat) (s : Sh) (j k : Nat) (r : Int) (l : List KV) (w : World) : Prop where
  st : St b b 0 s w
  tree : Tree everyP s.S k r l
  n1 : s.n ≤ 5000 * j
  len : s.S.length ≤ 100 * k
section
variable {b j k : Nat} {s s' : Sh} {r n : Int} {l l' : List KV} {w w' : World}
theorem At.later (h : At b s j k r l w) (q : Later w w') : At b s j k r l w' := ⟨h.st.later q, h.tree, h.n1, h.len⟩
theorem At.next (h : At b s j k r l w) (hk : k ≤ 125) (hj : j ≤ 10000) (hs : ∃ v', ShAt b w' b 0 s' v') (hp : Kp b w w') (h2 : Two s'.S) (hg : Grow s s') (ht : Tree everyP s'.S (k + 1) n l') : At b s' (j + 1) (k + 1) n l' w' := by
  obtain ⟨_, g1, g2, g3⟩ := hg
  have h1 := h.n1
  have h3 := h.len
  exact ⟨⟨hs, Nat.le_trans h.st.size hp.below.size, h2, by have := h.st.n0; omega, by omega, by omega⟩, ht, by omega, by omega⟩
theorem At.same (h : At b s j k r l w) (hk : k ≤ 125) (hj : j ≤ 10000) (hs : ∃ v', ShAt b w' b 0 s' v') (hp : Kp b w w') (h2 : Two s'.S) (hg : Grow s s') : At b s' (j + 1) (k + 1) r l w' := by
  obtain ⟨⟨X, hX⟩, g1, g2, g3⟩ := hg
  have h1 := h.n1
  have h3 := h.len
  exact ⟨⟨hs, Nat.le_trans h.st.size hp.below.size, h2, by have := h.st.n0; omega, by omega, by omega⟩, by rw [hX]; exact (h.tree.grow X).more (Nat.le_succ k), by omega, by omega⟩
/-- Behind a read. -/
theorem At.read {K : Nat} (h : At b s j k r l w) (hj : j ≤ 10000) (hr : Read b b 0 s K w w') (hK : K ≤ 5000) : ∃ s', s'.S = s.S ∧ At b s' (j + 1) k r l w' ∧ Kp b w w' := by
  obtain ⟨n', h1, h2, h3, h4⟩ := hr.st h.st (by have := h.n1; omega)
  exact ⟨⟨s.S, n'⟩, rfl, ⟨h3, h.tree, by have := h.n1; show n' ≤ _; omega, h.len⟩, h4⟩
theorem At.start (w : World) : At w.heap.size ⟨[], 0⟩ 0 0 0 [] (w.alloc (.cells #[.slice none 0 0, .int .i64 0, .int .i64 0] 26)) := ⟨shelf_new w, Tree.none0 [], by decide, by decide⟩
theorem At.put (h : At b s j k r l w) (hk : k ≤ 124) (hj : j ≤ 10000) {key val : ByteArray} (hf : keyFit key) (hv : val.size ≤ 400) : Calls Try.prog 10 #[shV b, .int .u64 r, .string key, .string val] w fun e w' => ∃ s' n, e = .returned (.tuple #[.int .u64 n, .int .i64 0]) ∧ At b s' (j + 1) (k + 1) n (putL l key val) w' ∧ Kp b w w' ∧ Grow s s' :=
  (put_well (qput_every _) h.st h.st.n0 h.tree (by omega) hf hv).mono fun e w' ⟨s', n, he, hs, hp, h2, hg, ht⟩ => ⟨s', n, he, h.next (by omega) hj hs hp h2 hg ht, hp, hg⟩
theorem At.drop (h : At b s j k r l w) (hk : k ≤ 124) (hj : j ≤ 10000) (key : ByteArray) : Calls Try.prog 11 #[shV b, .int .u64 r, .string key] w fun e w' => ∃ s' n er, e = .returned (.tuple #[.int .u64 n, .int .i64 er]) ∧ Kp b w w' ∧ Grow s s' ∧ ((er = 5 ∧ n = 0 ∧ getL l key = none ∧ At b s' (j + 1) (k + 1) r l w') ∨ (er = 0 ∧ getL l key ≠ none ∧ At b s' (j + 1) (k + 1) n (delL l key) w')) :=
  (drop_well (fun _ => trivial) key h.st h.st.n0 h.tree (by omega)).mono fun e w' ⟨s', n, er, he, hs, hp, h2, hg, hr⟩ => ⟨s', n, er, he, hp, hg, by
    rcases hr with ⟨e1, e2, e3⟩ | ⟨e1, e2, e3⟩
    · exact .inl ⟨e1, e2, e3, h.same (by omega) hj hs hp h2 hg⟩
    · exact .inr ⟨e1, e2, h.next (by omega) hj hs hp h2 hg (e3.more (Nat.le_succ k))⟩⟩
theorem At.range (h : At b s j k r l w) (hk : k ≤ 124) (hj : j ≤ 10000) (fr til : ByteArray) (most : Int) : Calls Try.prog 12 #[shV b, .int .u64 r, .string fr, .string til, .int .i64 most] w fun e w' => ∃ A c s', e = .returned (.tuple #[.slice A (ranged fr til most l).length c, .int .i64 0]) ∧ ItRow w' A c (ranged fr til most l) ∧ s'.S = s.S ∧ At b s' (j + 1) k r l w' ∧ Kp b w w' :=
  (range_well fr til h.st h.st.n0 h.tree (by omega)).mono fun e w' ⟨lv, he, hi, hr⟩ => by
    obtain ⟨s', h1, h2, h3⟩ := h.read hj hr (by omega)
    obtain ⟨A, c, rfl, hr⟩ := hi.row
    exact ⟨A, c, s', he, hr, h1, h2, h3⟩
end
end Go.Proofs.Ytafeddjcomeniaa
end

/- publicanlaw7.TreeRanges answers true. Conditions: the changes lie in memory. -/
section
namespace Go.Proofs.Ytafeddjcomeniaa
open Go.RowKit
set_option linter.unusedVariables false
set_option linter.unusedSimpArgs false

def acL (l : List KV) (x : Ac7) : List KV := if x.drop then delL l x.k else putL l x.k x.v
def acsL (l : List KV) (L : List Ac7) : List KV := L.foldl acL l
theorem acs_snoc {L : List Ac7} {i : Nat} {x : Ac7} (hx : L[i]? = some x) : acsL [] (L.take (i + 1)) = acL (acsL [] (L.take i)) x := by
  obtain ⟨hi, rfl⟩ := List.getElem?_eq_some_iff.1 hx
  rw [List.take_add_one, List.getElem?_eq_getElem hi]
  unfold acsL
  rw [List.foldl_append]
  rfl
theorem acs_len : ∀ (L : List Ac7) (l : List KV), (acsL l L).length ≤ l.length + L.length
  | [], l => by simp [acsL]
  | x :: L, l => by
    have h := acs_len L (acL l x)
    have h2 : (acL l x).length ≤ l.length + 1 := by
      unfold acL
      split
      · have := delL_len x.k l; omega
      · exact putL_len x.k x.v l
    show (acsL (acL l x) L).length ≤ _
    rw [List.length_cons]
    omega
theorem del_none {k : ByteArray} : ∀ {l : List KV}, getL l k = none → delL l k = l
  | [], _ => rfl
  | x :: l, h => by
    unfold getL at h
    unfold delL
    split at h
    · rename_i hc
      rw [if_pos hc, del_none h]
    · cases h
theorem less_size {a b : ByteArray} (h : lessB a b = true) : b.size ≠ 0 := fun e => by
  have : b = ⟨#[]⟩ := by cases b with | mk x => simp [ByteArray.size] at e; rw [e]
  rw [this, less_empty] at h
  cases h
theorem inR_split {fr mid til k : ByteArray} (h1 : lessB mid fr = false) (h2 : lessB mid til = true) (hm : mid.size ≠ 0) : inR fr til k = (inR fr mid k || inR mid til k) := by
  have ht := less_size h2
  unfold inR
  rw [decide_eq_false hm, decide_eq_false ht]
  cases a : lessB k fr with
  | true =>
    have : lessB k mid = true := lt_le a h1
    rw [this]; rfl
  | false =>
    cases c : lessB k mid with
    | true =>
      have : lessB k til = true := lessB_trans c h2
      rw [this]; rfl
    | false => rfl
theorem filt_split {fr mid til : ByteArray} (h1 : lessB mid fr = false) (h2 : lessB mid til = true) (hm : mid.size ≠ 0) : ∀ {l : List KV}, SortK l → filt fr til l = filt fr mid l ++ filt mid til l
  | [], _ => rfl
  | x :: l, hs => by
    obtain ⟨ha, hs'⟩ := List.pairwise_cons.1 hs
    have ih := filt_split h1 h2 hm hs'
    unfold filt at ih ⊢
    simp only [List.filter_cons]
    rw [inR_split h1 h2 hm]
    cases c1 : inR fr mid x.1 with
    | true =>
      have c2 : inR mid til x.1 = false := by
        unfold inR at c1 ⊢
        rw [decide_eq_false hm, Bool.false_or, Bool.and_eq_true] at c1
        rw [c1.2]; rfl
      rw [c2]
      simp only [Bool.or_false, if_true, Bool.false_eq_true, if_false, List.cons_append]
      rw [ih]
    | false =>
      cases c2 : inR mid til x.1 with
      | true =>
        have e : List.filter (fun y : KV => inR fr mid y.1) l = [] := List.filter_eq_nil_iff.2 fun y hy => by
          have hxy := ha y hy
          have hx : lessB x.1 mid = false := by
            unfold inR at c2
            rw [Bool.and_eq_true, Bool.not_eq_true'] at c2
            exact c2.1
          have hy : lessB y.1 mid = false := le_le hx (lt_ge hxy)
          unfold inR
          rw [hy, decide_eq_false hm]; simp
        rw [e] at ih
        rw [e, ih]
        simp
      | false => simpa using ih
theorem ranged_take {fr til : ByteArray} {l : List KV} (h : l.length ≤ 1000) : ranged fr til 1000 l = filt fr til l := by
  unfold ranged
  refine List.take_of_length_le ?_
  have := List.length_filter_le (fun x : KV => inR fr til x.1) l
  unfold filt
  have e : (1000 : Int).toNat = 1000 := rfl
  omega
theorem Items.kp {G B : Nat} {w w' : World} {v : Value} {L : List KV} (h : Items G w v L) (hk : Kp B w w') : Items G w' v L := by
  obtain ⟨A, c, rfl, ho⟩ := h
  refine ⟨A, c, rfl, ho.1, ?_⟩
  rcases ho.2 with e | ⟨g, cap, cur, e, hg, hb, r⟩
  · exact .inl e
  · exact .inr ⟨g, cap, cur, e, hg, hk.far g _ cur far_item hb, r⟩
theorem At.rangeI {b j k : Nat} {s : Sh} {r : Int} {l : List KV} {w : World} (h : At b s j k r l w) (hk : k ≤ 124) (hj : j ≤ 10000) (fr til : ByteArray) (most : Int) : Calls Try.prog 12 #[shV b, .int .u64 r, .string fr, .string til, .int .i64 most] w fun e w' => ∃ A c s', e = .returned (.tuple #[.slice A (ranged fr til most l).length c, .int .i64 0]) ∧ Items w.heap.size w' (.slice A (ranged fr til most l).length c) (ranged fr til most l) ∧ s'.S = s.S ∧ At b s' (j + 1) k r l w' ∧ Kp b w w' :=
  (range_well fr til h.st h.st.n0 h.tree (by omega)).mono fun e w' ⟨lv, he, hi, hr⟩ => by
    obtain ⟨s', h1, h2, h3⟩ := h.read hj hr (by omega)
    have hi' := hi
    obtain ⟨A, c, rfl, _⟩ := hi'
    exact ⟨A, c, s', he, hi, h1, h2, h3⟩
theorem Items.kept {G : Nat} {w w' : World} {v : Value} {L : List KV} (h : Items G w v L) (hk : ∀ g, v.ownBlock = some g → w'.heap[g]? = w.heap[g]?) : Items G w' v L := by
  obtain ⟨A, c, rfl, ho⟩ := h
  exact ⟨A, c, rfl, own_heap' ho hk⟩
theorem Items.lt {G : Nat} {w : World} {v : Value} {L : List KV} (h : Items G w v L) : ∀ g, v.ownBlock = some g → G ≤ g ∧ g < w.heap.size := by
  obtain ⟨A, c, rfl, ho⟩ := h
  exact ho.lt
theorem Items.reads {G : Nat} {w : World} {A : Option Addr} {c : Nat} {L : List KV} (h : Items G w (.slice A L.length c) L) : Reads w w.heap.size 2 A L.length (L.flatMap kvC) := by
  obtain ⟨A', c', e, ho⟩ := h
  cases e
  refine ⟨flatkv_len L, fun h0 => ?_⟩
  rcases ho.2 with ⟨e, hz⟩ | ⟨g, cap, cur, e, hg, hb, h1, h2, h3, h4⟩
  · omega
  · cases e
    have hb : Blk w g 61 cur := hb
    refine ⟨_, rfl, hb.lt, fun j u hu => ?_⟩
    rw [show (⟨g, 0, none⟩ : Addr).add j = ⟨g, j, none⟩ by unfold Addr.add; by_cases e : j = 0 <;> simp [e], hb.cell, ← Array.getElem?_toList]
    have hj := (List.getElem?_eq_some_iff.1 hu).1
    rw [flatkv_len] at hj
    rw [← h4, List.getElem?_take, if_pos hj] at hu
    exact hu
theorem kv_one (L : List KV) : ∀ u ∈ L.flatMap kvC, u.oneCell' = true := fun u hu => by
  obtain ⟨x, _, hx⟩ := List.mem_flatMap.1 hu
  unfold kvC at hx
  simp only [List.mem_cons, List.not_mem_nil, or_false] at hx
  rcases hx with rfl | rfl <;> rfl
set_option maxRecDepth 100000 in
set_option maxHeartbeats 16000000 in
theorem treeRanges_all (W : World) (A : Option Addr) (n c : Nat) (L : List Ac7) (fr mid til : ByteArray) (most : Int) (hnc : n ≤ c) (hc : c ≤ maxLen) (h : Acts7At W W.heap.size A n L) :
    Calls Try.prog 8 #[.slice A n c, .string fr, .string mid, .string til, .int .i64 most] W fun e w' => e = .returned (.bool true) ∧ Below W.heap.size W w' := by
  have hn : n ≤ 9223372036854775807 := by unfold maxLen at hc; omega
  have CA := Lib.hid (awake_any W)
  have H := Lib.hid h
  have HLL := Lib.hid h.1
  clear h
  go_enter Try.func8, Try.ntmps8
  go_wp2_with fail
  refine CA.out.mono ?_
  rintro e w1 ⟨rfl, hl1⟩
  have HL1 : Hid (Later W w1) := Lib.hid hl1
  have CS := Lib.hid (small_any (c := c) H.out (show Below _ _ _ from HL1.out) hn)
  clear CA hl1
  go_wp2_with fail
  refine CS.out.mono ?_
  rintro e w' ⟨rfl, rfl⟩
  clear CS
  have FIN0 : Hid (Below W.heap.size W w1) := Lib.hid HL1.out
  cases hsm : smallB L with
  | false =>
    clear hsm
    go_wp2_with fail
    go_ret
    exact ⟨rfl, FIN0.out⟩
  | true =>
    obtain ⟨h120, hfit⟩ := small_yes hsm
    have HFIT := Lib.hid hfit
    clear hsm hfit
    by_cases a1 : 80 < n
    · have d1 : (80 : Int) < (n : Int) := by omega
      go_wp2_with fail
      go_ret
      exact ⟨rfl, FIN0.out⟩
    · have d1 : ¬ ((80 : Int) < (n : Int)) := by omega
      by_cases a2 : 50 < fr.size
      · have d2 : (50 : Int) < (fr.size : Int) := by omega
        go_wp2_with fail
        go_ret
        exact ⟨rfl, FIN0.out⟩
      · have d2 : ¬ ((50 : Int) < (fr.size : Int)) := by omega
        by_cases a3 : 50 < mid.size
        · have d3 : (50 : Int) < (mid.size : Int) := by omega
          go_wp2_with fail
          go_ret
          exact ⟨rfl, FIN0.out⟩
        · have d3 : ¬ ((50 : Int) < (mid.size : Int)) := by omega
          by_cases a4 : 50 < til.size
          · have d4 : (50 : Int) < (til.size : Int) := by omega
            go_wp2_with fail
            go_ret
            exact ⟨rfl, FIN0.out⟩
          · have d4 : ¬ ((50 : Int) < (til.size : Int)) := by omega
            cases a5 : lessB mid fr with
            | true =>
              have d5 : Op.bytesLess mid.toList fr.toList = true := a5
              clear a5
              go_wp2_with fail
              go_ret
              exact ⟨rfl, FIN0.out⟩
            | false =>
              have d5 : Op.bytesLess mid.toList fr.toList = false := a5
              cases a6 : lessB mid til with
              | false =>
                have d6 : Op.bytesLess mid.toList til.toList = false := a6
                have d6' : (Op.bytesLess til.toList mid.toList || til.toList == mid.toList) = true := by rw [bytes_nle, d6]; rfl
                clear a5 a6
                go_wp2_with fail
                go_ret
                exact ⟨rfl, FIN0.out⟩
              | true =>
                have d6 : Op.bytesLess mid.toList til.toList = true := a6
                have d6' : (Op.bytesLess til.toList mid.toList || til.toList == mid.toList) = false := by rw [bytes_nle, d6]; rfl
                by_cases a7 : mid.size = 0
                · have e7 : mid = ⟨#[]⟩ := by cases mid with | mk a => simp [ByteArray.size] at a7; rw [a7]
                  have d7 : (mid.toList == ([] : List UInt8)) = true := by rw [e7, ByteArray.toList_eq]; rfl
                  clear a5 a6 a7 e7
                  go_wp2_with fail
                  go_ret
                  exact ⟨rfl, FIN0.out⟩
                · have d7 : (mid.toList == ([] : List UInt8)) = false := by
                    rw [beq_eq_false_iff_ne]
                    intro e
                    exact a7 (by rw [ByteArray.toList_eq] at e; cases mid with | mk a => (have := congrArg List.length e; simpa [ByteArray.size] using this))
                  have HS5 := Lib.hid a5
                  have HS6 := Lib.hid a6
                  have HS7 := Lib.hid a7
                  clear a5 a6 a7
                  obtain ⟨W3, hW3⟩ : ∃ W3, W3 = w1.alloc (.cells #[.slice none 0 0, .int .i64 0, .int .i64 0] 26) := ⟨_, rfl⟩
                  obtain ⟨b, hb⟩ : ∃ b, b = w1.heap.size := ⟨_, rfl⟩
                  have hat := At.start w1
                  rw [← hW3, ← hb] at hat
                  have hl3 : Later w1 W3 := by rw [hW3]; exact below_new _ _
                  have HAT := Lib.hid hat
                  have HL3 : Hid (Later W W3) := Lib.hid (HL1.out.trans hl3)
                  have HBW : Hid (W.heap.size ≤ b) := Lib.hid (by rw [hb]; exact (show Below _ _ _ from HL1.out).size)
                  have HB := Lib.hid hb
                  have HW3 := Lib.hid hW3
                  clear hat hl3 hb hW3
                  go_upto_region 6 with fail
                  rw [← HW3.out, ← HB.out]
                  clear d1 d2 d3 d4 d5 d6 d6' d7 a2 a3 a4
                  go_wp2_with fail
                  go_loopg [12, 13] n (fun m rv iv wr => ∃ (i : Nat) (s : Sh) (r : Int), iv = .int .i64 (i : Int) ∧ rv = .int .u64 r ∧ i + m = n ∧ Hid (At b s i i r (acsL [] (L.take i)) wr) ∧ Hid (Kp b W3 wr))
                  case atStart => exact ⟨0, ⟨[], 0⟩, 0, rfl, rfl, by omega, HAT, Lib.hid ⟨Below.refl _ _, fun _ _ _ _ h => h, Sm.refl _⟩⟩
                  case round =>
                    obtain ⟨i, s, r, rfl, rfl, him, HA, HP⟩ := hrel
                    by_cases hlt : i < n
                    · have hd3 : (i : Int) < (n : Int) := by omega
                      have b1 : (0 : Int) ≤ (i : Int) := by omega
                      have ewi : IntKind.i64.wrap ((i : Int) + 1) = (i : Int) + 1 := IntWalk.i64_in _ (by omega)
                      obtain ⟨y, bb, oo, hy, rfl, hc⟩ := H.out.at_ hlt
                      have HCB : Hid (∀ V, Kp b wr V → V.cell? ⟨bb, oo + i * 3, none⟩ = some (.string y.k) ∧ V.cell? ⟨bb, oo + i * 3 + 1, none⟩ = some (.string y.v) ∧ V.cell? ⟨bb, oo + i * 3 + 2, none⟩ = some (.bool y.drop)) := Lib.hid fun V hV =>
                        hc V ((show Below W.heap.size W W3 from HL3.out).trans ((HP.out.below.mono HBW.out).trans (hV.below.mono HBW.out)))
                      obtain ⟨y0, y1, y2⟩ := HCB.out wr ⟨Below.refl _ _, fun _ _ _ _ h => h, Sm.refl _⟩
                      have hsn := acs_snoc hy
                      have hf := HFIT.out i y hy
                      unfold acL at hsn
                      cases hyd : y.drop with
                      | true =>
                        rw [hyd] at hsn y2
                        simp only [if_true] at hsn
                        have CD := Lib.hid (HA.out.drop (by omega) (by omega) y.k)
                        have HSN := Lib.hid hsn
                        unfold shV at CD
                        clear hsn hf hyd hc hy
                        go_wp2_with fail
                        refine CD.out.mono ?_
                        rintro e w4 ⟨s', n', er, rfl, hkp, _, hres⟩
                        have HP2 := Lib.hid (HP.out.trans hkp)
                        rcases hres with ⟨rfl, rfl, hg, hat⟩ | ⟨rfl, _, hat⟩
                        · have HA2 : Hid (At b s' (i + 1) (i + 1) r (acsL [] (L.take (i + 1))) w4) := Lib.hid (by rw [HSN.out, del_none hg]; exact hat)
                          clear hkp hg hat CD y0 y1 y2
                          go_wp2_with fail
                          go_roundg (n - (i + 1))
                          case measure => omega
                          case rel => exact ⟨i + 1, s', r, by simp, rfl, by omega, HA2, HP2⟩
                        · have HA2 : Hid (At b s' (i + 1) (i + 1) n' (acsL [] (L.take (i + 1))) w4) := Lib.hid (by rw [HSN.out]; exact hat)
                          clear hkp hat CD y0 y1 y2
                          go_wp2_with fail
                          go_roundg (n - (i + 1))
                          case measure => omega
                          case rel => exact ⟨i + 1, s', n', by simp, rfl, by omega, HA2, HP2⟩
                      | false =>
                        rw [hyd] at hsn y2
                        simp only [Bool.false_eq_true, if_false] at hsn
                        have CP : Hid (∀ V, Later wr V → Calls Try.prog 10 #[shV b, .int .u64 r, .string y.k, .string y.v] V fun e w' => ∃ s' n, e = .returned (.tuple #[.int .u64 n, .int .i64 0]) ∧ At b s' (i + 1) (i + 1) n (putL (acsL [] (L.take i)) y.k y.v) w' ∧ Kp b V w' ∧ Grow s s') := Lib.hid fun V hV => (HA.out.later hV).put (by omega) (by omega) hf.1 hf.2
                        have HSN := Lib.hid hsn
                        unfold shV at CP
                        clear hsn hf hyd hc hy y0 y1
                        go_upto_region 14 with fail
                        clear y2
                        go_region_held3 (fun w' => w'.cell? ⟨bb, oo + i * 3, none⟩ = some (.string y.k) ∧ w'.cell? ⟨bb, oo + i * 3 + 1, none⟩ = some (.string y.v))
                          (first | exact ⟨(HCB.out _ (Kp.later HA.out.st.size (Later.refl wr).drew)).1, (HCB.out _ (Kp.later HA.out.st.size (Later.refl wr).drew)).2.1⟩ | exact hS3)
                          (first | (go_simp; go_at_call 10; go_must (refine (CP.out _ (Later.refl wr).drew).mono ?_); rintro e w3 ⟨s', n', rfl, hat', hkp', hgr'⟩
                                    have hkp3 : Kp b wr w3 := (Kp.later HA.out.st.size (Later.refl wr).drew).trans hkp'
                                    have hS3 := And.intro (HCB.out w3 hkp3).1 (HCB.out w3 hkp3).2.1))
                        have HA2 : Hid (At b s' (i + 1) (i + 1) n' (acsL [] (L.take (i + 1))) w3) := Lib.hid (by rw [HSN.out]; exact hat')
                        have HP2 := Lib.hid (HP.out.trans hkp3)
                        clear hat' hkp' hgr' hkp3 hS3
                        go_wp2_with fail
                        go_roundg (n - (i + 1))
                        case measure => omega
                        case rel => exact ⟨i + 1, s', n', by simp, rfl, by omega, HA2, HP2⟩
                    · have hd3 : ¬ ((i : Int) < (n : Int)) := by omega
                      obtain ⟨l, hl⟩ : ∃ l, l = acsL [] (L.take i) := ⟨_, rfl⟩
                      have hll := acs_len (L.take i) []
                      rw [← hl] at HA hll
                      rw [List.length_take] at hll
                      have hl80 : l.length ≤ 80 := by simp at hll; omega
                      have hsort := HA.out.tree.sort
                      have hsp := filt_split HS5.out HS6.out HS7.out hsort
                      have hfl : ∀ a b, (filt a b l).length ≤ 80 := fun a b => by
                        have := List.length_filter_le (fun x : KV => inR a b x.1) l
                        unfold filt; omega
                      have HRT : Hid (∀ a b, ranged a b 1000 l = filt a b l) := Lib.hid fun a b => ranged_take (by omega)
                      have HRD : Hid (ranged fr til most l = (filt fr til l).take most.toNat) := Lib.hid rfl
                      have CR := HA.out.rangeI (by omega) (by omega) fr til 1000
                      rw [HRT.out] at CR
                      obtain ⟨FA, hFA⟩ : ∃ FA, FA = filt fr til l := ⟨_, rfl⟩
                      obtain ⟨FB, hFB⟩ : ∃ FB, FB = filt fr mid l := ⟨_, rfl⟩
                      obtain ⟨FC, hFC⟩ : ∃ FC, FC = filt mid til l := ⟨_, rfl⟩
                      obtain ⟨FD, hFD⟩ : ∃ FD, FD = ranged fr til most l := ⟨_, rfl⟩
                      rw [← hFA] at CR
                      have HFA := Lib.hid hFA
                      have HFB := Lib.hid hFB
                      have HFC := Lib.hid hFC
                      have HFD := Lib.hid hFD
                      have HSP : Hid (FA = FB ++ FC) := Lib.hid (by rw [hFA, hFB, hFC]; exact hsp)
                      have HDD : Hid (FD = FA.take most.toNat) := Lib.hid (by rw [hFD, hFA]; rfl)
                      have HLN : Hid (FA.length ≤ 80 ∧ FB.length ≤ 80 ∧ FC.length ≤ 80) := Lib.hid ⟨by rw [hFA]; exact hfl _ _, by rw [hFB]; exact hfl _ _, by rw [hFC]; exact hfl _ _⟩
                      have CR := Lib.hid CR
                      unfold shV at CR
                      clear hl hll hsort hsp hfl hFA hFB hFC hFD hl80
                      go_wp2_with fail
                      refine CR.out.mono ?_
                      rintro e w4 ⟨Aa, ca, s4, rfl, hia, _, hat4, hkp4⟩
                      have CR := hat4.rangeI (by omega) (by omega) fr mid 1000
                      rw [HRT.out, ← HFB.out] at CR
                      have CR := Lib.hid CR
                      unfold shV at CR
                      have HIA := Lib.hid hia
                      have HP4 := Lib.hid (HP.out.trans hkp4)
                      clear hia hat4 hkp4
                      go_wp2_with fail
                      refine CR.out.mono ?_
                      rintro e w5 ⟨Ab, cb, s5, rfl, hib, _, hat5, hkp5⟩
                      have CR := hat5.rangeI (by omega) (by omega) mid til 1000
                      rw [HRT.out, ← HFC.out] at CR
                      have CR := Lib.hid CR
                      unfold shV at CR
                      have HLA : Hid (∀ g, (Value.slice Aa FA.length ca).ownBlock = some g → g < w4.heap.size) := Lib.hid fun g hg => (HIA.out.lt g hg).2
                      have HIA5 := Lib.hid (HIA.out.kp hkp5)
                      have HIB := Lib.hid hib
                      have HP5 := Lib.hid (HP4.out.trans hkp5)
                      have HZ5 : Hid (w4.heap.size ≤ w5.heap.size) := Lib.hid hkp5.below.size
                      clear hib hat5 hkp5
                      go_wp2_with fail
                      refine CR.out.mono ?_
                      rintro e w6 ⟨Ac, cc, s6, rfl, hic, _, hat6, hkp6⟩
                      have CR := hat6.rangeI (by omega) (by omega) fr til most
                      rw [← HFD.out] at CR
                      have CR := Lib.hid CR
                      unfold shV at CR
                      have HLB : Hid (∀ g, (Value.slice Ab FB.length cb).ownBlock = some g → w4.heap.size ≤ g ∧ g < w5.heap.size) := Lib.hid fun g hg => HIB.out.lt g hg
                      have HIA6 := Lib.hid (HIA5.out.kp hkp6)
                      have HIB6 := Lib.hid (HIB.out.kp hkp6)
                      have HIC := Lib.hid hic
                      have HSZ5 : Hid (w5.heap.size ≤ w6.heap.size) := Lib.hid hkp6.below.size
                      have HP6 := Lib.hid (HP5.out.trans hkp6)
                      clear hic hat6 hkp6
                      go_wp2_with fail
                      refine CR.out.mono ?_
                      rintro e w7 ⟨Ad, cd, s7, rfl, hid, _, hat7, hkp7⟩
                      have HIA7 := Lib.hid (HIA6.out.kp hkp7)
                      have HIB7 := Lib.hid (HIB6.out.kp hkp7)
                      have HIC7 := Lib.hid (HIC.out.kp hkp7)
                      have HID7 := Lib.hid hid
                      have HP7 := Lib.hid (HP6.out.trans hkp7)
                      have HSZ7 : Hid (w6.heap.size ≤ w7.heap.size) := Lib.hid hkp7.below.size
                      clear hid hat7 hkp7 CR
                      obtain ⟨ra, hra⟩ : ∃ ra, ra = FA.length := ⟨_, rfl⟩
                      obtain ⟨rb, hrb⟩ : ∃ rb, rb = FB.length := ⟨_, rfl⟩
                      obtain ⟨rc, hrc⟩ : ∃ rc, rc = FC.length := ⟨_, rfl⟩
                      obtain ⟨rd, hrd⟩ : ∃ rd, rd = FD.length := ⟨_, rfl⟩
                      have hsum : ra = rb + rc := by rw [hra, hrb, hrc, HSP.out, List.length_append]
                      rw [← hra, ← hrb, ← hrc, ← hrd]
                      have ews : IntKind.i64.wrap ((rb : Int) + (rc : Int)) = (ra : Int) := by rw [hsum, Int.natCast_add]; exact IntWalk.i64_in _ (by have := HLN.out; omega)
                      have HRA := Lib.hid hra
                      have HRB := Lib.hid hrb
                      have HRC := Lib.hid hrc
                      have HRDL := Lib.hid hrd
                      have HSUM := Lib.hid hsum
                      clear hra hrb hrc hrd hsum
                      go_upto_region 21 with fail
                      obtain ⟨i0, hi0, hz0, hz1, hz2⟩ := info_parts cinfo_item
                      have hob : w7.ownsRow w4.heap.size 61 2 (.slice Ab rb cb) rb (FB.flatMap kvC) := by
                        obtain ⟨A', c', e', ho⟩ := HIB7.out
                        rw [HRB.out]
                        exact ho
                      have hrdc : Reads w7 w7.heap.size 2 Ac rc (FC.flatMap kvC) := by
                        rw [HRC.out]
                        exact HIC7.out.reads
                      have hlim : rb + rc ≤ 1000 := by have := HLN.out; have := HRB.out; have := HRC.out; omega
                      have hbs : w4.heap.size ≤ w7.heap.size := by have := HZ5.out; have := HSZ5.out; have := HSZ7.out; omega
                      clear ews
                      go_wp2_with (at_builtin; go_must (refine wpList_append_any _ rfl (.tmp 171) (.tmp 172) _ rfl w4.heap.size 61 i0 _ 2 32 Try.underlying33 hi0 hz0 hz1 hz2 rfl (by omega) (.slice Ab rb cb) rb (FB.flatMap kvC) rfl hob w7.heap.size Ac rc cc (FC.flatMap kvC) rfl hrdc (kv_one FC) (by unfold maxLen; omega) (by omega) hbs ?_); intro v8 w8 ho8 hg8 hat8; obtain ⟨A8, c8, e8⟩ := own_shape ho8; subst e8)
                      have hia8 := HIA7.out.kept (w' := w8) fun g hg => hg8.block g (HIA7.out.lt g hg).2 fun e => by
                        rw [HRB.out] at e
                        have h1 := HLA.out g hg
                        have h2 := (HLB.out g e.symm).1
                        omega
                      have hid8 := HID7.out.kept (w' := w8) fun g hg => hg8.block g (HID7.out.lt g hg).2 fun e => by
                        rw [HRB.out] at e
                        have h1 := (HID7.out.lt g hg).1
                        have h2 := (HLB.out g e.symm).2
                        have := HSZ5.out
                        omega
                      have hib8 : Items w4.heap.size w8 (.slice A8 FA.length c8) FA := ⟨A8, c8, rfl, by
                        rw [HSP.out, List.length_append, ← HRB.out, ← HRC.out, List.flatMap_append]
                        exact ho8⟩
                      obtain ⟨Ax, cx, ex, hra⟩ := hia8.row
                      cases ex
                      obtain ⟨Ax, cx, ex, hrb⟩ := hib8.row
                      cases ex
                      obtain ⟨Ax, cx, ex, hrd⟩ := hid8.row
                      cases ex
                      have HRA8 := Lib.hid hra
                      have HRB8 := Lib.hid hrb
                      have HRD8 := Lib.hid hrd
                      have hb8 : Below w4.heap.size w7 w8 := (Below.refl _ _).grown hg8 hbs fun k e => by
                        rw [HRB.out] at e
                        exact (HLB.out k e).1
                      have FIN : Hid (Below W.heap.size W w8) := Lib.hid ((show Below W.heap.size W W3 from HL3.out).trans ((HP7.out.below.mono HBW.out).trans (hb8.mono (by have := HBW.out; have := HP4.out.below.size; have := (show Below _ _ _ from HL3.out).size; omega))))
                      have HRDM : Hid (rd = min most.toNat ra) := Lib.hid (by rw [HRDL.out, HDD.out, List.length_take, HRA.out])
                      have hra80 : ra ≤ 80 := by have := HLN.out; have := HRA.out; omega
                      clear hia8 hid8 hib8 hra hrb hrd ho8 hg8 hat8 hob hrdc hlim hbs hi0 hz0 hz1 hz2 hb8
                      go_loopg [24] ra (fun m iv wr => ∃ j dq : Nat, iv = .int .i64 (j : Int) ∧ j + m = ra ∧ wr = w8.drewN dq)
                      case atStart => exact ⟨0, 0, rfl, by omega, rfl⟩
                      case round =>
                        obtain ⟨j, dq, rfl, hjm, rfl⟩ := hrel
                        by_cases hlt : j < ra
                        · have hd4 : (j : Int) < (ra : Int) := by omega
                          have b2 : (0 : Int) ≤ (j : Int) := by omega
                          have hjb : (j : Int) < (rb : Int) + (rc : Int) := by have := HSUM.out; omega
                          have hjb2 : j < rb + rc := by have := HSUM.out; omega
                          have ewj : IntKind.i64.wrap ((j : Int) + 1) = (j : Int) + 1 := IntWalk.i64_in _ (by omega)
                          obtain ⟨ga, rfl, ca⟩ := HRA8.out.get (i := j) (by have := HRA.out; omega)
                          obtain ⟨gb, rfl, cb⟩ := HRB8.out.get (i := j) (by have := HRA.out; omega)
                          have ya := fun m => (ca (dq + m)).1
                          have za := fun m => (ca (dq + m)).2
                          have yb := fun m => (cb (dq + m)).1
                          have zb := fun m => (cb (dq + m)).2
                          by_cases hjd : j < rd
                          · have hd5 : (j : Int) < (rd : Int) := by omega
                            have hjf : j < FD.length := by have := HRDL.out; omega
                            obtain ⟨gd, rfl, ce⟩ := HRD8.out.get (i := j) hjf
                            have hjfa : j < FA.length := by have := HRA.out; omega
                            have efd : FD[j] = FA[j] := by
                              have : FD[j]? = FA[j]? := by rw [HDD.out, List.getElem?_take, if_pos (by have := HRDM.out; omega)]
                              rw [List.getElem?_eq_getElem hjf, List.getElem?_eq_getElem hjfa] at this
                              exact Option.some.inj this
                            rw [efd] at ce
                            have yd := fun m => (ce (dq + m)).1
                            have zd := fun m => (ce (dq + m)).2
                            clear efd
                            generalize FA[j].1 = kj at *
                            generalize FA[j].2 = vj at *
                            clear ca cb ce
                            go_upto_region 25 with fail
                            go_quiet (fail)
                            go_wp2_with fail
                            go_roundg (ra - (j + 1))
                            case measure => omega
                            case rel => exact ⟨j + 1, _, by simp, by omega, rfl⟩
                          · have hd5 : ¬ ((j : Int) < (rd : Int)) := by omega
                            have hjfa : j < FA.length := by have := HRA.out; omega
                            generalize FA[j].1 = kj at *
                            generalize FA[j].2 = vj at *
                            clear ca cb
                            go_upto_region 25 with fail
                            go_quiet (fail)
                            go_wp2_with fail
                            go_roundg (ra - (j + 1))
                            case measure => omega
                            case rel => exact ⟨j + 1, _, by simp, by omega, rfl⟩
                        · have hd4 : ¬ ((j : Int) < (ra : Int)) := by omega
                          have HFIN := Lib.hid (FIN.out.trans (below_drewN FIN.out.size dq))
                          by_cases hm : most < (ra : Int)
                          · by_cases hm0 : most < 0
                            · have e0 : rd = 0 := by have := HRDM.out; omega
                              subst e0
                              go_wp2_with fail
                              go_ret
                              exact ⟨rfl, HFIN.out⟩
                            · have e0 : (rd : Int) = most := by have := HRDM.out; omega
                              subst e0
                              go_wp2_with fail
                              go_ret
                              exact ⟨rfl, HFIN.out⟩
                          · have hr0 : ¬ ((ra : Int) < 0) := by omega
                            have e0 : rd = ra := by have := HRDM.out; omega
                            subst e0
                            go_wp2_with fail
                            go_ret
                            exact ⟨rfl, HFIN.out⟩
end Go.Proofs.Ytafeddjcomeniaa
end
