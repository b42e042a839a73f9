/- The texts of this proof, joined: contracts of the functions that the law reaches, and what they come to in plain Lean. Conditions: those that each theorem names. -/
import Derived.Test.YtafeddjcomeniaaMTreePages0
import Derived.Deep.DrawnRows
import Derived.Deep.RegionLaw
import Derived.Deep.QuietTactic
import Derived.BigQuiet
import Derived.Deep.LoopGhost
import Derived.Deep.Draws
import Derived.RegionTactic
import Derived.Shelf.Abstract
import Derived.Deep.DeepCutAuto
import Derived.Deep.CutBlock
import Derived.Deep.RegionHeld3
import Derived.Test.YtafeddjcomeniaaRows
import Derived.Lib.AppendStr

/- A shelf that may fall ill; a key put into a tree along its way. Plain Lean. No program here. Conditions: none. -/
section
namespace Go.Proofs.Ytafeddjcomeniaa
open Go

/-- A shelf: its pages, and how many calls it has had. -/
structure Sh where
  S : List Pg
  n : Int
def addS (ill : Int) (s : Sh) (p : Pg) : Sh × Option Int :=
  if s.n + 1 = ill then (⟨s.S, s.n + 1⟩, none) else (⟨s.S ++ [p], s.n + 1⟩, some ((s.S.length + 1 : Nat) : Int))
def halves (ill : Int) (s : Sh) (p : Pg) : Sh × Option Added :=
  match (if 900 < (encP p).length then splitP p else none) with
  | some (a, k, b) =>
    match addS ill s a with
    | (s1, none) => (s1, none)
    | (s1, some x) =>
      match addS ill s1 b with
      | (s2, none) => (s2, none)
      | (s2, some y) => (s2, some ⟨x, some (k, y)⟩)
  | none =>
    match addS ill s p with
    | (s1, none) => (s1, none)
    | (s1, some x) => (s1, some ⟨x, none⟩)
/-- The pages on the way to a key, each with the kid that is next. -/
def wayN (S : List Pg) : Nat → Int → ByteArray → List (Pg × Nat)
  | 0, _, _ => []
  | d + 1, n, key => match pgAt S n with
    | none => []
    | some p => (p, kidN p key) :: if p.leaf then [] else wayN S d (p.kids.getD (kidN p key) 0) key
def putW (ill : Int) (key val : ByteArray) : List (Pg × Nat) → Sh → Sh × Option Added
  | [], s => (s, none)
  | (p, i) :: rest, s =>
    match rest with
    | [] => halves ill s (putP p key val)
    | _ :: _ =>
      match putW ill key val rest s with
      | (s1, none) => (s1, none)
      | (s1, some a) => halves ill s1 (updP p i a)

/-- Shelf s has become s', by adding; o : what was answered. -/
structure Grew (ill : Int) (s s' : Sh) (X : List Pg) (ok : Bool) : Prop where
  S : s'.S = s.S ++ X
  n : s.n ≤ s'.n
  len : X.length ≤ s'.n - s.n
  sick : ok = false → s'.n = ill ∧ s.n < ill
  well : ok = true → s'.n < ill ∨ ill ≤ s.n
theorem Grew.trans {ill : Int} {s s1 s2 : Sh} {X Y : List Pg} {b : Bool} (h1 : Grew ill s s1 X true) (h2 : Grew ill s1 s2 Y b) : Grew ill s s2 (X ++ Y) b := by
  refine ⟨by rw [h2.S, h1.S, List.append_assoc], by have := h1.n; have := h2.n; omega, by rw [List.length_append]; have := h1.len; have := h2.len; omega, fun hb => ?_, fun hb => ?_⟩
  · have := h2.sick hb
    have := h1.well rfl
    have := h1.n
    omega
  · have := h2.well hb
    have := h1.well rfl
    have := h1.n; have := h2.n
    omega
theorem addS_ok (ill : Int) (s : Sh) (p : Pg) : (∃ s', addS ill s p = (s', none) ∧ Grew ill s s' [] false ∧ s'.n = s.n + 1) ∨ (∃ s', addS ill s p = (s', some ((s.S.length + 1 : Nat) : Int)) ∧ Grew ill s s' [p] true ∧ s'.n = s.n + 1) := by
  unfold addS
  by_cases h : s.n + 1 = ill
  · rw [if_pos h]
    exact .inl ⟨_, rfl, ⟨by simp, by show s.n ≤ s.n + 1; omega, by show ((0 : Nat) : Int) ≤ s.n + 1 - s.n; omega, fun _ => ⟨h, by omega⟩, fun e => by cases e⟩, rfl⟩
  · rw [if_neg h]
    exact .inr ⟨_, rfl, ⟨rfl, by show s.n ≤ s.n + 1; omega, by show ((1 : Nat) : Int) ≤ s.n + 1 - s.n; omega, fun e => (by cases e), fun _ => by show s.n + 1 < ill ∨ _; omega⟩, rfl⟩

/-- What a page must be so that what becomes of it is as it must. -/
structure Pre (Q : Pg → Prop) (p : Pg) : Prop where
  one : (if 900 < (encP p).length then splitP p else none) = none → Q p
  two : ∀ a k b, 900 < (encP p).length → splitP p = some (a, k, b) → Q a ∧ Q b

theorem OkPg.grow {Q : Pg → Prop} {S : List Pg} {d : Nat} {p : Pg} {lo hi : Option ByteArray} (h : OkPg (OkN Q S d) p lo hi) (X : List Pg) : OkPg (OkN Q (S ++ X) d) p lo hi := h.mono fun _ _ _ h => h.grow X
theorem itemsP_grow {Q : Pg → Prop} {S : List Pg} {d : Nat} {p : Pg} {lo hi : Option ByteArray} (h : OkPg (OkN Q S d) p lo hi) (X : List Pg) : itemsP (itemsN (S ++ X) d) p = itemsP (itemsN S d) p :=
  itemsP_congr fun hl n hn => by
    obtain ⟨i, hi'⟩ := kids_mem hn
    exact items_grow X (h.kids hl i n hi')
theorem OkN.new {Q : Pg → Prop} {S : List Pg} {d : Nat} {p : Pg} {lo hi : Option ByteArray} (h : OkPg (OkN Q S d) p lo hi) (hq : Q p) : OkN Q (S ++ [p]) (d + 1) ((S.length + 1 : Nat) : Int) lo hi := ⟨p, pgAt_new S p, hq, h.grow _⟩
theorem items_new {Q : Pg → Prop} {S : List Pg} {d : Nat} {p : Pg} {lo hi : Option ByteArray} (h : OkPg (OkN Q S d) p lo hi) : itemsN (S ++ [p]) (d + 1) ((S.length + 1 : Nat) : Int) = itemsP (itemsN S d) p := by
  rw [itemsN]
  simp only [pgAt_new]
  exact itemsP_grow h _

theorem halves_ok {Q : Pg → Prop} (ill : Int) {s : Sh} {d : Nat} {p : Pg} {lo hi : Option ByteArray} (h : OkPg (OkN Q s.S d) p lo hi) (hq : Pre Q p) :
    (∃ s' X, halves ill s p = (s', none) ∧ Grew ill s s' X false ∧ s'.n ≤ s.n + 2) ∨ (∃ s' X a, halves ill s p = (s', some a) ∧ Grew ill s s' X true ∧ s'.n ≤ s.n + 2 ∧ OkA (OkN Q s'.S (d + 1)) a lo hi ∧ itemsA (itemsN s'.S (d + 1)) a = itemsP (itemsN s.S d) p ∧ (a.sp = none → pgAt s'.S a.n = some p) ∧ (∀ q, a.sp = some q → 900 < (encP p).length)) := by
  unfold halves
  cases hs : (if 900 < (encP p).length then splitP p else none) with
  | none =>
    dsimp only
    rcases addS_ok ill s p with ⟨s1, e, g, hn⟩ | ⟨s1, e, g, hn⟩
    · rw [e]
      exact .inl ⟨s1, _, rfl, g, by omega⟩
    · rw [e]
      have hQ := hq.one hs
      refine .inr ⟨s1, _, _, rfl, g, by omega, ?_, ?_, fun _ => (by show pgAt s1.S _ = _; rw [g.S]; exact pgAt_new s.S p), fun q hq => by cases hq⟩
      · show OkN Q s1.S (d + 1) _ lo hi
        rw [g.S]; exact OkN.new h hQ
      · show itemsN s1.S (d + 1) _ = _
        rw [g.S]; exact items_new h
  | some q =>
    obtain ⟨a, k, b⟩ := q
    dsimp only
    have hc : 900 < (encP p).length := by
      cases Nat.decLt 900 (encP p).length with
      | isTrue h => exact h
      | isFalse h => rw [if_neg h] at hs; cases hs
    rw [if_pos hc] at hs
    have H := splitP_ok h hs
    obtain ⟨qa, qb⟩ := hq.two a k b hc hs
    rcases addS_ok ill s a with ⟨s1, e, g, hn⟩ | ⟨s1, e, g, hn⟩
    · rw [e]
      exact .inl ⟨s1, _, rfl, g, by omega⟩
    · rw [e]
      dsimp only
      rcases addS_ok ill s1 b with ⟨s2, e2, g2, hn2⟩ | ⟨s2, e2, g2, hn2⟩
      · rw [e2]
        exact .inl ⟨s2, _, rfl, g.trans g2, by omega⟩
      · rw [e2]
        have gt := g.trans g2
        have hb1 : OkPg (OkN Q s1.S d) b (some k) hi := by rw [g.S]; exact H.okb.grow _
        refine .inr ⟨s2, _, _, rfl, gt, by omega, ?_, ?_, fun hq => (by cases hq), fun _ _ => hc⟩
        · refine ⟨?_, ?_, H.fit⟩
          · rw [g2.S, g.S]; exact (OkN.new H.oka qa).grow _
          · rw [g2.S]; exact OkN.new hb1 qb
        · show itemsN s2.S (d + 1) _ ++ itemsN s2.S (d + 1) _ = _
          rw [← H.items]
          congr 1
          · rw [g2.S, g.S, items_grow _ (OkN.new H.oka qa)]
            exact items_new H.oka
          · rw [g2.S, items_new hb1, g.S]
            exact itemsP_grow H.okb _
theorem putP_ok {R : Int → Option ByteArray → Option ByteArray → Prop} {p : Pg} {lo hi : Option ByteArray} {key val : ByteArray} (h : OkPg R p lo hi) (hl : p.leaf = true) (hk : keyFit key) (hv : val.size ≤ 400) (hb : inB lo hi key) (f : Int → List KV) : OkPg R (putP p key val) lo hi ∧ itemsP f (putP p key val) = putL (itemsP f p) key val ∧ (putP p key val).leaf = true := by
  obtain ⟨lf, ks, vs, ns⟩ := p
  obtain rfl : lf = true := hl
  obtain ⟨hvl, hns⟩ := h.leaflen rfl
  have hr := good_rise h.good
  have hks := good_key_size h.good
  have hvs := good_val_size h.good
  have hvl : vs.length = ks.length := hvl
  obtain rfl : ns = [] := hns
  have hz := put_zip key val [] ks vs hvl
  have hlf : (putP ⟨true, ks, vs, []⟩ key val).leaf = true := by unfold putP; simp only [if_true]; split <;> rfl
  have hkk : (putP ⟨true, ks, vs, []⟩ key val).keys = insK ks key := by unfold putP insK; simp only [if_true]; split <;> rfl
  have hkn : (putP ⟨true, ks, vs, []⟩ key val).kids = [] := by unfold putP; simp only [if_true]; split <;> rfl
  have hf := findN_le ks key
  have hvv : (∀ s ∈ (putP ⟨true, ks, vs, []⟩ key val).vals, s.size ≤ 400) ∧ (putP ⟨true, ks, vs, []⟩ key val).vals.length = (insK ks key).length := by
    unfold putP insK
    simp only [if_true]
    split
    case isTrue hT =>
      refine ⟨fun s hs => ?_, by simp [hvl]⟩
      rcases List.mem_or_eq_of_mem_set hs with hs | rfl
      · exact hvs s hs
      · exact hv
    case isFalse hT =>
      refine ⟨fun s hs => ?_, by simp [hvl]⟩
      have hs : s ∈ vs.take (findN ks key) ++ [val] ++ vs.drop (findN ks key) := hs
      rcases List.mem_append.1 hs with hs | hs
      · rcases List.mem_append.1 hs with hs | hs
        · exact hvs s (List.mem_of_mem_take hs)
        · rw [List.mem_singleton.1 hs]; exact hv
      · exact hvs s (List.mem_of_mem_drop hs)
  refine ⟨⟨good_of ?_ ?_ hvv.1 (fun n hn => by rw [hkn] at hn; cases hn) (.inl ⟨hlf, by rw [hvv.2, hkk], hkn⟩), ?_, ?_, fun e => by rw [hlf] at e; cases e⟩, ?_, hlf⟩
  · intro s hs
    rw [hkk] at hs
    rcases (ins_mem ks key s).1 hs with rfl | hs
    · exact hk
    · exact hks s hs
  · rw [hkk]; exact ins_rise hr key
  · rw [hkk]
    exact List.length_pos_of_mem ((ins_mem ks key key).2 (.inl rfl))
  · intro s hs
    rw [hkk] at hs
    rcases (ins_mem ks key s).1 hs with rfl | hs
    · exact hb
    · exact h.bnd s hs
  · unfold itemsP
    rw [hlf]
    simp only [if_true]
    exact hz
end Go.Proofs.Ytafeddjcomeniaa
end

/- The law's shelf in memory, and its methods. Conditions: the shelf lies in memory; it has few pages and has had few calls. -/
section
namespace Go.Proofs.Ytafeddjcomeniaa
open Go.RowKit
set_option linter.unusedVariables false
set_option linter.unusedSimpArgs false

/-- The shelf's struct lies in block b, its pages' row is v; both from block B on. -/
structure ShAt (B : Nat) (w : World) (b : Nat) (ill : Int) (s : Sh) (v : Value) : Prop where
  blk : Blk w b 26 #[v, .int .i64 ill, .int .i64 s.n]
  hb : B ≤ b
  row : ∃ L : List (Array Value), w.ownsRow B 54 4 v s.S.length (L.flatMap Array.toList) ∧ L.length = s.S.length ∧ ∀ (i : Nat) cs p, L[i]? = some cs → s.S[i]? = some p → PgV w cs p
theorem flat_get : ∀ (L : List (Array Value)) (h : ∀ cs ∈ L, cs.size = 4) (i : Nat) (cs : Array Value), L[i]? = some cs → ∀ j, j < 4 → (L.flatMap Array.toList)[i * 4 + j]? = cs[j]?
  | [], _, i, cs, hi, _, _ => by simp at hi
  | a :: L, h, 0, cs, hi, j, hj => by
    cases hi
    have h1 := h a List.mem_cons_self
    rw [List.flatMap_cons, Nat.zero_mul, Nat.zero_add, List.getElem?_append_left (by rw [Array.length_toList]; omega), Array.getElem?_toList]
  | a :: L, h, i + 1, cs, hi, j, hj => by
    have h1 := h a List.mem_cons_self
    rw [List.flatMap_cons, List.getElem?_append_right (by rw [Array.length_toList]; omega), Array.length_toList, h1, show (i + 1) * 4 + j - 4 = i * 4 + j by omega]
    exact flat_get L (fun cs hc => h cs (List.mem_cons_of_mem _ hc)) i cs (by simpa using hi) j hj
theorem pgv_four {w : World} {cs : Array Value} {p : Pg} (h : PgV w cs p) : ∃ a b c d, cs = #[a, b, c, d] := by
  obtain ⟨A1, c1, A2, c2, A3, c3, rfl, _⟩ := h
  exact ⟨_, _, _, _, rfl⟩
section
variable {B b : Nat} {w w' : World} {ill : Int} {s : Sh} {v : Value}
theorem ShAt.four (h : ShAt B w b ill s v) : ∃ L : List (Array Value), w.ownsRow B 54 4 v s.S.length (L.flatMap Array.toList) ∧ L.length = s.S.length ∧ (∀ cs ∈ L, cs.size = 4) ∧ ∀ (i : Nat) cs p, L[i]? = some cs → s.S[i]? = some p → PgV w cs p := by
  obtain ⟨L, h1, h2, h3⟩ := h.row
  refine ⟨L, h1, h2, fun cs hc => ?_, h3⟩
  obtain ⟨i, hi, rfl⟩ := List.getElem_of_mem hc
  obtain ⟨a, b, c, d, e⟩ := pgv_four (h3 i _ _ (List.getElem?_eq_getElem hi) (List.getElem?_eq_getElem (h2 ▸ hi)))
  rw [e]; rfl
theorem own_heap' {n z : Nat} {T : TypeId} {xs : List Value} (h : w.ownsRow B T z v n xs) (hk : ∀ g, v.ownBlock = some g → w'.heap[g]? = w.heap[g]?) : w'.ownsRow B T z v n xs := by
  refine ⟨h.1, ?_⟩
  rcases h.2 with h2 | ⟨g, cap, cur, hv, hg, hh, r⟩
  · exact .inl h2
  · exact .inr ⟨g, cap, cur, hv, hg, (hk g (by rw [hv]; rfl)).trans hh, r⟩
theorem ShAt.later (h : ShAt B w b ill s v) (hl : Later w w') : ShAt B w' b ill s v := by
  obtain ⟨L, h1, h2, h3⟩ := h.row
  exact ⟨h.blk.below hl h.blk.lt, h.hb, L, own_heap' h1 fun g hg => (show Below _ _ _ from hl).block g (h1.lt g hg).2, h2, fun i cs p hi hp => (h3 i cs p hi hp).sm (Sm.later hl)⟩
/-- The row's block is no struct's. -/
theorem ShAt.ne (h : ShAt B w b ill s v) : v.ownBlock ≠ some b := fun e => by
  obtain ⟨L, h1, _⟩ := h.row
  rcases h1.2 with ⟨rfl, _⟩ | ⟨g, cap, cur, rfl, _, hh, _⟩
  · simp [Value.ownBlock] at e
  · have e1 : g = b := by simpa [Value.ownBlock] using e
    subst e1
    exact Blk.ne_ (t := 54) hh h.blk (by decide) rfl
/-- Blocks that are neither the struct's nor the row's are written, no texts and no numbers. -/
theorem ShAt.kept {S : Nat → Prop} (h : ShAt B w b ill s v) (hk : DKept S w w') (hm : Sm w w') (hb : ¬ S b) (hv : ∀ g, v.ownBlock = some g → ¬ S g) : ShAt B w' b ill s v := by
  obtain ⟨L, h1, h2, h3⟩ := h.row
  exact ⟨hk.blk h.blk hb, h.hb, L, own_heap' h1 fun g hg => hk.block g (h1.lt g hg).2 (hv g hg), h2, fun i cs p hi hp => (h3 i cs p hi hp).sm hm⟩
/-- The struct's numbers alone change. -/
theorem ShAt.upd {cs : Array Value} {s' : Sh} {ill' : Int} (h : ShAt B w b ill s v) (u : Upd w w' b 26 cs) (hc : cs = #[v, .int .i64 ill', .int .i64 s'.n]) (hS : s'.S = s.S) : ShAt B w' b ill' s' v := by
  obtain ⟨L, h1, h2, h3⟩ := h.row
  subst hc
  refine ⟨u.blk, h.hb, L, by rw [hS]; exact own_heap' h1 fun g hg => u.kept.block g (h1.lt g hg).2 (fun e => h.ne (e ▸ hg)), by rw [hS]; exact h2, fun i cs p hi hp => (h3 i cs p hi (by rw [← hS]; exact hp)).sm (u.sm h.blk (by decide) (by decide))⟩
end

set_option maxRecDepth 100000 in
set_option maxHeartbeats 4000000 in
theorem sick_any {B b : Nat} {w : World} {ill : Int} {s : Sh} {v : Value} (h : ShAt B w b ill s v) (hn : 0 ≤ s.n) (hn2 : s.n < 4611686018427387904) : Calls Try.prog 55 #[.pointer (some ⟨b, 0, none⟩)] w fun e w' =>
    e = .returned (.bool (s.n + 1 == ill)) ∧ ShAt B w' b ill ⟨s.S, s.n + 1⟩ v ∧ DKept (fun k => k = b) w w' ∧ Sm w w' ∧ w'.heap.size = w.heap.size := by
  have u := upd1 h.blk 2 (.int .i64 (s.n + 1))
  obtain ⟨W1, hW1⟩ : ∃ W1, W1 = w.setCell ⟨b, 2, none⟩ (.int .i64 (s.n + 1)) := ⟨_, rfl⟩
  rw [← hW1] at u
  have hs := h.upd (s' := ⟨s.S, s.n + 1⟩) u rfl rfl
  have hm := u.sm h.blk (by decide) (by decide)
  have k0 := h.blk
  have c1 : w.cell? ⟨b, 2, none⟩ = some (.int .i64 s.n) := (k0.cell 2).trans rfl
  have f1 := k0.frozen 2
  have d1 : W1.cell? ⟨b, 1, none⟩ = some (.int .i64 ill) := (u.blk.cell 1).trans rfl
  have d2 : W1.cell? ⟨b, 2, none⟩ = some (.int .i64 (s.n + 1)) := (u.blk.cell 2).trans rfl
  have HS := Lib.hid hs
  have HM := Lib.hid hm
  have HK := Lib.hid u.kept
  have HZ := Lib.hid u.size
  have HW1 := Lib.hid hW1
  generalize s.n = m at *
  clear h u hs hm k0 hW1
  go_enter Try.func55, Try.ntmps55
  go_upto_region 2 with fail
  rw [← HW1.out]
  go_quiet (fail)
  go_wp2
  go_ret
  have hl := later_drewN W1 nq
  exact ⟨rfl, HS.out.later hl, HK.out.later hl, HM.out.trans (Sm.later hl), HZ.out⟩
/-- The cells of page n in the shelf's row. -/
def RowPg (w : World) (v : Value) (n : Int) (c : Array Value) : Prop := c.size = 4 ∧ ∃ g len cap, v = .slice (some ⟨g, 0, none⟩) len cap ∧ ∀ j, j < 4 → w.cell? ⟨g, (n - 1).toNat * 4 + j, none⟩ = c[j]?
theorem RowPg.kept {w w' : World} {v : Value} {n : Int} {c : Array Value} (h : RowPg w v n c) (hk : ∀ g, v.ownBlock = some g → w'.heap[g]? = w.heap[g]?) : RowPg w' v n c := by
  obtain ⟨hc, g, len, cap, rfl, h⟩ := h
  exact ⟨hc, g, len, cap, rfl, fun j hj => (World.cell?_of_block (hk g rfl)).trans (h j hj)⟩
/-- What the shelf answers for a page. -/
def ShPage (B b : Nat) (ill : Int) (s : Sh) (v : Value) (p : Pg) (n : Int) (w : World) (e : Ending) (w' : World) : Prop :=
  ((s.n + 1 = ill ∧ e = .returned (.tuple #[.agg #[.bool false, .slice none 0 0, .slice none 0 0, .slice none 0 0], .int .i64 4])) ∨ (s.n + 1 ≠ ill ∧ ∃ cs, e = .returned (.tuple #[.agg cs, .int .i64 0]) ∧ PgV w' cs p)) ∧
    ShAt B w' b ill ⟨s.S, s.n + 1⟩ v ∧ DKept (fun k => k = b) w w' ∧ Sm w w' ∧ ∀ cs, e = .returned (.tuple #[.agg cs, .int .i64 0]) → RowPg w' v n cs
theorem DKept.upd {S : Nat → Prop} {w w1 w' : World} {g : Nat} {t : TypeId} {cs : Array Value} (h : DKept S w w1) (u : Upd w1 w' g t cs) (hg : w.heap.size ≤ g) : DKept S w w' := h.trans u.kept fun i hi e => absurd hi (by omega)
theorem ShAt.updOther {B b g : Nat} {w w' : World} {ill : Int} {s : Sh} {v : Value} {t : TypeId} {cs cs0 : Array Value} (h : ShAt B w b ill s v) (u : Upd w w' g t cs) (hb : Blk w g t cs0) (h1 : t ≠ 9) (h2 : t ≠ 27) (hne : b ≠ g) (hv : v.ownBlock ≠ some g) : ShAt B w' b ill s v :=
  h.kept u.kept (u.sm hb h1 h2) hne fun k hk e => hv (e ▸ hk)
theorem ShAt.rowlt {B b : Nat} {w : World} {ill : Int} {s : Sh} {v : Value} (h : ShAt B w b ill s v) : ∀ g, v.ownBlock = some g → B ≤ g ∧ g < w.heap.size := by
  obtain ⟨L, h1, _⟩ := h.row
  exact h1.lt
set_option maxRecDepth 100000 in
set_option maxHeartbeats 4000000 in
theorem shPage_any {B b : Nat} {w : World} {ill : Int} {s : Sh} {v : Value} {n : Int} {p : Pg} (h : ShAt B w b ill s v) (hn : 0 ≤ s.n) (hn2 : s.n < 4611686018427387904) (hp : pgAt s.S n = some p) (hl : s.S.length ≤ 100000) :
    Calls Try.prog 26 #[.pointer (some ⟨b, 0, none⟩), .int .u64 n] w (ShPage B b ill s v p n w) := by
  obtain ⟨hn1, hnl⟩ := pgAt_le hp
  obtain ⟨m, rfl⟩ : ∃ m : Nat, n = (m : Int) + 1 := ⟨(n - 1).toNat, by omega⟩
  have hpi : s.S[m]? = some p := by
    unfold pgAt at hp
    rw [if_neg (by omega), show ((m : Int) + 1).toNat - 1 = m by omega] at hp
    exact hp
  obtain ⟨W0, hW0⟩ : ∃ W0, W0 = w.alloc (.cells #[.bool false, .slice none 0 0, .slice none 0 0, .slice none 0 0] 54) := ⟨_, rfl⟩
  have hb0 : Below w.heap.size w W0 := by rw [hW0]; exact below_new _ _
  have kz : Blk W0 w.heap.size 54 #[.bool false, .slice none 0 0, .slice none 0 0, .slice none 0 0] := by rw [hW0]; exact Blk.new _ _ _
  have h0 := h.later (show Later w W0 from hb0)
  have hlb := h.blk.lt
  have CS := Lib.hid (sick_any h0 hn hn2)
  have hvl : v.ownBlock ≠ some w.heap.size := fun e => by have := (h.rowlt _ e).2; omega
  have HW0 := Lib.hid hW0
  have HKZ := Lib.hid kz
  have HB0 := Lib.hid hb0
  have HPI := Lib.hid hpi
  have HLB := Lib.hid hlb
  have HVL := Lib.hid hvl
  clear h hW0 hb0 kz h0 hlb hp hn2 hpi hvl hn
  go_enter Try.func26, Try.ntmps26
  go_wp2_with fail
  rw [← HW0.out]
  refine CS.out.mono ?_
  rintro e w1 ⟨rfl, h1, hk1, hm1, hz1⟩
  have kz1 : Blk w1 w.heap.size 54 #[.bool false, .slice none 0 0, .slice none 0 0, .slice none 0 0] := hk1.blk HKZ.out (by have := HLB.out; omega)
  have hk : DKept (fun k => k = b) w w1 := (DKept.of_below HB0.out).trans hk1 (fun _ _ h => h)
  have hm : Sm w w1 := (Sm.below HB0.out).trans hm1
  obtain ⟨z0, z1, z2, z3⟩ := cells4 kz1
  obtain ⟨f0, f1, f2, f3⟩ := frozen4 kz1
  have HZ1 := Lib.hid kz1
  have H1 := Lib.hid h1
  have HK := Lib.hid hk
  have HM := Lib.hid hm
  by_cases hi : s.n + 1 = ill
  · have e1 : (s.n + 1 == ill) = true := beq_iff_eq.2 hi
    rw [e1]
    have HI := Lib.hid hi
    have u := upd4 kz1 (.bool false) (.slice none 0 0) (.slice none 0 0) (.slice none 0 0)
    have HU := Lib.hid u
    clear CS e1 h1 hk1 hm1 hz1 kz1 hk hm hi u
    go_wp2_with fail
    refine bodyPost_ret_by (results_cs rfl _ _ w.heap.size 54 _ (0, 0) _ rfl HU.out.blk Try.underlying54 rfl (by kernel_rfl)) rfl ?_
    exact ⟨.inl ⟨HI.out, rfl⟩, H1.out.updOther HU.out HZ1.out (by decide) (by decide) (by have := HLB.out; omega) HVL.out, HK.out.upd HU.out (Nat.le_refl _), HM.out.trans (HU.out.sm HZ1.out (by decide) (by decide)), fun cs e => by injection e with e; injection e with e; cases e⟩
  · have e1 : (s.n + 1 == ill) = false := beq_eq_false_iff_ne.2 hi
    rw [e1]
    have HI := Lib.hid hi
    obtain ⟨L, ho, hL, h4, hrd⟩ := h1.four
    have hml : m < L.length := by rw [hL]; show m < s.S.length; omega
    have hpv := hrd m L[m] p (List.getElem?_eq_getElem hml) HPI.out
    have hfl := flat_get L h4 m L[m] (List.getElem?_eq_getElem hml)
    have hpv0 := hpv
    obtain ⟨A1, c1, A2, c2, A3, c3, hx, -⟩ := hpv0
    rw [hx] at hpv hfl
    unfold pgc at hpv hfl
    rcases ho.2 with ⟨rfl, hz⟩ | ⟨g, cap, cur, rfl, hg, hb, h2, h3, h5, h6⟩
    · have : s.S.length = 0 := hz
      omega
    have hb : Blk w1 g 54 cur := hb
    have hcell : ∀ j, j < 4 → w1.cell? ⟨g, m * 4 + j, none⟩ = #[.bool p.leaf, .slice A1 p.keys.length c1, .slice A2 p.vals.length c2, .slice A3 p.kids.length c3][j]? := fun j hj => by
      rw [hb.cell, ← Array.getElem?_toList, ← hfl j hj, ← h6, List.getElem?_take, if_pos (by show m * 4 + j < s.S.length * 4; omega)]
    have HRP : Hid (RowPg w1 (.slice (some ⟨g, 0, none⟩) s.S.length cap) ((m : Int) + 1) #[.bool p.leaf, .slice A1 p.keys.length c1, .slice A2 p.vals.length c2, .slice A3 p.kids.length c3]) := Lib.hid ⟨rfl, g, _, _, rfl, fun j hj => by rw [show ((m : Int) + 1 - 1).toNat = m by omega]; exact hcell j hj⟩
    have y0 : w1.cell? ⟨g, m * 4, none⟩ = some (.bool p.leaf) := hcell 0 (by omega)
    have y1 : w1.cell? ⟨g, m * 4 + 1, none⟩ = some (.slice A1 p.keys.length c1) := hcell 1 (by omega)
    have y2 : w1.cell? ⟨g, m * 4 + 2, none⟩ = some (.slice A2 p.vals.length c2) := hcell 2 (by omega)
    have y3 : w1.cell? ⟨g, m * 4 + 3, none⟩ = some (.slice A3 p.kids.length c3) := hcell 3 (by omega)
    have q0 : w1.cell? ⟨b, 0, none⟩ = some (.slice (some ⟨g, 0, none⟩) s.S.length cap) := (h1.blk.cell 0).trans rfl
    have u := upd4 kz1 (.bool p.leaf) (.slice A1 p.keys.length c1) (.slice A2 p.vals.length c2) (.slice A3 p.kids.length c3)
    have HU := Lib.hid u
    have HPV := Lib.hid hpv
    clear CS e1 h1 hk1 hm1 hz1 kz1 hk hm hi u ho hL h4 hrd hfl hx hpv hml hb hcell h2 h3 h5 h6
    generalize p.keys.length = k1 at *
    generalize p.vals.length = k2 at *
    generalize p.kids.length = k3 at *
    generalize p.leaf = lf at *
    go_wp2_with fail
    refine bodyPost_ret_by (results_cs rfl _ _ w.heap.size 54 _ (0, 0) _ rfl HU.out.blk Try.underlying54 rfl (by kernel_rfl)) rfl ?_
    exact ⟨.inr ⟨HI.out, _, rfl, HPV.out.sm (HU.out.sm HZ1.out (by decide) (by decide))⟩, H1.out.updOther HU.out HZ1.out (by decide) (by decide) (by have := HLB.out; omega) HVL.out, HK.out.upd HU.out (Nat.le_refl _), HM.out.trans (HU.out.sm HZ1.out (by decide) (by decide)), fun cs e => by injection e with e; injection e with e; cases e; exact HRP.out.kept fun g' hg' => HU.out.kept.block g' ((H1.out.rowlt g' hg').2) (fun e => HVL.out (by rw [← e]; exact hg'))⟩
end Go.Proofs.Ytafeddjcomeniaa
end

/- The law's shelf: Add. Conditions: the shelf and the page lie in memory; it has few pages and has had few calls. -/
section
namespace Go.Proofs.Ytafeddjcomeniaa
open Go.RowKit
set_option linter.unusedVariables false
set_option linter.unusedSimpArgs false

theorem cinfo_page : (Try.prog.info? 54).map (fun i => (i.zero, i.size, i.bytes)) = some (some (.agg #[.bool false, .slice none 0 0, .slice none 0 0, .slice none 0 0]), 4, 80) := by kernel_rfl
theorem addS_sick {ill : Int} {s : Sh} (p : Pg) (h : s.n + 1 = ill) : addS ill s p = (⟨s.S, s.n + 1⟩, none) := by unfold addS; rw [if_pos h]
theorem addS_well {ill : Int} {s : Sh} (p : Pg) (h : s.n + 1 ≠ ill) : addS ill s p = (⟨s.S ++ [p], s.n + 1⟩, some ((s.S.length + 1 : Nat) : Int)) := by unfold addS; rw [if_neg h]
theorem own_blk' {w : World} {B n z : Nat} {T t : TypeId} {v : Value} {xs : List Value} {cs : Array Value} {g : Nat} (h : w.ownsRow B T z v n xs) (hb : Blk w g t cs) (hT : T ≠ t) : v.ownBlock ≠ some g := fun hk => by
  rcases h.2 with ⟨rfl, _⟩ | ⟨g', cap, cur, rfl, _, hh, _⟩
  · simp [Value.ownBlock] at hk
  · have e1 : g' = g := by simpa [Value.ownBlock] using hk
    subst e1
    exact Blk.ne_ (t := T) hh hb hT rfl
/-- What the shelf answers to a page more. -/
def ShAdd (B b : Nat) (ill : Int) (s : Sh) (v : Value) (p : Pg) (w : World) (e : Ending) (w' : World) : Prop :=
  ∃ v', e = .returned (.tuple #[.int .u64 ((addS ill s p).2.getD 0), .int .i64 (if (addS ill s p).2.isSome then 0 else 4)]) ∧ ShAt B w' b ill (addS ill s p).1 v' ∧ DKept (fun k => k = b ∨ v.ownBlock = some k) w w' ∧ Sm w w' ∧ ∀ k, v'.ownBlock = some k → v.ownBlock = some k ∨ w.heap.size ≤ k
theorem ShAt.app {B b : Nat} {w w' : World} {ill : Int} {s s' : Sh} {v' : Value} {p : Pg} {cs : Array Value} {L : List (Array Value)} (hL : L.length = s.S.length) (hr : ∀ (i : Nat) cs p, L[i]? = some cs → s.S[i]? = some p → PgV w cs p) (hm : Sm w w') (hp : PgV w' cs p) (hb : Blk w' b 26 #[v', .int .i64 ill, .int .i64 s'.n]) (hB : B ≤ b) (hS : s'.S = s.S ++ [p])
    (ho : w'.ownsRow B 54 4 v' (s.S.length + 1) (L.flatMap Array.toList ++ cs.toList)) : ShAt B w' b ill s' v' := by
  refine ⟨hb, hB, L ++ [cs], ?_, by rw [hS, List.length_append, List.length_append, hL]; rfl, fun i c q hi hq => ?_⟩
  · rw [hS, List.length_append, List.length_singleton, List.flatMap_append]
    simpa using ho
  · rw [hS] at hq
    rcases Nat.lt_or_ge i L.length with h | h
    · rw [List.getElem?_append_left h] at hi
      rw [List.getElem?_append_left (by omega)] at hq
      exact (hr i c q hi hq).sm hm
    · have e : i = L.length := by
        have := (List.getElem?_eq_some_iff.1 hi).1
        simp at this
        omega
      subst e
      rw [List.getElem?_append_right (Nat.le_refl _), Nat.sub_self] at hi
      rw [List.getElem?_append_right (by omega), hL, Nat.sub_self] at hq
      cases hi; cases hq
      exact hp
set_option maxRecDepth 100000 in
set_option maxHeartbeats 4000000 in
theorem shAdd_any {B b : Nat} {w : World} {ill : Int} {s : Sh} {v : Value} {p : Pg} {cs : Array Value} (h : ShAt B w b ill s v) (hB : B ≤ w.heap.size) (hn : 0 ≤ s.n) (hn2 : s.n < 4611686018427387904) (hl : s.S.length ≤ 100000) (hp : PgV w cs p) :
    Calls Try.prog 100 #[.pointer (some ⟨b, 0, none⟩), .agg cs] w (ShAdd B b ill s v p w) := by
  obtain ⟨A1, c1, A2, c2, A3, c3, rfl, hp⟩ := hp
  unfold pgc
  obtain ⟨W0, hW0⟩ : ∃ W0, W0 = w.alloc (.cells #[.bool p.leaf, .slice A1 p.keys.length c1, .slice A2 p.vals.length c2, .slice A3 p.kids.length c3] 54) := ⟨_, rfl⟩
  have hb0 : Below w.heap.size w W0 := by rw [hW0]; exact below_new _ _
  have kz : Blk W0 w.heap.size 54 #[.bool p.leaf, .slice A1 p.keys.length c1, .slice A2 p.vals.length c2, .slice A3 p.kids.length c3] := by rw [hW0]; exact Blk.new _ _ _
  have h0 := h.later (show Later w W0 from hb0)
  have hlb := h.blk.lt
  have CS := Lib.hid (sick_any h0 hn hn2)
  have hvl : ∀ k, v.ownBlock = some k → k < w.heap.size := fun k e => (h.rowlt _ e).2
  have HW0 := Lib.hid hW0
  have HKZ := Lib.hid kz
  have HB0 := Lib.hid hb0
  have HLB := Lib.hid hlb
  have HVL := Lib.hid hvl
  have HP := Lib.hid hp
  have HBB := Lib.hid hB
  clear h hW0 hb0 kz h0 hlb hn2 hvl hn hp hB
  go_enter Try.func100, Try.ntmps100
  go_wp2_with fail
  rw [← HW0.out]
  refine CS.out.mono ?_
  rintro e w1 ⟨rfl, h1, hk1, hm1, hz1⟩
  have kz1 := hk1.blk HKZ.out (by have := HLB.out; omega)
  have hk : DKept (fun k => k = b ∨ v.ownBlock = some k) w w1 := (DKept.of_below HB0.out).trans hk1 (fun _ _ h => .inl h)
  have hm : Sm w w1 := (Sm.below HB0.out).trans hm1
  have H1 := Lib.hid h1
  have HK := Lib.hid hk
  have HM := Lib.hid hm
  by_cases hi : s.n + 1 = ill
  · have e1 : (s.n + 1 == ill) = true := beq_iff_eq.2 hi
    rw [e1]
    have FIN : Hid (ShAdd B b ill s v p w (.returned (.tuple #[.int .u64 0, .int .i64 4])) w1) := Lib.hid (by
      unfold ShAdd
      rw [addS_sick p hi]
      exact ⟨v, rfl, H1.out, HK.out, HM.out, fun k hk => .inl hk⟩)
    clear CS e1 h1 hk1 hm1 hz1 kz1 hk hm hi
    go_wp2_with fail
    go_ret2
    exact FIN.out
  · have e1 : (s.n + 1 == ill) = false := beq_eq_false_iff_ne.2 hi
    rw [e1]
    have HI := Lib.hid hi
    have hp1 := HP.out.sm HM.out
    obtain ⟨L, ho, hL, h4, hrd⟩ := h1.four
    obtain ⟨A, c, rfl⟩ := own_shape ho
    obtain ⟨i0, hi0, hz0, hz1', hz2⟩ := info_parts cinfo_page
    have hbB := h1.hb
    have hrl := h1.rowlt
    have HO := Lib.hid ho
    have HL' := Lib.hid hL
    have HRD := Lib.hid hrd
    have HP1 := Lib.hid hp1
    have HKZ1 := Lib.hid kz1
    have HBBK := Lib.hid h1.blk
    have HNE := Lib.hid h1.ne
    have HBL := Lib.hid hbB
    have HRL := Lib.hid hrl
    generalize hk1l : p.keys.length = k1 at *
    generalize hk2l : p.vals.length = k2 at *
    generalize hk3l : p.kids.length = k3 at *
    generalize hlfl : p.leaf = lf at *
    generalize hrow : L.flatMap Array.toList = row at *
    have HPG : Hid (PgV w1 #[.bool lf, .slice A1 k1 c1, .slice A2 k2 c2, .slice A3 k3 c3] p) := Lib.hid ⟨A1, c1, A2, c2, A3, c3, by unfold pgc; rw [hk1l, hk2l, hk3l, hlfl], HP1.out⟩
    have HROW := Lib.hid hrow
    clear CS e1 h1 hk1 hm1 hz1 kz1 hk hm hi ho hL h4 hrd hp1 hbB hrl hk1l hk2l hk3l hlfl hrow
    go_wp2_with fail
    have HL0 := Lib.hid (Later.refl w1)
    have ZF0 : Hid (∀ s, w1.heap.size ≤ s → w1.heap.size ≤ s) := Lib.hid (fun _ h => h)
    have ZS0 : Hid (∀ V, Later w1 V → ((fun V => V.cell? ⟨b, 0, none⟩ = some (.slice A s.S.length c) ∧ V.cell? ⟨w.heap.size, 0, none⟩ = some (.bool lf) ∧ V.cell? ⟨w.heap.size, 1, none⟩ = some (.slice A1 k1 c1) ∧ V.cell? ⟨w.heap.size, 2, none⟩ = some (.slice A2 k2 c2) ∧ V.cell? ⟨w.heap.size, 3, none⟩ = some (.slice A3 k3 c3))) V) := Lib.hid fun V h => ⟨((HBBK.out.below h HBBK.out.lt).cell 0).trans rfl, cells4 (HKZ1.out.below h HKZ1.out.lt)⟩
    refine walk_start 10 (S := (fun V => V.cell? ⟨b, 0, none⟩ = some (.slice A s.S.length c) ∧ V.cell? ⟨w.heap.size, 0, none⟩ = some (.bool lf) ∧ V.cell? ⟨w.heap.size, 1, none⟩ = some (.slice A1 k1 c1) ∧ V.cell? ⟨w.heap.size, 2, none⟩ = some (.slice A2 k2 c2) ∧ V.cell? ⟨w.heap.size, 3, none⟩ = some (.slice A3 k3 c3))) (T := Later w1) (by kernel_rfl) (fun r => w1.heap.size ≤ r) (fun _ h => h.size) ZS0.out (closed_later _) (Later.refl _).drew ?_
    refine wt 0 8 ?_ (fun V hV => ?_) ?_
    rotate_left 1
    · (clear hV; go_simp; (try with_reducible rfl))
    try simp only [pa, List.set]
    refine wt 1 9 ?_ (fun V hV => ?_) ?_
    rotate_left 1
    · (clear hV; go_simp; (try with_reducible rfl))
    try simp only [pa, List.set]
    refine wt 2 10 ?_ (fun V hV => ?_) ?_
    rotate_left 1
    · (clear hV; go_simp; (try with_reducible rfl))
    try simp only [pa, List.set]
    refine wt 3 11 ?_ (fun V hV => ?_) ?_
    rotate_left 1
    · (clear hV; go_simp; (try with_reducible rfl))
    try simp only [pa, List.set]
    refine wt 4 12 ?_ (fun V hV => ?_) ?_
    rotate_left 1
    · (obtain ⟨p0, q0, q1, q2, q3⟩ := id hV; clear hV; go_simp; (try with_reducible rfl))
    try simp only [pa, List.set]
    refine wt 5 13 ?_ (fun V hV => ?_) ?_
    rotate_left 1
    · (obtain ⟨p0, q0, q1, q2, q3⟩ := id hV; clear hV; go_simp; (try with_reducible rfl))
    try simp only [pa, List.set]
    refine walk_pend ⟨6, 14, (.cells #[.bool lf, .slice A1 k1 c1, .slice A2 k2 c2, .slice A3 k3 c3] 54), fun r => .slice (some ⟨r, 0, none⟩) 1 1⟩ ⟨_, rfl, rfl, rfl, fun W => ?_⟩ ?_
    · (go_simp; (try with_reducible rfl))
    refine walk_force (by kernel_rfl) (by kernel_rfl) (by kernel_rfl) (by kernel_rfl) (fun r6 x6 hV hr6 hB6 => ?_)
    have lt6 : r6 < x6.heap.size := (Array.getElem?_eq_some_iff.1 hr6).1
    have HL1 := Lib.hid (HL0.out.trans hV)
    have ZF1 : Hid (∀ s, x6.heap.size ≤ s → _ ∧ s ≠ r6) := Lib.hid (fun s h => ⟨ZF0.out s (Nat.le_trans hV.size h), Nat.ne_of_gt (Nat.lt_of_lt_of_le lt6 h)⟩)
    have ZS1 : Hid (∀ V, Later x6 V → ((fun V => V.cell? ⟨b, 0, none⟩ = some (.slice A s.S.length c) ∧ V.cell? ⟨w.heap.size, 0, none⟩ = some (.bool lf) ∧ V.cell? ⟨w.heap.size, 1, none⟩ = some (.slice A1 k1 c1) ∧ V.cell? ⟨w.heap.size, 2, none⟩ = some (.slice A2 k2 c2) ∧ V.cell? ⟨w.heap.size, 3, none⟩ = some (.slice A3 k3 c3))) V) := Lib.hid (fun V' h => ZS0.out V' (hV.trans h))
    refine ⟨(fun V => V.cell? ⟨b, 0, none⟩ = some (.slice A s.S.length c) ∧ V.cell? ⟨w.heap.size, 0, none⟩ = some (.bool lf) ∧ V.cell? ⟨w.heap.size, 1, none⟩ = some (.slice A1 k1 c1) ∧ V.cell? ⟨w.heap.size, 2, none⟩ = some (.slice A2 k2 c2) ∧ V.cell? ⟨w.heap.size, 3, none⟩ = some (.slice A3 k3 c3)), Later x6, Later.refl _, fun _ h => h, ZS1.out, fun V' h => ZF0.out _ (Nat.le_trans hV.size h.size), fun V' h => Nat.lt_of_lt_of_le lt6 h.size, closed_later _, ?_⟩
    try simp only [pa, List.set]
    have HT6 := Lib.hid hV
    clear hV
    refine walk_core 7 rfl (by kernel_rfl) (fun _ _ _ _ _ h => h) (fun V hV K hK => ?_)
    have hV0 := HL1.out.trans hV
    have hSV := ZS1.out V hV
    try simp only [List.getElem_toArray, List.getElem_cons_succ, List.getElem_cons_zero]
    have ho7 := own_heap' HO.out fun g hg => (show Below _ _ _ from hV0).block g (HRL.out g hg).2
    have k6 : Blk V r6 54 #[.bool lf, .slice A1 k1 c1, .slice A2 k2 c2, .slice A3 k3 c3] := Blk.below (show Blk x6 r6 _ _ from hr6) hV lt6
    have hsv : w1.heap.size ≤ V.heap.size := (show Below _ _ _ from hV0).size
    have hBv : B ≤ V.heap.size := by have := HBL.out; have := HBBK.out.lt; omega
    have hrd6 : Reads V V.heap.size 4 (some ⟨r6, 0, none⟩) 1 [.bool lf, .slice A1 k1 c1, .slice A2 k2 c2, .slice A3 k3 c3] := ⟨rfl, fun _ => ⟨_, rfl, k6.lt, fun j u hu => by
      rw [show (⟨r6, 0, none⟩ : Addr).add j = ⟨r6, j, none⟩ by unfold Addr.add; by_cases e : j = 0 <;> simp [e], k6.cell, ← Array.getElem?_toList]
      exact hu⟩⟩
    have hone6 : ∀ u ∈ [Value.bool lf, .slice A1 k1 c1, .slice A2 k2 c2, .slice A3 k3 c3], u.oneCell' = true := by
      intro u hu
      simp only [List.mem_cons, List.not_mem_nil, or_false] at hu
      rcases hu with rfl | rfl | rfl | rfl <;> rfl
    refine wp_append_any V (.tmp 12) (.tmp 14) _ rfl B 54 i0 _ 4 80 Try.underlying24 hi0 hz0 hz1' hz2 rfl (by omega) (.slice A s.S.length c) s.S.length row rfl ho7 V.heap.size _ 1 1 _ rfl hrd6 hone6 (by unfold maxLen; omega) (by omega) hBv ?_
    intro v7 x7 hown7 hg7 hat7
    have hsize := hg7.size
    have hkeep := fun (r : Nat) (hF : w1.heap.size ≤ r ∧ r ≠ r6) (hl : r < V.heap.size) => hg7.block r hl (fun e => by have := (HRL.out r e.symm).2; omega)
    obtain ⟨A7, c7, rfl⟩ := own_shape hown7
    have kb7 : Blk x7 b 26 #[.slice A s.S.length c, .int .i64 ill, .int .i64 (s.n + 1)] := (HBBK.out.below hV0 HBBK.out.lt).grown hg7 (fun e => HNE.out e.symm)
    have kp7 := (HKZ1.out.below hV0 HKZ1.out.lt).grown hg7 (fun e => by have := HVL.out _ e.symm; omega)
    have hS := fun V' (h : Later x7 V') => (show _ ∧ _ from ⟨((kb7.below h kb7.lt).cell 0).trans rfl, cells4 (kp7.below h kp7.lt)⟩ : (fun V => V.cell? ⟨b, 0, none⟩ = some (.slice A s.S.length c) ∧ V.cell? ⟨w.heap.size, 0, none⟩ = some (.bool lf) ∧ V.cell? ⟨w.heap.size, 1, none⟩ = some (.slice A1 k1 c1) ∧ V.cell? ⟨w.heap.size, 2, none⟩ = some (.slice A2 k2 c2) ∧ V.cell? ⟨w.heap.size, 3, none⟩ = some (.slice A3 k3 c3)) V')
    have hdk7 : DKept (fun k => k = b ∨ (Value.slice A s.S.length c).ownBlock = some k) w1 x7 := (DKept.of_below (show Below _ _ _ from hV0)).grown hg7 (fun k e => .inl (.inr e))
    have hsm7 : Sm w1 x7 := (Sm.later hV0).trans (Sm.kept ((DKept.refl (S := fun k => (Value.slice A s.S.length c).ownBlock = some k)).grown hg7 (fun k e => .inl e)) fun g hg => ⟨fun cs hb => own_blk' ho7 hb (by decide) hg, fun cs hb => own_blk' ho7 hb (by decide) hg⟩)
    have HDK7 := Lib.hid hdk7
    have HSM7 := Lib.hid hsm7
    have HKB7 := Lib.hid kb7
    have HO7 := Lib.hid hown7
    have HN7 : Hid (∀ k, (Value.slice A7 (s.S.length + 1) c7).ownBlock = some k → (Value.slice A s.S.length c).ownBlock = some k ∨ w1.heap.size ≤ k) := Lib.hid fun k hk => by
      rcases hat7 with e | e
      · exact .inl (e ▸ hk)
      · rw [e] at hk; injection hk with hk; exact .inr (by omega)
    clear ho7 k6 hsv hBv hrd6 hone6 hown7 hg7 hat7 kb7 kp7 hdk7 hsm7
    have ZF2 : Hid (∀ s, x7.heap.size ≤ s → _) := Lib.hid (fun s h => ZF1.out s (Nat.le_trans hV.size (Nat.le_trans hsize h)))
    have ZS2 : Hid (∀ V, Later x7 V → ((fun V => V.cell? ⟨b, 0, none⟩ = some (.slice A s.S.length c) ∧ V.cell? ⟨w.heap.size, 0, none⟩ = some (.bool lf) ∧ V.cell? ⟨w.heap.size, 1, none⟩ = some (.slice A1 k1 c1) ∧ V.cell? ⟨w.heap.size, 2, none⟩ = some (.slice A2 k2 c2) ∧ V.cell? ⟨w.heap.size, 3, none⟩ = some (.slice A3 k3 c3))) V) := Lib.hid hS
    refine hK.out _ _ ((fun V => V.cell? ⟨b, 0, none⟩ = some (.slice A s.S.length c) ∧ V.cell? ⟨w.heap.size, 0, none⟩ = some (.bool lf) ∧ V.cell? ⟨w.heap.size, 1, none⟩ = some (.slice A1 k1 c1) ∧ V.cell? ⟨w.heap.size, 2, none⟩ = some (.slice A2 k2 c2) ∧ V.cell? ⟨w.heap.size, 3, none⟩ = some (.slice A3 k3 c3))) (Later x7) _ hkeep (fun _ h _ => h) (fun _ h => h) ZS2.out (fun V' h => ZF2.out _ h.size) (Later.refl _) (closed_later _) ?_
    clear hK K hV hsize hkeep hV0 hSV hS
    try simp only [Act.put]
    try simp only [pa, List.set]
    refine wt 8 16 ?_ (fun V hV => ?_) ?_
    rotate_left 1
    · (clear hV; go_simp; (try with_reducible rfl))
    try simp only [pa, List.set]
    refine wt 9 17 ?_ (fun V hV => ?_) ?_
    rotate_left 1
    · (clear hV; go_simp; (try with_reducible rfl))
    try simp only [pa, List.set]
    refine walk_exit (fun V hV => ?_)
    have hSV := ZS2.out V hV
    try simp only [pa, List.set]
    have kb8 := HKB7.out.below hV HKB7.out.lt
    have u := upd1 kb8 0 (.slice A7 (s.S.length + 1) c7)
    obtain ⟨W8, hW8⟩ : ∃ W8, W8 = V.setCell ⟨b, 0, none⟩ (.slice A7 (s.S.length + 1) c7) := ⟨_, rfl⟩
    rw [← hW8] at u
    have hne8 : (Value.slice A7 (s.S.length + 1) c7).ownBlock ≠ some b := own_blk' HO7.out HKB7.out (by decide)
    have ho8 := own_heap' (own_heap' HO7.out fun g hg => (show Below _ _ _ from hV).block g (HO7.out.lt g hg).2) fun g hg => u.kept.block g (Nat.lt_of_lt_of_le (HO7.out.lt g hg).2 (show Below _ _ _ from hV).size) (fun e => hne8 (e ▸ hg))
    have hsm8 : Sm w1 W8 := HSM7.out.trans ((Sm.later hV).trans (u.sm kb8 (by decide) (by decide)))
    have FIN : Hid (ShAdd B b ill s (.slice A s.S.length c) p w (.returned (.tuple #[.int .u64 ((s.S.length + 1 : Nat) : Int), .int .i64 0])) W8) := Lib.hid (by
      unfold ShAdd
      rw [addS_well p HI.out]
      refine ⟨_, rfl, ShAt.app HL'.out HRD.out hsm8 (HPG.out.sm hsm8) u.blk HBL.out rfl (by rw [HROW.out]; exact ho8), ?_, HM.out.trans hsm8, fun k hk => ?_⟩
      · exact HK.out.trans (((HDK7.out.later hV)).trans u.kept (fun i _ e => .inl e)) (fun i _ e => e)
      · rcases HN7.out k hk with e | e
        · exact .inl e
        · exact .inr (by have := HK.out.size; omega))
    have c8 := kb8.cell 0
    have f8 := kb8.frozen 0
    have d8 : W8.cell? ⟨b, 0, none⟩ = some (.slice A7 (s.S.length + 1) c7) := (u.blk.cell 0).trans rfl
    have HW8 := Lib.hid hW8
    generalize s.S.length = N at *
    clear kb8 u hne8 ho8 hsm8 hW8 hV hSV
    refine wpAnyJ_one (i := 10) (by kernel_rfl) rfl (fun K hK => ?_)
    simp only [List.getElem_toArray, List.getElem_cons_succ, List.getElem_cons_zero]
    go_simp
    refine hK.out _ _ (fun h _ => absurd rfl h) ?_
    clear hK K
    try simp only [pa, List.set]
    refine wpAnyJ_done (by kernel_rfl) ?_ _
    rw [← HW8.out]
    clear c8 f8
    go_wp2_with fail
    go_ret2
    exact FIN.out
end Go.Proofs.Ytafeddjcomeniaa
end

/- page.Good answers true for a page that may be. Conditions: the page reads in memory. -/
section
namespace Go.Proofs.Ytafeddjcomeniaa
open Go.RowKit
set_option linter.unusedVariables false

theorem long_no (s : ByteArray) (w : World) (hs : s.size ≤ 400) : Calls Try.prog 56 #[.string s] w fun e w' => e = .returned (.bool false) ∧ w = w' := by
  go_enter Try.func56, Try.ntmps56
  go_wp2
  go_ret
  exact ⟨by simp; omega, rfl⟩
set_option maxHeartbeats 2000000 in
theorem indexFunc_no (w : World) (A : Option Addr) (c : Nat) (l : List ByteArray) (h : Srow w A c l) (hs : ∀ v ∈ l, v.size ≤ 400) :
    Calls Try.prog 75 #[.slice A l.length c, .func (.func 56) #[] #[]] w fun e w' => e = .returned (.int .i64 (-1)) ∧ w = w' := by
  have hm : l.length ≤ 9223372036854775807 := by have := h.le; have := h.cap; unfold maxLen at this; omega
  have HR := Lib.hid h
  have HV := Lib.hid hs
  clear h hs
  generalize hn : l.length = n at *
  have HN := Lib.hid hn
  clear hn
  go_enter Try.func75, Try.ntmps75
  go_wp2_with fail
  go_loop [8] (fun iv => ∃ j : Nat, j ≤ n ∧ iv = .int .i64 (j : Int)) (fun iv => n - (intOf iv).toNat)
  case atStart => exact ⟨0, Nat.zero_le _, rfl⟩
  case round =>
    obtain ⟨j, hj, rfl⟩ := hrel
    by_cases hlt : j < n
    · have hlt' : j < l.length := by rw [HN.out]; exact hlt
      obtain ⟨ad, rfl, _, _, hcell⟩ := HR.out.get (List.getElem?_eq_getElem hlt')
      have hc0 := hcell w (fun _ _ => id)
      have CL := Lib.hid (long_no l[j] w (HV.out _ (List.getElem_mem hlt')))
      clear hcell
      generalize l[j] = s at *
      clear hlt'
      go_wp2_with (go_at_call 56; refine CL.out.mono ?_; rintro e w' ⟨rfl, rfl⟩)
      go_round
      case rel => exact ⟨j + 1, by omega, by go_num⟩
      case measure => simp [intOf]; omega
    · go_wp2
      go_ret
      exact ⟨rfl, rfl⟩
theorem containsFunc_no (w : World) (A : Option Addr) (c : Nat) (l : List ByteArray) (h : Srow w A c l) (hs : ∀ v ∈ l, v.size ≤ 400) :
    Calls Try.prog 57 #[.slice A l.length c, .func (.func 56) #[] #[]] w fun e w' => e = .returned (.bool false) ∧ w = w' := by
  have C := Lib.hid (indexFunc_no w A c l h hs)
  clear h hs
  go_enter Try.func57, Try.ntmps57
  go_wp2_with (go_at_call 75; refine C.out.mono ?_; rintro e w' ⟨rfl, rfl⟩)
  go_ret
  exact ⟨rfl, rfl⟩
set_option maxHeartbeats 2000000 in
theorem index_no (w : World) (A : Option Addr) (c : Nat) (l : List Int) (h : Nrow w A c l) (hs : ∀ n ∈ l, n ≠ 0) :
    Calls Try.prog 76 #[.slice A l.length c, .int .u64 0] w fun e w' => e = .returned (.int .i64 (-1)) ∧ w = w' := by
  have hm : l.length ≤ 9223372036854775807 := by have := h.le; have := h.cap; unfold maxLen at this; omega
  have HR := Lib.hid h
  have HV := Lib.hid hs
  clear h hs
  generalize hn : l.length = n at *
  have HN := Lib.hid hn
  clear hn
  go_enter Try.func76, Try.ntmps76
  go_wp2_with fail
  go_loop [8] (fun iv => ∃ j : Nat, j ≤ n ∧ iv = .int .i64 (j : Int)) (fun iv => n - (intOf iv).toNat)
  case atStart => exact ⟨0, Nat.zero_le _, rfl⟩
  case round =>
    obtain ⟨j, hj, rfl⟩ := hrel
    by_cases hlt : j < n
    · have hlt' : j < l.length := by rw [HN.out]; exact hlt
      obtain ⟨ad, rfl, _, _, hcell⟩ := HR.out.get (List.getElem?_eq_getElem hlt')
      have hc0 := hcell w (fun _ _ => id)
      have hv : ((0 : Int) == l[j]) = false := beq_eq_false_iff_ne.2 (Ne.symm (HV.out _ (List.getElem_mem hlt')))
      clear hcell
      generalize l[j] = s at *
      clear hlt'
      go_wp2_with fail
      go_round
      case rel => exact ⟨j + 1, by omega, by go_num⟩
      case measure => simp [intOf]; omega
    · go_wp2
      go_ret
      exact ⟨rfl, rfl⟩
theorem contains_no (w : World) (A : Option Addr) (c : Nat) (l : List Int) (h : Nrow w A c l) (hs : ∀ n ∈ l, n ≠ 0) :
    Calls Try.prog 58 #[.slice A l.length c, .int .u64 0] w fun e w' => e = .returned (.bool false) ∧ w = w' := by
  have C := Lib.hid (index_no w A c l h hs)
  clear h hs
  go_enter Try.func58, Try.ntmps58
  go_wp2_with (go_at_call 76; refine C.out.mono ?_; rintro e w' ⟨rfl, rfl⟩)
  go_ret
  exact ⟨rfl, rfl⟩

theorem bytes_nle (a : List UInt8) : ∀ b, (Op.bytesLess a b || a == b) = !(Op.bytesLess b a) := by
  induction a with
  | nil => intro b; cases b <;> simp [Op.bytesLess]
  | cons x a ih =>
    intro b
    cases b with
    | nil => simp [Op.bytesLess]
    | cons y b =>
      have h := ih b
      have e : (x :: a == y :: b) = ((x == y) && (a == b)) := rfl
      rw [e]
      simp only [Op.bytesLess]
      rcases Nat.lt_trichotomy x.toNat y.toNat with h1 | h1 | h1
      · have a1 : x < y := h1
        have a2 : ¬ y < x := fun h2 => by have : y.toNat < x.toNat := h2; omega
        have a3 : x ≠ y := fun e => by subst e; omega
        simp [a1, a2, Ne.symm a3]
      · have a3 : x = y := UInt8.toNat_inj.1 h1
        subst a3
        have a1 : ¬ x < x := fun h2 => by have : x.toNat < x.toNat := h2; omega
        simpa [a1] using h
      · have a1 : y < x := h1
        have a2 : ¬ x < y := fun h2 => by have : x.toNat < y.toNat := h2; omega
        have a3 : x ≠ y := fun e => by subst e; omega
        simp [a1, a2, a3]
set_option maxRecDepth 100000 in
set_option maxHeartbeats 4000000 in
theorem good_yes {w : World} {A1 A2 A3 : Option Addr} {c1 c2 c3 : Nat} {p : Pg} (h : PgA w A1 c1 A2 c2 A3 c3 p) (hg : goodB p = true) (hf : p.keys.length ≤ 1000) :
    Calls Try.prog 27 #[.agg (pgc A1 c1 A2 c2 A3 c3 p)] w fun e w' => e = .returned (.bool true) ∧ Below w.heap.size w w' := by
  have hsh := good_shape hg
  have hks := good_key_size hg
  have hvs := good_val_size hg
  have hkd := good_kid hg
  have hrs := good_rise hg
  clear hg
  obtain ⟨lf, ks, vs, ns⟩ := p
  unfold pgc
  dsimp only at *
  obtain ⟨W0, hW0⟩ : ∃ W0, W0 = w.alloc (.cells #[.bool lf, .slice A1 ks.length c1, .slice A2 vs.length c2, .slice A3 ns.length c3] 54) := ⟨_, rfl⟩
  have hb0 : Below w.heap.size w W0 := by rw [hW0]; exact below_new _ _
  have kb : Blk W0 w.heap.size 54 #[.bool lf, .slice A1 ks.length c1, .slice A2 vs.length c2, .slice A3 ns.length c3] := by rw [hW0]; exact Blk.new _ _ _
  obtain ⟨b0, b1, b2, b3⟩ := cells4 kb
  have h0 := h.sm (Sm.below hb0)
  have CC := Lib.hid (containsFunc_no W0 A2 c2 vs h0.v hvs)
  have CK := Lib.hid (contains_no W0 A3 c3 ns h0.n hkd)
  have HK := Lib.hid h0.k
  have HW := Lib.hid hW0
  have HB := Lib.hid hb0
  have HKS := Lib.hid hks
  have HRS := Lib.hid hrs
  have HSH := Lib.hid hsh
  clear hW0 hb0 kb h0 h hks hvs hkd hrs hsh
  generalize hn1 : ks.length = n1 at *
  have HN1 := Lib.hid hn1
  clear hn1
  go_enter Try.func27, Try.ntmps27
  go_wp2_with fail
  rw [← HW.out]
  go_loop [9] (fun iv => ∃ j : Nat, j ≤ n1 ∧ iv = .int .i64 (j : Int)) (fun iv => n1 - (intOf iv).toNat)
  case atStart => exact ⟨0, Nat.zero_le _, rfl⟩
  case round =>
    obtain ⟨j, hj, rfl⟩ := hrel
    by_cases hlt : j < n1
    · have hlt' : j < ks.length := by rw [HN1.out]; exact hlt
      obtain ⟨ad, rfl, _, _, hcell⟩ := HK.out.get (List.getElem?_eq_getElem hlt')
      have hc0 := hcell W0 (fun _ _ => id)
      have hsz := HKS.out _ (List.getElem_mem hlt')
      by_cases a3 : j = 0
      · have g1 : decide ((0 : Int) < (j : Int)) = false := decide_eq_false (by omega)
        have g2 : decide (0 < j) = false := decide_eq_false (by omega)
        clear hcell a3
        generalize ks[j] = s at *
        obtain ⟨z1, z2⟩ := hsz
        clear hlt'
        go_wp2
        go_round
        case rel => exact ⟨j + 1, by omega, by go_num⟩
        case measure => simp [intOf]; omega
      obtain ⟨ad', he, _, _, hcell'⟩ := HK.out.get (List.getElem?_eq_getElem (show j - 1 < ks.length by omega))
      injection he with he
      subst he
      have hc1 := hcell' W0 (fun _ _ => id)
      have ej : ((j : Int) - 1).toNat = j - 1 := by omega
      have ej1 : (0 : Int) ≤ (j : Int) - 1 := by omega
      have ej2 : (j : Int) - 1 < (n1 : Int) := by omega
      have a4 : Op.bytesLess ks[j - 1].toList ks[j].toList = true := List.pairwise_iff_getElem.1 HRS.out (j - 1) j (by omega) hlt' (by omega)
      clear hcell hcell'
      generalize ks[j] = s at *
      generalize ks[j - 1] = s' at *
      have a5 := bytes_nle s.toList s'.toList
      rw [a4] at a5
      obtain ⟨a6, a7⟩ := Bool.or_eq_false_iff.1 a5
      obtain ⟨z1, z2⟩ := hsz
      clear a5 hlt'
      go_wp2
      go_round
      case rel => exact ⟨j + 1, by omega, by go_num⟩
      case measure => simp [intOf]; omega
    · rcases HSH.out with ⟨rfl, e1, e2⟩ | ⟨rfl, e1, e2⟩
      · have f1 : ((vs.length : Int) == (n1 : Int)) = true := beq_iff_eq.2 (by have := HN1.out; omega)
        have f2 : ((ns.length : Int) == 0) = true := by rw [e2]; rfl
        clear e1 e2
        go_wp2_with (go_at_call 57; refine CC.out.mono ?_; rintro e w' ⟨rfl, rfl⟩)
        go_ret
        exact ⟨rfl, HB.out⟩
      · have f1 : ((vs.length : Int) == 0) = true := by rw [e1]; rfl
        have f2 : ((ns.length : Int) == (n1 : Int) + 1) = true := beq_iff_eq.2 (by have := HN1.out; omega)
        clear e1 e2
        go_wp2_with (go_at_call 58; refine CK.out.mono ?_; rintro e w' ⟨rfl, rfl⟩)
        go_ret
        exact ⟨rfl, HB.out⟩
end Go.Proofs.Ytafeddjcomeniaa
end

/- tree.reader's page: a page read, if few enough were. Conditions: the shelf and the reader lie in memory; the page is there, and may be. -/
section
namespace Go.Proofs.Ytafeddjcomeniaa
open Go.RowKit
set_option linter.unusedVariables false
set_option linter.unusedSimpArgs false

def shV (b : Nat) : Value := .iface 23 (.pointer (some ⟨b, 0, none⟩))
theorem method_page (a : Addr) (w : World) : (method 271 23 (.pointer (some a)) "Page").run Try.prog w = .ok (26, .pointer (some a)) w := by kernel_rfl
theorem method_add (a : Addr) (w : World) : (method 271 23 (.pointer (some a)) "Add").run Try.prog w = .ok (100, .pointer (some a)) w := by kernel_rfl
/-- Types of blocks that no shelf uses. -/
structure Far (t : TypeId) : Prop where
  s : t ≠ 9
  n : t ≠ 27
  p : t ≠ 54
  h : t ≠ 26
theorem ShAt.updFar {B b g : Nat} {w w' : World} {ill : Int} {s : Sh} {v : Value} {t : TypeId} {cs cs0 : Array Value} (h : ShAt B w b ill s v) (u : Upd w w' g t cs) (hb : Blk w g t cs0) (ht : Far t) : ShAt B w' b ill s v := by
  obtain ⟨L, h1, _⟩ := h.row
  exact h.updOther u hb ht.s ht.n (h.blk.ne_ hb ht.h.symm) (own_blk' h1 hb ht.p.symm)
/-- What a reader answers. -/
def RdPost (B b : Nat) (ill : Int) (s : Sh) (v : Value) (p : Pg) (n : Int) (g : Nat) (t : TypeId) (cs : Array Value) (r : Int) (w : World) (e : Ending) (w' : World) : Prop :=
  ((s.n + 1 = ill ∧ e = .returned (.tuple #[.agg #[.bool false, .slice none 0 0, .slice none 0 0, .slice none 0 0], .int .i64 4])) ∨ (s.n + 1 ≠ ill ∧ ∃ c, e = .returned (.tuple #[.agg c, .int .i64 0]) ∧ PgV w' c p)) ∧
    ShAt B w' b ill ⟨s.S, s.n + 1⟩ v ∧ Blk w' g t (cs.setIfInBounds 1 (.int .i64 (r + 1))) ∧ DKept (fun k => k = b ∨ k = g) w w' ∧ Sm w w' ∧ ∀ c, e = .returned (.tuple #[.agg c, .int .i64 0]) → RowPg w' v n c
set_option maxRecDepth 100000 in
set_option maxHeartbeats 8000000 in
theorem rdPage_any {B b g : Nat} {w : World} {ill : Int} {s : Sh} {v : Value} {n : Int} {p : Pg} {t : TypeId} {cs : Array Value} {r : Int} {d : Int} (h : ShAt B w b ill s v) (hn : 0 ≤ s.n) (hn2 : s.n < 4611686018427387904) (hp : pgAt s.S n = some p) (hl : s.S.length ≤ 100000) (hok : Ok p)
    (hg : Blk w g t cs) (ht : Far t) (h0 : cs[0]? = some (shV b)) (h1 : cs[1]? = some (.int .i64 r)) (hr : 0 ≤ r) (hr2 : r + 1 ≤ 4096) (hd : d ≤ 20) :
    Calls Try.prog 59 #[.pointer (some ⟨g, 0, none⟩), .int .u64 n, .int .i64 d] w (RdPost B b ill s v p n g t cs r w) := by
  obtain ⟨W0, hW0⟩ : ∃ W0, W0 = w.alloc (.cells #[.bool false, .slice none 0 0, .slice none 0 0, .slice none 0 0] 54) := ⟨_, rfl⟩
  have hb0 : Below w.heap.size w W0 := by rw [hW0]; exact below_new _ _
  have kz : Blk W0 w.heap.size 54 #[.bool false, .slice none 0 0, .slice none 0 0, .slice none 0 0] := by rw [hW0]; exact Blk.new _ _ _
  have hg0 := hg.below hb0 hg.lt
  have u1 := upd1 hg0 1 (.int .i64 (r + 1))
  obtain ⟨W1, hW1⟩ : ∃ W1, W1 = W0.setCell ⟨g, 1, none⟩ (.int .i64 (r + 1)) := ⟨_, rfl⟩
  rw [← hW1] at u1
  have hs1 := (h.later (show Later w W0 from hb0)).updFar u1 hg0 ht
  have hlg := hg.lt
  have kz1 := u1.far kz (by omega)
  have CS := Lib.hid (shPage_any hs1 hn hn2 hp hl)
  have c0 : W0.cell? ⟨g, 1, none⟩ = some (.int .i64 r) := (hg0.cell 1).trans h1
  have f0 := hg0.frozen 1
  have hsz : 2 ≤ cs.size := by have := (Array.getElem?_eq_some_iff.1 h1).1; omega
  have d0 : W1.cell? ⟨g, 0, none⟩ = some (shV b) := by rw [u1.blk.cell 0, Array.getElem?_setIfInBounds_ne (by omega)]; exact h0
  have d1 : W1.cell? ⟨g, 1, none⟩ = some (.int .i64 (r + 1)) := by rw [u1.blk.cell 1, Array.getElem?_setIfInBounds_self]; rw [if_pos (by omega)]
  have hk1 : DKept (fun k => k = b ∨ k = g) w W1 := (DKept.of_below hb0).trans u1.kept (fun i _ e => .inr e)
  have hm1 : Sm w W1 := (Sm.below hb0).trans (u1.sm hg0 ht.s ht.n)
  have HW0 := Lib.hid hW0
  have HW1 := Lib.hid hW1
  have HZ1 := Lib.hid kz1
  have HG1 := Lib.hid u1.blk
  have HK1 := Lib.hid hk1
  have HM1 := Lib.hid hm1
  have HNB : Hid (g ≠ b) := Lib.hid (h.blk.ne_ hg ht.h.symm).symm
  have HLB := Lib.hid h.blk.lt
  have HLG := Lib.hid hlg
  have HVL : Hid (v.ownBlock ≠ some w.heap.size) := Lib.hid fun e => by have := (h.rowlt _ e).2; omega
  have HOK := Lib.hid hok
  clear hW0 hb0 kz hg0 u1 hW1 hs1 kz1 hsz hk1 hm1 h0 h1 h hg hok hp hn hn2 hl
  go_enter Try.func59, Try.ntmps59
  go_upto_region 1 with fail
  rw [← HW0.out]
  go_upto_region 2 with fail
  rw [← HW1.out]
  unfold shV at d0
  have hmet := fun w => method_page ⟨b, 0, none⟩ w
  go_wp2_with fail
  refine CS.out.mono ?_
  rintro e w2 ⟨hd2, h2, hk2, hm2, hrp⟩
  have hk : DKept (fun k => k = b ∨ k = g) w w2 := HK1.out.trans hk2 (fun i _ e => .inl e)
  have hm := HM1.out.trans hm2
  have kz2 := hk2.blk HZ1.out (by have := HLB.out; omega)
  have hg2 := hk2.blk HG1.out HNB.out
  have H2 := Lib.hid h2
  have HK := Lib.hid hk
  have HM := Lib.hid hm
  have HZ2 := Lib.hid kz2
  have HG2 := Lib.hid hg2
  have HRP := Lib.hid hrp
  have HRL := Lib.hid H2.out.rowlt
  clear hrp CS c0 f0 d0 d1 h2 hk2 hm2 hk hm hg2
  rcases hd2 with ⟨hi, rfl⟩ | ⟨hi, c, rfl, hc⟩
  · have HI := Lib.hid hi
    obtain ⟨W3, hW3⟩ : ∃ W3, W3 = w2.alloc (.cells #[.bool false, .slice none 0 0, .slice none 0 0, .slice none 0 0] 54) := ⟨_, rfl⟩
    have hl3 : Later w2 W3 := by rw [hW3]; exact below_new _ _
    have kp3 : Blk W3 w2.heap.size 54 #[.bool false, .slice none 0 0, .slice none 0 0, .slice none 0 0] := by rw [hW3]; exact Blk.new _ _ _
    have kz3 := kz2.below hl3 kz2.lt
    have hnz : w.heap.size ≠ w2.heap.size := by have := kz2.lt; omega
    have HW3 := Lib.hid hW3
    have HL3 := Lib.hid hl3
    have HKP := Lib.hid kp3
    have HKZ := Lib.hid kz3
    obtain ⟨q0, q1, q2, q3⟩ := cells4 kp3
    obtain ⟨z0, z1, z2, z3⟩ := cells4 kz3
    obtain ⟨f0, f1, f2, f3⟩ := frozen4 kz3
    have u := upd4 kz3 (.bool false) (.slice none 0 0) (.slice none 0 0) (.slice none 0 0)
    have HU := Lib.hid u
    clear hW3 hl3 kp3 kz3 kz2 hi u
    go_upto_region 5 with fail
    rw [← HW3.out]
    go_wp2_with fail
    refine bodyPost_ret_by (results_cs rfl _ _ w.heap.size 54 _ (0, 0) _ rfl HU.out.blk Try.underlying54 rfl (by kernel_rfl)) rfl ?_
    have hsm := (Sm.later HL3.out).trans (HU.out.sm HKZ.out (by decide) (by decide))
    have h3 := H2.out.later HL3.out
    exact ⟨.inl ⟨HI.out, rfl⟩, h3.updOther HU.out HKZ.out (by decide) (by decide) (by have := HLB.out; omega) HVL.out, HU.out.far (HG2.out.below HL3.out HG2.out.lt) (by have := HLG.out; omega), (HK.out.later HL3.out).upd HU.out (Nat.le_refl _), HM.out.trans hsm, fun c e => by injection e with e; injection e with e; cases e⟩
  · obtain ⟨A1, c1, A2, c2, A3, c3, rfl, hpa⟩ := hc
    have HI := Lib.hid hi
    have HPA := Lib.hid hpa
    unfold pgc
    obtain ⟨W3, hW3⟩ : ∃ W3, W3 = w2.alloc (.cells #[.bool p.leaf, .slice A1 p.keys.length c1, .slice A2 p.vals.length c2, .slice A3 p.kids.length c3] 54) := ⟨_, rfl⟩
    have hl3 : Later w2 W3 := by rw [hW3]; exact below_new _ _
    have kp3 : Blk W3 w2.heap.size 54 #[.bool p.leaf, .slice A1 p.keys.length c1, .slice A2 p.vals.length c2, .slice A3 p.kids.length c3] := by rw [hW3]; exact Blk.new _ _ _
    have kz3 := kz2.below hl3 kz2.lt
    have hnz : w.heap.size ≠ w2.heap.size := by have := kz2.lt; omega
    have HW3 := Lib.hid hW3
    have HL3 := Lib.hid hl3
    have HKP := Lib.hid kp3
    have HKZ := Lib.hid kz3
    obtain ⟨q0, q1, q2, q3⟩ := cells4 kp3
    obtain ⟨z0, z1, z2, z3⟩ := cells4 kz3
    obtain ⟨f0, f1, f2, f3⟩ := frozen4 kz3
    have CG := good_yes (hpa.sm (Sm.later hl3)) HOK.out.good HOK.out.few
    unfold pgc at CG
    have CG := Lib.hid CG
    clear hW3 hl3 kp3 kz3 kz2 hi hpa z0 z1 z2 z3 f0 f1 f2 f3
    go_upto_region 5 with fail
    rw [← HW3.out]
    go_wp2_with fail
    refine CG.out.mono ?_
    rintro e w4 ⟨rfl, hl4⟩
    have kp4 := HKP.out.below hl4 HKP.out.lt
    have kz4 := HKZ.out.below hl4 HKZ.out.lt
    obtain ⟨y0, y1, y2, y3⟩ := cells4 kp4
    obtain ⟨z0, z1, z2, z3⟩ := cells4 kz4
    obtain ⟨f0, f1, f2, f3⟩ := frozen4 kz4
    have u := upd4 kz4 (.bool p.leaf) (.slice A1 p.keys.length c1) (.slice A2 p.vals.length c2) (.slice A3 p.kids.length c3)
    have HU := Lib.hid u
    have HKZ4 := Lib.hid kz4
    have HL4 : Hid (Later w2 w4) := Lib.hid (HL3.out.trans hl4)
    clear kp4 kz4 u hl4 CG q0 q1 q2 q3
    generalize hk1 : p.keys.length = k1 at *
    generalize hk2 : p.vals.length = k2 at *
    generalize hk3 : p.kids.length = k3 at *
    generalize hlf : p.leaf = lf at *
    have HE := Lib.hid (And.intro hk1 (And.intro hk2 (And.intro hk3 hlf)))
    clear hk1 hk2 hk3 hlf
    go_wp2_with fail
    refine bodyPost_ret_by (results_cs rfl _ _ w.heap.size 54 _ (0, 0) _ rfl HU.out.blk Try.underlying54 rfl (by kernel_rfl)) rfl ?_
    have hsm := (Sm.later HL4.out).trans (HU.out.sm HKZ4.out (by decide) (by decide))
    have h3 := H2.out.later HL4.out
    obtain ⟨e1, e2, e3, e4⟩ := HE.out
    exact ⟨.inr ⟨HI.out, _, rfl, A1, c1, A2, c2, A3, c3, by unfold pgc; rw [e1, e2, e3, e4], HPA.out.sm hsm⟩, h3.updOther HU.out HKZ4.out (by decide) (by decide) (by have := HLB.out; omega) HVL.out, HU.out.far (HG2.out.below HL4.out HG2.out.lt) (by have := HLG.out; omega), (HK.out.later HL4.out).upd HU.out (Nat.le_refl _), HM.out.trans hsm, fun c e => by
      injection e with e; injection e with e; cases e
      have := (HRP.out _ rfl).kept (fun g' hg' => (show Below _ _ _ from HL4.out).block g' (HRL.out g' hg').2)
      unfold pgc at this
      rw [e1, e2, e3, e4] at this
      exact this.kept fun g' hg' => HU.out.kept.block g' (by have := (HRL.out g' hg').2; have := (show Below _ _ _ from HL4.out).size; omega) (fun e => HVL.out (by rw [← e]; exact hg'))⟩
end Go.Proofs.Ytafeddjcomeniaa
end

/- A search by halves, in plain Lean: where it ends. Conditions: none. -/
section
namespace Go.Proofs.Ytafeddjcomeniaa
/-- Where a search by halves ends. -/
def bs (p : Nat → Bool) (lo hi : Nat) : Nat :=
  if lo < hi then (if p ((lo + hi) / 2) then bs p lo ((lo + hi) / 2) else bs p ((lo + hi) / 2 + 1) hi) else lo
termination_by hi - lo
theorem bs_end (p : Nat → Bool) {lo hi : Nat} (h : ¬ lo < hi) : bs p lo hi = lo := by rw [bs, if_neg h]
theorem bs_yes (p : Nat → Bool) {lo hi : Nat} (h : lo < hi) (hp : p ((lo + hi) / 2) = true) : bs p lo hi = bs p lo ((lo + hi) / 2) := by rw [bs, if_pos h, if_pos hp]
theorem bs_no (p : Nat → Bool) {lo hi : Nat} (h : lo < hi) (hp : p ((lo + hi) / 2) = false) : bs p lo hi = bs p ((lo + hi) / 2 + 1) hi := by rw [bs, if_pos h, if_neg (by rw [hp]; simp)]

/-- It stops at the first place that says yes, if those behind it say yes too. -/
theorem bs_first (p : Nat → Bool) (k n : Nat) (h1 : ∀ i, i < k → p i = false) (h2 : ∀ i, k ≤ i → i < n → p i = true) (d : Nat) : ∀ lo hi, hi - lo ≤ d → lo ≤ k → k ≤ hi → hi ≤ n → bs p lo hi = k := by
  induction d with
  | zero => intro lo hi hd a b c; rw [bs_end p (by omega)]; omega
  | succ d ih =>
    intro lo hi hd a b c
    by_cases h : lo < hi
    · cases hp : p ((lo + hi) / 2) with
      | true =>
        rw [bs_yes p h hp]
        have : k ≤ (lo + hi) / 2 := by
          rcases Nat.lt_or_ge ((lo + hi) / 2) k with hk | hk
          · rw [h1 _ hk] at hp; cases hp
          · exact hk
        exact ih _ _ (by omega) a this (by omega)
      | false =>
        rw [bs_no p h hp]
        have : (lo + hi) / 2 < k := by
          rcases Nat.lt_or_ge ((lo + hi) / 2) k with hk | hk
          · exact hk
          · rw [h2 _ hk (by omega)] at hp; cases hp
        exact ih _ _ (by omega) (by omega) b c
    · rw [bs_end p h]; omega

end Go.Proofs.Ytafeddjcomeniaa
end

/- sort.Search, sort.SearchStrings, page.Find and page.Kid. Conditions: the row or the page reads in memory; few keys; they rise. -/
section
namespace Go.Proofs.Ytafeddjcomeniaa
open Go.RowKit
set_option linter.unusedVariables false
set_option linter.unusedSimpArgs false

set_option maxHeartbeats 4000000 in
set_option maxRecDepth 1000000 in
theorem search_any (g : Nat) (cb : Array Value) (n : Nat) (p : Nat → Bool) (w : World) (eg : ∀ args w, (callFunc g args).run Try.prog w = .ok (.enter g args) w) (hn : n < 1152921504606846976)
    (hf : ∀ (m i : Nat), i < n → Calls Try.prog g (#[.int .i64 i] ++ cb) (w.drewN m) fun e w' => e = .returned (.bool (p i)) ∧ ∃ q, w' = w.drewN q) :
    Calls Try.prog 80 #[.int .i64 n, .func (.func g) #[] cb] w fun e w' => e = .returned (.int .i64 (bs p 0 n : Nat)) ∧ ∃ q, w' = w.drewN q := by
  have HF := Lib.hid hf
  obtain ⟨r, hr⟩ : ∃ r, r = bs p 0 n := ⟨_, rfl⟩
  rw [← hr]
  have HR := Lib.hid hr
  clear hf hr
  go_enter Try.func80, Try.ntmps80
  go_wp2_with fail
  go_loopg [5, 6] n (fun kx s5 s6 wr => ∃ (lo hi q : Nat), s5 = .int .i64 lo ∧ s6 = .int .i64 hi ∧ lo ≤ hi ∧ hi ≤ n ∧ hi - lo ≤ kx ∧ wr = w.drewN q ∧ Hid (r = bs p lo hi))
  case atStart => exact ⟨0, n, 0, rfl, rfl, Nat.zero_le _, Nat.le_refl _, by omega, rfl, HR⟩
  case round =>
    obtain ⟨lo, hi, q, rfl, rfl, hlh, hin, hg, rfl, I⟩ := hrel
    by_cases hlt : lo < hi
    · have hc := HF.out q ((lo + hi) / 2) (by omega)
      rw [show (((lo + hi) / 2 : Nat) : Int) = ((lo : Int) + (hi : Int)) / 2 by omega] at hc
      cases hp : p ((lo + hi) / 2) <;> rw [hp] at hc
      · have I2 : Hid (r = bs p ((lo + hi) / 2 + 1) hi) := Lib.hid (by rw [I.out, bs_no p hlt hp])
        have HC := Lib.hid hc
        clear hp hc
        go_wp2_with (go_at_fn g; refine HC.out.mono ?_; rintro e w' ⟨rfl, nq, rfl⟩)
        go_roundg (hi - ((lo + hi) / 2 + 1))
        case measure => omega
        case rel => exact ⟨(lo + hi) / 2 + 1, hi, nq, by rw [show ((lo : Int) + (hi : Int)) / 2 + 1 = (((lo + hi) / 2 + 1 : Nat) : Int) by omega], rfl, by omega, hin, Nat.le_refl _, rfl, I2⟩
      · have I2 : Hid (r = bs p lo ((lo + hi) / 2)) := Lib.hid (by rw [I.out, bs_yes p hlt hp])
        have HC := Lib.hid hc
        clear hp hc
        go_wp2_with (go_at_fn g; refine HC.out.mono ?_; rintro e w' ⟨rfl, nq, rfl⟩)
        go_roundg ((lo + hi) / 2 - lo)
        case measure => omega
        case rel => exact ⟨lo, (lo + hi) / 2, nq, rfl, by rw [show ((lo : Int) + (hi : Int)) / 2 = (((lo + hi) / 2 : Nat) : Int) by omega], by omega, by omega, Nat.le_refl _, rfl, I2⟩
    · obtain rfl : hi = lo := by omega
      have e : r = hi := by rw [I.out, bs_end p (Nat.lt_irrefl _)]
      subst e
      clear I HR
      go_wp2
      go_ret
      exact ⟨rfl, _, rfl⟩

set_option maxHeartbeats 2000000 in
theorem closure_any (ba bx cap : Nat) (A : Option Addr) (l : List ByteArray) (x : ByteArray) (i : Nat) (W : World) (hi : i < l.length)
    (ha : W.cell? ⟨ba, 0, none⟩ = some (.slice A l.length cap)) (hx : W.cell? ⟨bx, 0, none⟩ = some (.string x)) (hc : Srow W A cap l) :
    Calls Try.prog 81 (#[.int .i64 i] ++ #[.pointer (some ⟨ba, 0, none⟩), .pointer (some ⟨bx, 0, none⟩)]) W fun e w' => e = .returned (.bool (!(Op.bytesLess (l.getD i ByteArray.empty).toList x.toList))) ∧ ∃ q, w' = W.drewN q := by
  obtain ⟨ad, rfl, _, _, hg⟩ := hc.get (getD_some ByteArray.empty hi)
  have hcell := hg W (fun _ _ => id)
  generalize l.getD i ByteArray.empty = y at *
  generalize l.length = n at *
  have hiz : (i : Int) < (n : Int) := by omega
  clear hc hg
  go_enter Try.func81, Try.ntmps81
  go_wp2_with fail
  go_region
  all_goals go_wp2
  all_goals go_ret
  all_goals exact ⟨by first | rfl | simp, 1, rfl⟩
theorem bs_find {ks : List ByteArray} (h : Rise ks) (key : ByteArray) : bs (fun i => !(Op.bytesLess (ks.getD i ByteArray.empty).toList key.toList)) 0 ks.length = findN ks key := by
  refine bs_first (fun i => !(lessB (ks.getD i ByteArray.empty) key)) (findN ks key) ks.length (fun i hi => ?_) (fun i hi hj => ?_) ks.length 0 ks.length (by omega) (Nat.zero_le _) (findN_le _ _) (Nat.le_refl _)
  · have := findN_before key ks i hi
    simp only [this]; rfl
  · have := findN_behind h key hi hj
    simp only [this]; rfl
set_option maxHeartbeats 2000000 in
theorem searchStrings_any {w : World} {A : Option Addr} {c : Nat} {l : List ByteArray} (key : ByteArray) (h : Srow w A c l) (hn : l.length ≤ 1000) (hr : Rise l) :
    Calls Try.prog 68 #[.slice A l.length c, .string key] w fun e w' => e = .returned (.int .i64 (findN l key : Nat)) ∧ Below w.heap.size w w' := by
  obtain ⟨W0, hW0⟩ : ∃ W0, W0 = (w.alloc (.cells #[.slice A l.length c] 52)).alloc (.cells #[.string key] 9) := ⟨_, rfl⟩
  have hb0 : Below w.heap.size w W0 := by rw [hW0]; exact (below_new _ _).alloc (by simp) _
  have k1 : Blk W0 w.heap.size 52 #[.slice A l.length c] := by rw [hW0]; exact (Blk.new _ _ _).alloc _
  have k2 : Blk W0 (w.heap.size + 1) 9 #[.string key] := by rw [hW0]; have := Blk.new (w.alloc (.cells #[.slice A l.length c] 52)) 9 #[.string key]; simpa using this
  have ca : W0.cell? ⟨w.heap.size, 0, none⟩ = some (.slice A l.length c) := (k1.cell 0).trans rfl
  have cx : W0.cell? ⟨w.heap.size + 1, 0, none⟩ = some (.string key) := (k2.cell 0).trans rfl
  have hC0 := h.smS (Sm.below hb0)
  have eg : ∀ args w, (callFunc 81 args).run Try.prog w = .ok (.enter 81 args) w := enters_of Try.func81 (by kernel_rfl) rfl
  have hS := search_any 81 #[.pointer (some ⟨w.heap.size, 0, none⟩), .pointer (some ⟨w.heap.size + 1, 0, none⟩)] l.length (fun i => !(Op.bytesLess (l.getD i ByteArray.empty).toList key.toList)) W0 eg (by omega)
    (fun m i hi => (closure_any w.heap.size (w.heap.size + 1) c A l key i (W0.drewN m) hi ca cx (hC0.keep fun g cs => fun h => h.drewN m)).mono fun _ _ ⟨he, q, hq⟩ => ⟨he, m + q, by rw [hq, World.drewN_drewN]⟩)
  rw [bs_find hr] at hS
  have HS := Lib.hid hS
  have HW := Lib.hid hW0
  have HB := Lib.hid hb0
  clear hS hW0 hb0 k1 k2 ca cx hC0 h eg hr
  generalize findN l key = r at *
  generalize l.length = n at *
  go_enter Try.func68, Try.ntmps68
  go_wp2_with (go_at_call 80; rw [← HW.out]; refine HS.out.mono ?_; rintro e w' ⟨rfl, q, rfl⟩)
  go_ret
  exact ⟨rfl, HB.out.trans (below_drewN HB.out.size q)⟩
section
variable {w : World} {A1 A2 A3 : Option Addr} {c1 c2 c3 : Nat} {p : Pg}
set_option maxRecDepth 100000 in
set_option maxHeartbeats 8000000 in
theorem find_a (key : ByteArray) (h : PgA w A1 c1 A2 c2 A3 c3 p) (hf : p.keys.length ≤ 1000) (hr : Rise p.keys) : Calls Try.prog 38 #[.agg (pgc A1 c1 A2 c2 A3 c3 p), .string key] w fun e w' => e = .returned (.tuple #[.int .i64 (findN p.keys key : Nat), .bool (thereB p.keys key)]) ∧ Below w.heap.size w w' := by
  obtain ⟨lf, ks, vs, ns⟩ := p
  unfold pgc
  dsimp only at *
  obtain ⟨W0, hW0⟩ : ∃ W0, W0 = w.alloc (.cells #[.bool lf, .slice A1 ks.length c1, .slice A2 vs.length c2, .slice A3 ns.length c3] 54) := ⟨_, rfl⟩
  have hb0 : Below w.heap.size w W0 := by rw [hW0]; exact (Below.refl _ _).alloc (Nat.le_refl _) _
  have hk0 : Blk W0 w.heap.size 54 #[.bool lf, .slice A1 ks.length c1, .slice A2 vs.length c2, .slice A3 ns.length c3] := by rw [hW0]; exact Blk.new _ _ _
  have hkf : ks.length ≤ 1000 := hf
  have h0 := h.sm (Sm.below hb0)
  have CS := searchStrings_any key h0.k hkf hr
  have hle := findN_le ks key
  have hth : thereB ks key = (decide (findN ks key < ks.length) && ((ks.getD (findN ks key) ByteArray.empty).toList == key.toList)) := rfl
  generalize findN ks key = f at *
  generalize thereB ks key = th at *
  have SP : Hid (∀ V, Later W0 V → V.cell? ⟨w.heap.size, 1, none⟩ = some (.slice A1 ks.length c1)) := Lib.hid fun V hV => (cells4 (hk0.below hV hk0.lt)).2.1
  have HK := Lib.hid h0.k
  have HB0 := Lib.hid hb0
  have HW0 := Lib.hid hW0
  have CS := Lib.hid CS
  have HTH := Lib.hid hth
  have q1 := SP.out W0 (Later.refl _)
  clear h hf hr hW0 hb0 hk0 h0 hth
  go_enter Try.func38, Try.ntmps38
  go_wp2_with fail
  rw [← HW0.out]
  refine CS.out.mono ?_
  rintro e w1 ⟨rfl, hb1⟩
  have H1 : Hid (Later W0 w1) := Lib.hid hb1
  clear hb1 q1 CS HW0
  by_cases hlt : f < ks.length
  · obtain ⟨ad, rfl, _, _, hc0⟩ := HK.out.get (getD_some ByteArray.empty hlt)
    have hc : ∀ V, Later W0 V → V.cell? (ad.add f) = some (.string (ks.getD f ByteArray.empty)) := fun V hV => hc0 V (fun g cs => ((Sm.later hV) g cs).1)
    clear hc0
    have i0 : (0 : Int) ≤ (f : Int) := by omega
    have i1 : (f : Int) < (ks.length : Int) := by omega
    have HTT : Hid (th = ((ks.getD f ByteArray.empty).toList == key.toList)) := Lib.hid (by rw [HTH.out, decide_eq_true hlt, Bool.true_and])
    have HC : Hid (∀ V, Later W0 V → V.cell? (ad.add f) = some (.string (ks.getD f ByteArray.empty))) := Lib.hid hc
    generalize ks.getD f ByteArray.empty = z at *
    clear hc HTH
    go_upto_region 2 with fail
    have HL0 := Lib.hid (Later.refl w1)
    have ZF0 : Hid (∀ s, w1.heap.size ≤ s → w1.heap.size ≤ s) := Lib.hid (fun _ h => h)
    have ZS0 : Hid (∀ V, Later w1 V → (Later w1) V) := Lib.hid (fun _ h => h)
    refine walk_start 17 (S := Later w1) (T := Later w1) (by kernel_rfl) (fun r => w1.heap.size ≤ r) (fun _ h => h.size) ZS0.out (closed_later _) (Later.refl _).drew ?_
    refine wt 0 11 ?_ (fun V hV => ?_) ?_
    rotate_left 1
    · (clear hV; go_simp; (try with_reducible rfl))
    try simp only [pa, List.set]
    refine wt 1 12 ?_ (fun V hV => ?_) ?_
    rotate_left 1
    · (clear hV; go_simp; (try with_reducible rfl))
    try simp only [pa, List.set]
    refine wt 2 13 ?_ (fun V hV => ?_) ?_
    rotate_left 1
    · (clear hV; go_simp; (try with_reducible rfl))
    try simp only [pa, List.set]
    refine wt 3 14 ?_ (fun V hV => ?_) ?_
    rotate_left 1
    · (have q1 := SP.out V (H1.out.trans (HL0.out.trans hV)); have q2 := HC.out V (H1.out.trans (HL0.out.trans hV)); clear hV; go_simp; (try with_reducible rfl))
    try simp only [pa, List.set]
    refine wt 4 15 ?_ (fun V hV => ?_) ?_
    rotate_left 1
    · (clear hV; go_simp; (try with_reducible rfl))
    try simp only [pa, List.set]
    refine wt 5 16 ?_ (fun V hV => ?_) ?_
    rotate_left 1
    · (clear hV; go_simp; (try with_reducible rfl))
    try simp only [pa, List.set]
    refine wt 6 17 ?_ (fun V hV => ?_) ?_
    rotate_left 1
    · (clear hV; go_simp; (try with_reducible rfl))
    try simp only [pa, List.set]
    refine wt 7 18 ?_ (fun V hV => ?_) ?_
    rotate_left 1
    · (clear hV; go_simp; (try with_reducible rfl))
    try simp only [pa, List.set]
    refine wt 8 19 ?_ (fun V hV => ?_) ?_
    rotate_left 1
    · (have q1 := SP.out V (H1.out.trans (HL0.out.trans hV)); have q2 := HC.out V (H1.out.trans (HL0.out.trans hV)); clear hV; go_simp; (try with_reducible rfl))
    try simp only [pa, List.set]
    refine wt 9 20 ?_ (fun V hV => ?_) ?_
    rotate_left 1
    · (clear hV; go_simp; (try with_reducible rfl))
    try simp only [pa, List.set]
    refine wt 10 21 ?_ (fun V hV => ?_) ?_
    rotate_left 1
    · (clear hV; go_simp; (try with_reducible rfl))
    try simp only [pa, List.set]
    refine wt 11 22 ?_ (fun V hV => ?_) ?_
    rotate_left 1
    · (have q1 := SP.out V (H1.out.trans (HL0.out.trans hV)); have q2 := HC.out V (H1.out.trans (HL0.out.trans hV)); clear hV; go_simp; (try with_reducible rfl))
    try simp only [pa, List.set]
    refine wt 12 23 ?_ (fun V hV => ?_) ?_
    rotate_left 1
    · (clear hV; go_simp; (try with_reducible rfl))
    try simp only [pa, List.set]
    refine wt 13 24 ?_ (fun V hV => ?_) ?_
    rotate_left 1
    · (clear hV; go_simp; (try with_reducible rfl))
    try simp only [pa, List.set]
    refine wt 14 25 ?_ (fun V hV => ?_) ?_
    rotate_left 1
    · (clear hV; go_simp; (try with_reducible rfl))
    try simp only [pa, List.set]
    refine wt 15 4 ?_ (fun V hV => ?_) ?_
    rotate_left 1
    · (clear hV; go_simp; (try with_reducible rfl))
    try simp only [pa, List.set]
    refine wt 16 5 ?_ (fun V hV => ?_) ?_
    rotate_left 1
    · (clear hV; go_simp; (try with_reducible rfl))
    try simp only [pa, List.set]
    refine walk_exit (fun V hV => wpAnyJ_done (by kernel_rfl) ?_ _)
    have hV0 := HL0.out.trans hV
    have HZ := Lib.hid ((HB0.out.trans ((show Below _ _ _ from H1.out.trans hV0).mono HB0.out.size)))
    clear hV hV0
    have ht := HTT.out
    go_wp2_with fail
    refine bodyPost_ret (v := .tuple #[.int .i64 (f : Int), .bool (z.toList == key.toList)]) (by simp [results, Try.results38, go_sem]) rfl ⟨by rw [ht], HZ.out⟩
  · have hle : f = ks.length := by omega
    have HTT : Hid (th = false) := Lib.hid (by rw [HTH.out, decide_eq_false hlt, Bool.false_and])
    have g1 : decide ((f : Int) < (ks.length : Int)) = false := decide_eq_false (by omega)
    clear HTH
    go_upto_region 2 with fail
    have HL0 := Lib.hid (Later.refl w1)
    have ZF0 : Hid (∀ s, w1.heap.size ≤ s → w1.heap.size ≤ s) := Lib.hid (fun _ h => h)
    have ZS0 : Hid (∀ V, Later w1 V → (Later w1) V) := Lib.hid (fun _ h => h)
    refine walk_start 17 (S := Later w1) (T := Later w1) (by kernel_rfl) (fun r => w1.heap.size ≤ r) (fun _ h => h.size) ZS0.out (closed_later _) (Later.refl _).drew ?_
    refine wt 0 11 ?_ (fun V hV => ?_) ?_
    rotate_left 1
    · (clear hV; go_simp; (try with_reducible rfl))
    try simp only [pa, List.set]
    refine wt 1 12 ?_ (fun V hV => ?_) ?_
    rotate_left 1
    · (clear hV; go_simp; (try with_reducible rfl))
    try simp only [pa, List.set]
    refine wt 2 13 ?_ (fun V hV => ?_) ?_
    rotate_left 1
    · (clear hV; go_simp; (try with_reducible rfl))
    try simp only [pa, List.set]
    refine wt 3 14 ?_ (fun V hV => ?_) ?_
    rotate_left 1
    · (have q1 := SP.out V (H1.out.trans (HL0.out.trans hV)); clear hV; go_simp; (try with_reducible rfl))
    try simp only [pa, List.set]
    refine wt 4 15 ?_ (fun V hV => ?_) ?_
    rotate_left 1
    · (clear hV; go_simp; (try with_reducible rfl))
    try simp only [pa, List.set]
    refine wt 5 16 ?_ (fun V hV => ?_) ?_
    rotate_left 1
    · (clear hV; go_simp; (try with_reducible rfl))
    try simp only [pa, List.set]
    refine wt 6 17 ?_ (fun V hV => ?_) ?_
    rotate_left 1
    · (clear hV; go_simp; (try with_reducible rfl))
    try simp only [pa, List.set]
    refine ws 7 18 ?_
    try simp only [pa, List.set]
    refine ws 8 19 ?_
    try simp only [pa, List.set]
    refine ws 9 20 ?_
    try simp only [pa, List.set]
    refine ws 10 21 ?_
    try simp only [pa, List.set]
    refine ws 11 22 ?_
    try simp only [pa, List.set]
    refine ws 12 23 ?_
    try simp only [pa, List.set]
    refine ws 13 24 ?_
    try simp only [pa, List.set]
    refine wt 14 25 ?_ (fun V hV => ?_) ?_
    rotate_left 1
    · (clear hV; go_simp; (try with_reducible rfl))
    try simp only [pa, List.set]
    refine wt 15 4 ?_ (fun V hV => ?_) ?_
    rotate_left 1
    · (clear hV; go_simp; (try with_reducible rfl))
    try simp only [pa, List.set]
    refine wt 16 5 ?_ (fun V hV => ?_) ?_
    rotate_left 1
    · (clear hV; go_simp; (try with_reducible rfl))
    try simp only [pa, List.set]
    refine walk_exit (fun V hV => wpAnyJ_done (by kernel_rfl) ?_ _)
    have hV0 := HL0.out.trans hV
    have HZ := Lib.hid ((HB0.out.trans ((show Below _ _ _ from H1.out.trans hV0).mono HB0.out.size)))
    clear hV hV0
    have ht := HTT.out
    go_wp2_with fail
    refine bodyPost_ret (v := .tuple #[.int .i64 (f : Int), .bool false]) (by simp [results, Try.results38, go_sem, hle]) rfl ⟨by rw [ht], HZ.out⟩
set_option maxRecDepth 100000 in
set_option maxHeartbeats 8000000 in
theorem kid_a (key : ByteArray) (h : PgA w A1 c1 A2 c2 A3 c3 p) (hf : p.keys.length ≤ 1000) (hr : Rise p.keys) : Calls Try.prog 60 #[.agg (pgc A1 c1 A2 c2 A3 c3 p), .string key] w fun e w' => e = .returned (.int .i64 (kidN p key : Nat)) ∧ Below w.heap.size w w' := by
  obtain ⟨lf, ks, vs, ns⟩ := p
  obtain ⟨W0, hW0⟩ : ∃ W0, W0 = w.alloc (.cells #[.bool lf, .slice A1 ks.length c1, .slice A2 vs.length c2, .slice A3 ns.length c3] 54) := ⟨_, rfl⟩
  have hb0 : Below w.heap.size w W0 := by rw [hW0]; exact (Below.refl _ _).alloc (Nat.le_refl _) _
  have hk0 : Blk W0 w.heap.size 54 #[.bool lf, .slice A1 ks.length c1, .slice A2 vs.length c2, .slice A3 ns.length c3] := by rw [hW0]; exact Blk.new _ _ _
  have CF := find_a key (h.sm (Sm.below hb0)) hf hr
  have hkf : ks.length ≤ 1000 := hf
  have hle := findN_le ks key
  have hkd : kidN ⟨lf, ks, vs, ns⟩ key = if lf then 0 else if thereB ks key then findN ks key + 1 else findN ks key := rfl
  rw [hkd]
  unfold pgc at *
  dsimp only at *
  generalize findN ks key = f at *
  generalize thereB ks key = th at *
  obtain ⟨q0, q1, q2, q3⟩ := cells4 hk0
  have HB0 := Lib.hid hb0
  have HW0 := Lib.hid hW0
  have CF := Lib.hid CF
  clear h hf hr hW0 hb0 hk0 hkd
  cases lf with
  | true =>
    go_enter Try.func60, Try.ntmps60
    go_wp2_with fail
    rw [← HW0.out]
    go_ret
    exact ⟨rfl, HB0.out⟩
  | false =>
    go_enter Try.func60, Try.ntmps60
    go_wp2_with fail
    rw [← HW0.out]
    refine CF.out.mono ?_
    rintro e w1 ⟨rfl, hb1⟩
    have HZ := Lib.hid (HB0.out.trans (hb1.mono HB0.out.size))
    clear hb1 CF
    cases th with
    | true =>
      go_wp2_with fail
      go_ret
      exact ⟨by go_num, HZ.out⟩
    | false =>
      go_wp2_with fail
      go_ret
      exact ⟨rfl, HZ.out⟩
end
theorem find_v {w : World} {cs : Array Value} {p : Pg} (key : ByteArray) (h : PgV w cs p) (ho : Ok p) : Calls Try.prog 38 #[.agg cs, .string key] w fun e w' => e = .returned (.tuple #[.int .i64 (findN p.keys key : Nat), .bool (thereB p.keys key)]) ∧ Below w.heap.size w w' := by
  obtain ⟨A1, c1, A2, c2, A3, c3, rfl, h⟩ := h
  exact find_a key h ho.few (good_rise ho.good)
end Go.Proofs.Ytafeddjcomeniaa
end

/- A key put into a good tree: it is good, its items are as they must. Plain Lean. No program here. Conditions: none. -/
section
namespace Go.Proofs.Ytafeddjcomeniaa
open Go

theorem putU_le2 {u : Nat} (h : u ≤ 16383) : (putU u).length ≤ 2 := by
  rw [putU]
  split
  · simp
  · rw [List.length_cons, putU]
    split
    · simp
    · omega
theorem putU_le1 {u : Nat} (h : u ≤ 127) : (putU u).length ≤ 1 := by
  rw [putU]
  split
  · simp
  · omega
theorem encK_41 : ∀ (ks : List ByteArray), (∀ s ∈ ks, 1 ≤ s.size ∧ s.size ≤ 40) → (encK ks).length ≤ 41 * ks.length
  | [], _ => by simp [encK]
  | k :: ks, h => by
    have ih := encK_41 ks fun s hs => h s (List.mem_cons_of_mem _ hs)
    have hk := h k List.mem_cons_self
    have e : encK (k :: ks) = putS k ++ encK ks := by simp [encK]
    rw [e, List.length_append, putS_len, List.length_cons]
    have := putU_le1 (u := k.size) (by omega)
    omega
theorem encN_2 : ∀ (ns : List Int), (∀ n ∈ ns, n ≤ 16383) → (encN ns).length ≤ 2 * ns.length
  | [], _ => by simp [encN]
  | n :: ns, h => by
    have ih := encN_2 ns fun s hs => h s (List.mem_cons_of_mem _ hs)
    have hk := h n List.mem_cons_self
    have e : encN (n :: ns) = putU n.toNat ++ encN ns := by simp [encN]
    rw [e, List.length_append, List.length_cons]
    have := putU_le2 (u := n.toNat) (by omega)
    omega
/-- A branch of few keys is no great page. -/
theorem branch_few {p : Pg} (hg : goodB p = true) (hl : p.leaf = false) (hn : ∀ n ∈ p.kids, n ≤ 16383) (hk : p.keys.length ≤ 20) : (encP p).length ≤ 900 := by
  have h1 := encK_41 p.keys (good_key_size hg)
  have h2 := encN_2 p.kids hn
  have h3 := putU_le1 (u := p.keys.length) (by omega)
  have h4 : p.kids.length = p.keys.length + 1 := by
    rcases good_shape hg with ⟨a, _⟩ | ⟨_, _, c⟩
    · rw [hl] at a; cases a
    · exact c
  unfold encP encB
  rw [hl]
  simp only [Bool.false_eq_true, if_false, List.length_cons, List.length_append]
  omega

/-- The keys of a number's page, a leaf's as if they were twenty. -/
def rk (S : List Pg) (n : Int) : Nat := match pgAt S n with | none => 0 | some p => if p.leaf then 20 else p.keys.length
theorem ok_le {Q : Pg → Prop} {S : List Pg} {d : Nat} {n : Int} {lo hi : Option ByteArray} (h : OkN Q S d n lo hi) : 1 ≤ n ∧ n ≤ S.length := by
  cases d with
  | zero => exact h.elim
  | succ d =>
    obtain ⟨p, h1, _⟩ := h
    exact pgAt_le h1
theorem okA_le {Q : Pg → Prop} {S : List Pg} {d : Nat} {a : Added} {lo hi : Option ByteArray} (h : OkA (OkN Q S d) a lo hi) : a.n ≤ S.length ∧ ∀ k o, a.sp = some (k, o) → o ≤ S.length := by
  obtain ⟨n, sp⟩ := a
  cases sp with
  | none => exact ⟨(ok_le (show OkN Q S d n lo hi from h)).2, fun k o e => by cases e⟩
  | some q =>
    obtain ⟨k, o⟩ := q
    obtain ⟨h1, h2, _⟩ : OkN Q S d n lo (some k) ∧ OkN Q S d o (some k) hi ∧ keyFit k := h
    exact ⟨(ok_le h1).2, fun k' o' e => by cases e; exact (ok_le h2).2⟩
theorem kids_le {Q : Pg → Prop} {S : List Pg} {d : Nat} {p : Pg} {lo hi : Option ByteArray} (h : OkPg (OkN Q S d) p lo hi) : ∀ n ∈ p.kids, n ≤ S.length := fun n hn => by
  cases hl : p.leaf with
  | true => rw [(h.leaflen hl).2] at hn; cases hn
  | false =>
    obtain ⟨i, hi'⟩ := kids_mem hn
    exact (ok_le (h.kids hl i n hi')).2
theorem updP_keys (p : Pg) (i : Nat) (a : Added) (hi : i ≤ p.keys.length) : (updP p i a).keys.length ≤ p.keys.length + 1 := by
  unfold updP
  cases a.sp with
  | none => show p.keys.length ≤ _; omega
  | some q =>
    show (p.keys.take i ++ [q.1] ++ p.keys.drop i).length ≤ _
    simp only [List.length_append, List.length_take, List.length_drop, List.length_singleton]
    omega
/-- The kid where a key belongs: it is there, good; what is beside it lies below or above. -/
theorem kid_there {Q : Pg → Prop} {S : List Pg} {d : Nat} {p : Pg} {lo hi : Option ByteArray} {key : ByteArray} (h : OkPg (OkN Q S d) p lo hi) (hl : p.leaf = false) (hb : inB lo hi key) : p.kids[kidN p key]? = some (p.kids.getD (kidN p key) 0) ∧ kidN p key ≤ p.keys.length ∧ OkN Q S d (p.kids.getD (kidN p key) 0) (loI p.keys (kidN p key) lo) (hiI p.keys (kidN p key) hi) ∧ inB (loI p.keys (kidN p key) lo) (hiI p.keys (kidN p key) hi) key ∧ (∀ x ∈ (p.kids.take (kidN p key)).flatMap (itemsN S d), lessB x.1 key = true) ∧ (∀ x ∈ (p.kids.drop (kidN p key + 1)).flatMap (itemsN S d), lessB key x.1 = true) := by
  have hr := good_rise h.good
  obtain ⟨hv, hk⟩ := h.kidlen hl
  obtain ⟨h0, h1, h2⟩ := kidN_get hr hl key
  have hlt : kidN p key < p.kids.length := by omega
  have e : p.kids[kidN p key]? = some (p.kids.getD (kidN p key) 0) := by rw [List.getD_eq_getElem?_getD, List.getElem?_eq_getElem hlt]; rfl
  have hbk := inB_of_kid (p := p) hr hl hb
  refine ⟨e, h0, h.kids hl _ _ e, hbk, fun x hx => ?_, fun x hx => ?_⟩
  · obtain ⟨n, hn, hx⟩ := List.mem_flatMap.mp hx
    obtain ⟨j, hj, rfl⟩ := List.getElem_of_mem hn
    rw [List.length_take] at hj
    have ej : p.kids[j]? = some (p.kids.take (kidN p key))[j] := by rw [List.getElem_take]; exact List.getElem?_eq_getElem (by omega)
    exact kids_apart hr (show j < kidN p key by omega) h0 (items_bnd (h.kids hl j _ ej) x hx) hbk
  · obtain ⟨n, hn, hx⟩ := List.mem_flatMap.mp hx
    obtain ⟨j, hj, rfl⟩ := List.getElem_of_mem hn
    rw [List.length_drop] at hj
    have ej : p.kids[kidN p key + 1 + j]? = some (p.kids.drop (kidN p key + 1))[j] := by rw [List.getElem_drop]; exact List.getElem?_eq_getElem (by omega)
    exact kids_apart hr (show kidN p key < kidN p key + 1 + j by omega) (by omega) hbk (items_bnd (h.kids hl _ _ ej) x hx)

structure PutOk (Q : Pg → Prop) (ill : Int) (key val : ByteArray) (d : Nat) (n : Int) (lo hi : Option ByteArray) (s s' : Sh) (X : List Pg) (a : Added) : Prop where
  grew : Grew ill s s' X true
  cost : s'.n ≤ s.n + 2 * d
  ok : OkA (OkN Q s'.S d) a lo hi
  items : itemsA (itemsN s'.S d) a = putL (itemsN s.S d n) key val
  flat : a.sp = none → rk s'.S a.n ≤ rk s.S n + 1
  tall : ∀ q, a.sp = some q → 20 ≤ rk s.S n

theorem putW_ok {Q : Pg → Prop} (ill M : Int) {key val : ByteArray} (hk : keyFit key) (hv : val.size ≤ 400) (hM : M ≤ 16383)
    (hQl : ∀ p, Q p → goodB p = true → p.leaf = true → 1 ≤ p.keys.length → p.keys.length ≤ 126 → Pre Q (putP p key val))
    (hQb : ∀ p i a, Q p → goodB p = true → p.leaf = false → i ≤ p.keys.length → goodB (updP p i a) = true → (∀ n ∈ p.kids, n ≤ M) → (∀ n ∈ (updP p i a).kids, n ≤ M) → Pre Q (updP p i a)) :
    ∀ (d : Nat) (n : Int) (lo hi : Option ByteArray) (s : Sh), OkN Q s.S d n lo hi → inB lo hi key → (itemsN s.S d n).length ≤ 126 → s.S.length + 2 * d ≤ M →
      (∃ x xs, wayN s.S d n key = x :: xs ∧ xs.length + 1 ≤ d) ∧ ((∃ s' X, putW ill key val (wayN s.S d n key) s = (s', none) ∧ Grew ill s s' X false ∧ s'.n ≤ s.n + 2 * d) ∨ (∃ s' X a, putW ill key val (wayN s.S d n key) s = (s', some a) ∧ PutOk Q ill key val d n lo hi s s' X a)) := by
  intro d
  induction d with
  | zero => intro n lo hi s h; exact h.elim
  | succ d ih =>
    intro n lo hi s h hb hit hlen
    obtain ⟨p, hp, hq, hpg⟩ := h
    have eway : wayN s.S (d + 1) n key = (p, kidN p key) :: if p.leaf then [] else wayN s.S d (p.kids.getD (kidN p key) 0) key := by rw [wayN]; simp only [hp]
    have eit : itemsN s.S (d + 1) n = itemsP (itemsN s.S d) p := by rw [itemsN]; simp only [hp]
    rw [eway]
    rw [eit] at hit
    cases hl : p.leaf with
    | true =>
      simp only [if_true]
      refine ⟨⟨_, _, rfl, by simp⟩, ?_⟩
      obtain ⟨ho, hi', hlf⟩ := putP_ok hpg hl hk hv hb (itemsN s.S d)
      have hkl : p.keys.length ≤ 126 := by
        unfold itemsP at hit
        rw [hl] at hit
        simp only [if_true, List.length_zip] at hit
        have := (hpg.leaflen hl).1
        omega
      have erk : rk s.S n = 20 := by unfold rk; rw [hp]; simp only [hl, if_true]
      have eW : putW ill key val [(p, kidN p key)] s = halves ill s (putP p key val) := rfl
      rw [eW]
      rcases halves_ok ill ho (hQl p hq hpg.good hl hpg.ne hkl) with ⟨s', X, e, g, hc⟩ | ⟨s', X, a, e, g, hc, hoa, hia, hsp, hgr⟩
      · exact .inl ⟨s', X, e, g, by omega⟩
      · refine .inr ⟨s', X, a, e, g, by omega, hoa, by rw [hia, hi', eit], fun hs => ?_, fun q hq => by rw [erk]; exact Nat.le_refl _⟩
        have : rk s'.S a.n = 20 := by unfold rk; rw [hsp hs]; simp only [hlf, if_true]
        omega
    | false =>
      simp only [Bool.false_eq_true, if_false]
      obtain ⟨e0, h0, hok, hbk, hA, hC⟩ := kid_there hpg hl hb
      have hki : kidN p key < p.kids.length := by have := (hpg.kidlen hl).2; omega
      have eitems := kid_items (f := itemsN s.S d) hl e0
      have hik : (itemsN s.S d (p.kids.getD (kidN p key) 0)).length ≤ 126 := by
        rw [eitems] at hit
        simp only [List.length_append] at hit
        omega
      obtain ⟨⟨x, xs, hx, hxl⟩, hR⟩ := ih _ _ _ s hok hbk hik (by omega)
      refine ⟨⟨_, _, rfl, by rw [hx, List.length_cons]; omega⟩, ?_⟩
      have eW : putW ill key val ((p, kidN p key) :: wayN s.S d (p.kids.getD (kidN p key) 0) key) s = match putW ill key val (wayN s.S d (p.kids.getD (kidN p key) 0) key) s with
          | (s1, none) => (s1, none)
          | (s1, some a) => halves ill s1 (updP p (kidN p key) a) := by rw [hx]; rfl
      rw [eW]
      rcases hR with ⟨s1, X, e, g, hc⟩ | ⟨s1, X, a, e, H⟩
      · rw [e]
        exact .inl ⟨s1, X, rfl, g, by omega⟩
      · rw [e]
        dsimp only
        have hpg1 : OkPg (OkN Q s1.S d) p lo hi := by rw [H.grew.S]; exact hpg.grow _
        have hu := updP_ok hpg1 hl h0 H.ok
        have hlen1 : s1.S.length ≤ M := by
          rw [H.grew.S, List.length_append]
          have := H.grew.len
          have := H.cost
          omega
        have hku : ∀ m ∈ (updP p (kidN p key) a).kids, m ≤ M := fun m hm => by have := kids_le hu m hm; omega
        have hpre := hQb p (kidN p key) a hq hpg.good hl h0 hu.good (fun m hm => by have := kids_le hpg m hm; omega) hku
        have eui : itemsP (itemsN s1.S d) (updP p (kidN p key) a) = putL (itemsP (itemsN s.S d) p) key val := by
          rw [updP_items hki, H.items, eitems]
          have t1 : (p.kids.take (kidN p key)).flatMap (itemsN s1.S d) = (p.kids.take (kidN p key)).flatMap (itemsN s.S d) :=
            congrArg List.flatten (List.map_congr_left fun m hm => by
              obtain ⟨j, hj⟩ := kids_mem (List.mem_of_mem_take hm)
              rw [H.grew.S]; exact items_grow _ (hpg.kids hl j m hj))
          have t2 : (p.kids.drop (kidN p key + 1)).flatMap (itemsN s1.S d) = (p.kids.drop (kidN p key + 1)).flatMap (itemsN s.S d) :=
            congrArg List.flatten (List.map_congr_left fun m hm => by
              obtain ⟨j, hj⟩ := kids_mem (List.mem_of_mem_drop hm)
              rw [H.grew.S]; exact items_grow _ (hpg.kids hl j m hj))
          rw [t1, t2, putL_ahead val hC, putL_behind val _ hA]
        have erk : rk s.S n = p.keys.length := by unfold rk; rw [hp]; simp only [hl, Bool.false_eq_true, if_false]
        have huk := updP_keys p (kidN p key) a h0
        rcases halves_ok ill hu hpre with ⟨s2, Y, e2, g2, hc2⟩ | ⟨s2, Y, b, e2, g2, hc2, hoa, hia, hsp, hgr⟩
        · exact .inl ⟨s2, X ++ Y, e2, H.grew.trans g2, by have := H.cost; omega⟩
        · refine .inr ⟨s2, X ++ Y, b, e2, H.grew.trans g2, by have := H.cost; omega, hoa, by rw [hia, eui, eit], fun hs => ?_, fun q hq => ?_⟩
          · have : rk s2.S b.n = (updP p (kidN p key) a).keys.length := by unfold rk; rw [hsp hs]; simp only [updP_leaf, Bool.false_eq_true, if_false]
            omega
          · have h900 := hgr q hq
            rw [erk]
            rcases Nat.lt_or_ge p.keys.length 20 with c | c
            · have := branch_few hu.good (updP_leaf _ _ _) (fun m hm => by have := hku m hm; omega) (by omega)
              omega
            · exact c
end Go.Proofs.Ytafeddjcomeniaa
end

/- A key dropped from a good tree. Plain Lean. No program here. Conditions: none. -/
section
namespace Go.Proofs.Ytafeddjcomeniaa
open Go

/-- A branch without its kid i. -/
def lessP (p : Pg) (i : Nat) : Pg := ⟨false, p.keys.take (i - 1) ++ p.keys.drop (i - 1 + 1), [], p.kids.take i ++ p.kids.drop (i + 1)⟩
def turnW (ill : Int) (s : Sh) (p : Pg) (i : Nat) (n : Int) : Sh × Option Int :=
  if n = 0 then
    if (lessP p i).kids.length = 1 then (s, some ((lessP p i).kids.getD 0 0)) else addS ill s (lessP p i)
  else addS ill s ⟨false, p.keys, [], p.kids.set i n⟩
def dropW (ill : Int) (key : ByteArray) : List (Pg × Nat) → Sh → Sh × Option Int
  | [], s => (s, none)
  | (p, i) :: rest, s =>
    match rest with
    | [] => if 1 < p.keys.length then addS ill s (dropP p key) else (s, some 0)
    | _ :: _ =>
      match dropW ill key rest s with
      | (s1, none) => (s1, none)
      | (s1, some n) => turnW ill s1 p i n

def LoLe (lo' lo : Option ByteArray) : Prop := ∀ l', lo' = some l' → ∃ l, lo = some l ∧ lessB l l' = false
def HiLe (hi hi' : Option ByteArray) : Prop := ∀ h', hi' = some h' → ∃ h, hi = some h ∧ lessB h' h = false
theorem LoLe.refl (l : Option ByteArray) : LoLe l l := fun x h => ⟨x, h, lessB_irrefl x⟩
theorem HiLe.refl (l : Option ByteArray) : HiLe l l := fun x h => ⟨x, h, lessB_irrefl x⟩
theorem inB.widen {lo hi lo' hi' : Option ByteArray} {k : ByteArray} (h : inB lo hi k) (h1 : LoLe lo' lo) (h2 : HiLe hi hi') : inB lo' hi' k := by
  refine ⟨fun l' hl => ?_, fun u' hu => ?_⟩
  · obtain ⟨l, e, hle⟩ := h1 l' hl
    exact le_le hle (h.1 l e)
  · obtain ⟨u, e, hle⟩ := h2 u' hu
    exact lt_le (h.2 u e) hle
theorem OkN.widen {Q : Pg → Prop} {S : List Pg} : ∀ {d : Nat} {n : Int} {lo hi lo' hi' : Option ByteArray}, OkN Q S d n lo hi → LoLe lo' lo → HiLe hi hi' → OkN Q S d n lo' hi'
  | 0, _, _, _, _, _, h, _, _ => h.elim
  | _ + 1, _, lo, hi, lo', hi', ⟨p, h1, h2, h3⟩, hl, hh => ⟨p, h1, h2, h3.good, h3.ne, fun k hk => (h3.bnd k hk).widen hl hh, fun hlf i n hn => by
    refine OkN.widen (h3.kids hlf i n hn) ?_ ?_
    · cases i with
      | zero => exact hl
      | succ i => exact LoLe.refl _
    · unfold hiI
      cases p.keys[i]? with
      | some k => exact HiLe.refl _
      | none => exact hh⟩
theorem erase_get {α : Type} (l : List α) {i : Nat} (hi : i ≤ l.length) (j : Nat) : (l.take i ++ l.drop (i + 1))[j]? = if j < i then l[j]? else l[j + 1]? := by
  rw [List.getElem?_append]
  have e : (l.take i).length = i := by rw [List.length_take]; omega
  rw [e]
  split
  case isTrue h => rw [List.getElem?_take, if_pos h]
  case isFalse h =>
    rw [List.getElem?_drop]
    congr 1
    omega
theorem mem_erase {α : Type} {l : List α} {i : Nat} {x : α} (h : x ∈ l.take i ++ l.drop (i + 1)) : x ∈ l := by
  rcases List.mem_append.1 h with h | h
  · exact List.mem_of_mem_take h
  · exact List.mem_of_mem_drop h

/-- A kid less: the others are as good, within wider bounds. -/
theorem less_kids {Q : Pg → Prop} {S : List Pg} {d : Nat} {p : Pg} {lo hi : Option ByteArray} {i : Nat} (h : OkPg (OkN Q S d) p lo hi) (hl : p.leaf = false) (hi' : i ≤ p.keys.length) : ∀ (j : Nat) (n : Int), (lessP p i).kids[j]? = some n → OkN Q S d n (loI (lessP p i).keys j lo) (hiI (lessP p i).keys j hi) := by
  intro j n hj
  have hr := good_rise h.good
  have hkl := (h.kidlen hl).2
  have hne := h.ne
  have hj : (p.kids.take i ++ p.kids.drop (i + 1))[j]? = some n := hj
  rw [erase_get _ (by omega)] at hj
  have gk : ∀ m, (lessP p i).keys[m]? = if m < i - 1 then p.keys[m]? else p.keys[m + 1]? := fun m => erase_get _ (by omega) m
  cases i with
  | zero =>
    rw [if_neg (show ¬ j < 0 by omega)] at hj
    have gk' : ∀ m, (lessP p 0).keys[m]? = p.keys[m + 1]? := fun m => by rw [gk m, if_neg (show ¬ m < 0 - 1 by omega)]
    refine (h.kids hl (j + 1) n hj).widen ?_ ?_
    · cases j with
      | zero =>
        intro l' e
        have hlt : 0 < p.keys.length := by omega
        exact ⟨p.keys[0], List.getElem?_eq_getElem hlt, (h.bnd _ (List.getElem_mem hlt)).1 l' e⟩
      | succ j =>
        have : loI (lessP p 0).keys (j + 1) lo = loI p.keys (j + 1 + 1) lo := gk' j
        rw [this]; exact LoLe.refl _
    · have : hiI (lessP p 0).keys j hi = hiI p.keys (j + 1) hi := by unfold hiI; rw [gk' j]
      rw [this]; exact HiLe.refl _
  | succ m =>
    have gk' : ∀ t, (lessP p (m + 1)).keys[t]? = if t < m then p.keys[t]? else p.keys[t + 1]? := gk
    have hm : m < p.keys.length := by omega
    by_cases c : j < m + 1
    · rw [if_pos c] at hj
      refine (h.kids hl j n hj).widen ?_ ?_
      · cases j with
        | zero => exact LoLe.refl _
        | succ t =>
          have : loI (lessP p (m + 1)).keys (t + 1) lo = loI p.keys (t + 1) lo := (gk' t).trans (if_pos (show t < m by omega))
          rw [this]; exact LoLe.refl _
      · by_cases c2 : j < m
        · have : hiI (lessP p (m + 1)).keys j hi = hiI p.keys j hi := by unfold hiI; rw [gk' j, if_pos c2]
          rw [this]; exact HiLe.refl _
        · obtain rfl : j = m := by omega
          rw [hiI_lt hm]
          intro u hu
          refine ⟨p.keys[j], rfl, ?_⟩
          have e : hiI (lessP p (j + 1)).keys j hi = hiI p.keys (j + 1) hi := by unfold hiI; rw [gk' j, if_neg (Nat.lt_irrefl j)]
          rw [e] at hu
          unfold hiI at hu
          cases e2 : p.keys[j + 1]? with
          | none =>
            rw [e2] at hu
            exact lt_ge ((h.bnd _ (List.getElem_mem hm)).2 u hu)
          | some k =>
            rw [e2] at hu
            cases hu
            exact lt_ge (rise_get hr (Nat.lt_succ_self j) (List.getElem?_eq_getElem hm) e2)
    · rw [if_neg c] at hj
      obtain ⟨t, rfl⟩ : ∃ t, j = t + 1 := ⟨j - 1, by omega⟩
      have e1 : loI (lessP p (m + 1)).keys (t + 1) lo = loI p.keys (t + 1 + 1) lo := (gk' t).trans (if_neg (show ¬ t < m by omega))
      have e2 : hiI (lessP p (m + 1)).keys (t + 1) hi = hiI p.keys (t + 1 + 1) hi := by unfold hiI; rw [gk' (t + 1), if_neg (show ¬ t + 1 < m by omega)]
      rw [e1, e2]
      exact h.kids hl _ n hj
theorem less_len {p : Pg} {i : Nat} (hk : p.kids.length = p.keys.length + 1) (hne : 1 ≤ p.keys.length) (hi' : i ≤ p.keys.length) : (lessP p i).keys.length = p.keys.length - 1 ∧ (lessP p i).kids.length = p.keys.length := by
  refine ⟨?_, ?_⟩
  · show (p.keys.take (i - 1) ++ p.keys.drop (i - 1 + 1)).length = _
    rw [List.length_append, List.length_take, List.length_drop]; omega
  · show (p.kids.take i ++ p.kids.drop (i + 1)).length = _
    rw [List.length_append, List.length_take, List.length_drop]; omega
theorem less_ok {Q : Pg → Prop} {S : List Pg} {d : Nat} {p : Pg} {lo hi : Option ByteArray} {i : Nat} (h : OkPg (OkN Q S d) p lo hi) (hl : p.leaf = false) (hi' : i ≤ p.keys.length) (h2 : 2 ≤ p.keys.length) : OkPg (OkN Q S d) (lessP p i) lo hi := by
  obtain ⟨hv, hk⟩ := h.kidlen hl
  obtain ⟨l1, l2⟩ := less_len hk h.ne hi'
  have hks := good_key_size h.good
  have hkn := good_kid h.good
  refine ⟨good_of (fun s hs => hks s (mem_erase hs)) ?_ (fun s hs => by cases hs) (fun n hn => hkn n (mem_erase hn)) (.inr ⟨rfl, rfl, by rw [l1, l2]; omega⟩), by rw [l1]; omega, fun k hk => h.bnd k (mem_erase hk), fun _ => less_kids h hl hi'⟩
  have hr := good_rise h.good
  unfold Rise at hr ⊢
  have : p.keys = p.keys.take (i - 1) ++ p.keys.drop (i - 1) := (List.take_append_drop _ _).symm
  rw [this] at hr
  refine hr.sublist ?_
  refine List.Sublist.append (List.Sublist.refl _) ?_
  rw [show p.keys.drop (i - 1 + 1) = (p.keys.drop (i - 1)).drop 1 by rw [List.drop_drop]]
  exact List.drop_sublist _ _
theorem less_items {f : Int → List KV} (p : Pg) (i : Nat) : itemsP f (lessP p i) = (p.kids.take i).flatMap f ++ (p.kids.drop (i + 1)).flatMap f := by
  show (p.kids.take i ++ p.kids.drop (i + 1)).flatMap f = _
  rw [List.flatMap_append]
end Go.Proofs.Ytafeddjcomeniaa
end

/- A key dropped along its way. Plain Lean. No program here. Conditions: none. -/
section
namespace Go.Proofs.Ytafeddjcomeniaa
open Go

structure DropOk (Q : Pg → Prop) (ill : Int) (key : ByteArray) (d : Nat) (n : Int) (lo hi : Option ByteArray) (s s' : Sh) (X : List Pg) (r : Int) : Prop where
  grew : Grew ill s s' X true
  cost : s'.n ≤ s.n + d
  none_ : r = 0 → delL (itemsN s.S d n) key = []
  ok : r ≠ 0 → OkN Q s'.S d r lo hi ∧ itemsN s'.S d r = delL (itemsN s.S d n) key
  flat : r ≠ 0 → rk s'.S r ≤ rk s.S n ∨ ∃ d', d = d' + 1 ∧ OkN Q s'.S d' r lo hi

theorem Grew.id (ill : Int) (s : Sh) : Grew ill s s [] true := ⟨by simp, Int.le_refl _, by simp, fun e => (by cases e), fun _ => by omega⟩
theorem Grew.add {ill : Int} {s s1 s2 : Sh} {X : List Pg} {b : Bool} (h1 : Grew ill s s1 X true) (h2 : Grew ill s1 s2 [] b) : Grew ill s s2 X b := by
  have := h1.trans h2
  rwa [List.append_nil] at this

theorem dropP_ok {R : Int → Option ByteArray → Option ByteArray → Prop} {p : Pg} {lo hi : Option ByteArray} {key : ByteArray} (h : OkPg R p lo hi) (hl : p.leaf = true) (hT : thereB p.keys key = true) (f : Int → List KV) : itemsP f (dropP p key) = delL (itemsP f p) key ∧ (dropP p key).leaf = true ∧ (dropP p key).keys.length = p.keys.length - 1 ∧ (1 < p.keys.length → OkPg R (dropP p key) lo hi) := by
  obtain ⟨lf, ks, vs, ns⟩ := p
  obtain rfl : lf = true := hl
  obtain ⟨hvl, hns⟩ := h.leaflen rfl
  have hr : Rise ks := good_rise h.good
  have hks : ∀ s ∈ ks, 1 ≤ s.size ∧ s.size ≤ 40 := good_key_size h.good
  have hvs : ∀ s ∈ vs, s.size ≤ 400 := good_val_size h.good
  have hvl : vs.length = ks.length := hvl
  obtain rfl : ns = [] := hns
  have hT : thereB ks key = true := hT
  have hz := drop_zip key [] ks vs hr hvl
  obtain ⟨hlt, _⟩ := there_get hT
  have e : dropP ⟨true, ks, vs, []⟩ key = ⟨true, ks.take (findN ks key) ++ ks.drop (findN ks key + 1), vs.take (findN ks key) ++ vs.drop (findN ks key + 1), []⟩ := by
    unfold dropP
    simp only [Bool.true_and]
    rw [if_pos hT]
  have hlen : (dropP ⟨true, ks, vs, []⟩ key).keys.length = ks.length - 1 := by
    rw [e]
    show (ks.take (findN ks key) ++ ks.drop (findN ks key + 1)).length = _
    rw [List.length_append, List.length_take, List.length_drop]; omega
  have hlen' : (dropP ⟨true, ks, vs, []⟩ key).vals.length = ks.length - 1 := by
    rw [e]
    show (vs.take (findN ks key) ++ vs.drop (findN ks key + 1)).length = _
    rw [List.length_append, List.length_take, List.length_drop]; omega
  have hkk : (dropP ⟨true, ks, vs, []⟩ key).keys = delK ks key := by rw [e]; unfold delK; rw [if_pos hT]
  have hlf : (dropP ⟨true, ks, vs, []⟩ key).leaf = true := by rw [e]
  have hm : ∀ s ∈ (dropP ⟨true, ks, vs, []⟩ key).keys, s ∈ ks := fun s hs => by rw [e] at hs; exact mem_erase hs
  refine ⟨?_, hlf, hlen, fun h1 => ?_⟩
  · unfold itemsP
    rw [hlf]
    simp only [if_true]
    exact hz
  · refine ⟨good_of (fun s hs => hks s (hm s hs)) (by rw [hkk]; exact del_rise hr key) (fun s hs => ?_) (fun n hn => by rw [e] at hn; cases hn) (.inl ⟨hlf, by rw [hlen, hlen'], by rw [e]⟩), by rw [hlen]; have h1 : 1 < ks.length := h1; omega, fun k hk => h.bnd k (hm k hk), fun hc => by rw [hlf] at hc; cases hc⟩
    rw [e] at hs
    exact hvs s (mem_erase hs)

theorem dropW_ok {Q : Pg → Prop} (ill : Int) {key : ByteArray} (hQ : ∀ p, Q p) :
    ∀ (d : Nat) (n : Int) (lo hi : Option ByteArray) (s : Sh), OkN Q s.S d n lo hi → inB lo hi key → getL (itemsN s.S d n) key ≠ none →
      (∃ x xs, wayN s.S d n key = x :: xs ∧ xs.length + 1 ≤ d) ∧ ((∃ s' X, dropW ill key (wayN s.S d n key) s = (s', none) ∧ Grew ill s s' X false ∧ s'.n ≤ s.n + d) ∨ (∃ s' X r, dropW ill key (wayN s.S d n key) s = (s', some r) ∧ DropOk Q ill key d n lo hi s s' X r)) := by
  intro d
  induction d with
  | zero => intro n lo hi s h; exact h.elim
  | succ d ih =>
    intro n lo hi s h hb hgt
    obtain ⟨p, hp, hq, hpg⟩ := h
    have eway : wayN s.S (d + 1) n key = (p, kidN p key) :: if p.leaf then [] else wayN s.S d (p.kids.getD (kidN p key) 0) key := by rw [wayN]; simp only [hp]
    have eit : itemsN s.S (d + 1) n = itemsP (itemsN s.S d) p := by rw [itemsN]; simp only [hp]
    rw [eway]
    rw [eit] at hgt
    have hr := good_rise hpg.good
    cases hl : p.leaf with
    | true =>
      simp only [if_true]
      refine ⟨⟨_, _, rfl, by simp⟩, ?_⟩
      have hT : thereB p.keys key = true := by
        unfold itemsP at hgt
        rw [hl] at hgt
        simp only [if_true] at hgt
        rw [find_zip key _ _ hr (hpg.leaflen hl).1] at hgt
        cases h : thereB p.keys key with
        | true => rfl
        | false => rw [h] at hgt; exact absurd rfl hgt
      obtain ⟨hi', hlf, hlen, hok⟩ := dropP_ok hpg hl hT (itemsN s.S d)
      have erk : rk s.S n = 20 := by unfold rk; rw [hp]; simp only [hl, if_true]
      have eW : dropW ill key [(p, kidN p key)] s = if 1 < p.keys.length then addS ill s (dropP p key) else (s, some 0) := rfl
      rw [eW]
      by_cases h1 : 1 < p.keys.length
      · rw [if_pos h1]
        have ho := hok h1
        rcases addS_ok ill s (dropP p key) with ⟨s1, e, g, hn⟩ | ⟨s1, e, g, hn⟩
        · exact .inl ⟨s1, _, e, g, by omega⟩
        · refine .inr ⟨s1, _, _, e, g, by omega, fun h0 => by omega, fun _ => ⟨by rw [g.S]; exact OkN.new ho (hQ _), by rw [g.S, items_new ho, hi', eit]⟩, fun _ => .inl ?_⟩
          have : rk s1.S ((s.S.length + 1 : Nat) : Int) = 20 := by unfold rk; rw [g.S, pgAt_new]; simp only [hlf, if_true]
          omega
      · rw [if_neg h1]
        refine .inr ⟨s, _, _, rfl, Grew.id ill s, by omega, fun _ => ?_, fun h0 => absurd rfl h0, fun h0 => absurd rfl h0⟩
        rw [eit, ← hi']
        have : (dropP p key).keys = [] := List.length_eq_zero_iff.1 (by rw [hlen]; omega)
        unfold itemsP
        rw [hlf, this]
        rfl
    | false =>
      simp only [Bool.false_eq_true, if_false]
      obtain ⟨e0, h0, hok, hbk, hA, hC⟩ := kid_there hpg hl hb
      obtain ⟨hv, hkl⟩ := hpg.kidlen hl
      have hki : kidN p key < p.kids.length := by omega
      have eitems := kid_items (f := itemsN s.S d) hl e0
      have hgk : getL (itemsN s.S d (p.kids.getD (kidN p key) 0)) key ≠ none := by
        rw [eitems, getL_ahead hC, getL_behind _ hA] at hgt
        exact hgt
      have edel : delL (itemsP (itemsN s.S d) p) key = (p.kids.take (kidN p key)).flatMap (itemsN s.S d) ++ delL (itemsN s.S d (p.kids.getD (kidN p key) 0)) key ++ (p.kids.drop (kidN p key + 1)).flatMap (itemsN s.S d) := by
        rw [eitems, delL_ahead hC, delL_behind _ hA]
      obtain ⟨⟨x, xs, hx, hxl⟩, hR⟩ := ih _ _ _ s hok hbk hgk
      refine ⟨⟨_, _, rfl, by rw [hx, List.length_cons]; omega⟩, ?_⟩
      have eW : dropW ill key ((p, kidN p key) :: wayN s.S d (p.kids.getD (kidN p key) 0) key) s = match dropW ill key (wayN s.S d (p.kids.getD (kidN p key) 0) key) s with
          | (s1, none) => (s1, none)
          | (s1, some a) => turnW ill s1 p (kidN p key) a := by rw [hx]; rfl
      rw [eW]
      have erk : rk s.S n = p.keys.length := by unfold rk; rw [hp]; simp only [hl, Bool.false_eq_true, if_false]
      rcases hR with ⟨s1, X, e, g, hc⟩ | ⟨s1, X, r, e, H⟩
      · rw [e]
        exact .inl ⟨s1, X, rfl, g, by omega⟩
      · rw [e]
        dsimp only
        have hpg1 : OkPg (OkN Q s1.S d) p lo hi := by rw [H.grew.S]; exact hpg.grow _
        have t1 : (p.kids.take (kidN p key)).flatMap (itemsN s1.S d) = (p.kids.take (kidN p key)).flatMap (itemsN s.S d) :=
          congrArg List.flatten (List.map_congr_left fun m hm => by
            obtain ⟨j, hj⟩ := kids_mem (List.mem_of_mem_take hm)
            rw [H.grew.S]; exact items_grow _ (hpg.kids hl j m hj))
        have t2 : (p.kids.drop (kidN p key + 1)).flatMap (itemsN s1.S d) = (p.kids.drop (kidN p key + 1)).flatMap (itemsN s.S d) :=
          congrArg List.flatten (List.map_congr_left fun m hm => by
            obtain ⟨j, hj⟩ := kids_mem (List.mem_of_mem_drop hm)
            rw [H.grew.S]; exact items_grow _ (hpg.kids hl j m hj))
        unfold turnW
        by_cases hr0 : r = 0
        · rw [if_pos hr0]
          have hd0 := H.none_ hr0
          have eli : itemsP (itemsN s1.S d) (lessP p (kidN p key)) = delL (itemsP (itemsN s.S d) p) key := by
            rw [less_items, t1, t2, edel, hd0, List.append_nil]
          obtain ⟨l1, l2⟩ := less_len hkl hpg.ne h0
          by_cases h1 : (lessP p (kidN p key)).kids.length = 1
          · rw [if_pos h1]
            obtain ⟨m, hm⟩ : ∃ m, (lessP p (kidN p key)).kids = [m] := List.length_eq_one_iff.1 h1
            have hmo := less_kids hpg1 hl h0 0 m (by rw [hm]; rfl)
            have hk0 : (lessP p (kidN p key)).keys = [] := List.length_eq_zero_iff.1 (by rw [l1]; omega)
            rw [hk0] at hmo
            have hmo : OkN Q s1.S d m lo hi := hmo
            have em : (lessP p (kidN p key)).kids.getD 0 0 = m := by rw [hm]; rfl
            rw [em]
            have emi : itemsN s1.S d m = delL (itemsP (itemsN s.S d) p) key := by
              rw [← eli]
              show _ = (lessP p (kidN p key)).kids.flatMap (itemsN s1.S d)
              rw [hm]; simp
            exact .inr ⟨s1, X, m, rfl, H.grew, by have := H.cost; omega, fun h => absurd h (ok_ne hmo), fun _ => ⟨hmo.deep, by rw [items_deep hmo, emi, eit]⟩, fun _ => .inr ⟨d, rfl, hmo⟩⟩
          · rw [if_neg h1]
            have ho := less_ok hpg1 hl h0 (by have := hpg.ne; omega)
            rcases addS_ok ill s1 (lessP p (kidN p key)) with ⟨s2, e, g, hn⟩ | ⟨s2, e, g, hn⟩
            · exact .inl ⟨s2, _, e, H.grew.trans g, by have := H.cost; omega⟩
            · refine .inr ⟨s2, _, _, e, H.grew.trans g, by have := H.cost; omega, fun h => by omega, fun _ => ⟨by rw [g.S]; exact OkN.new ho (hQ _), by rw [g.S, items_new ho, eli, eit]⟩, fun _ => .inl ?_⟩
              have : rk s2.S ((s1.S.length + 1 : Nat) : Int) = (lessP p (kidN p key)).keys.length := by
                unfold rk
                rw [g.S, pgAt_new]
                rfl
              omega
        · rw [if_neg hr0]
          obtain ⟨hok1, hit1⟩ := H.ok hr0
          have hoA : OkA (OkN Q s1.S d) ⟨r, none⟩ (loI p.keys (kidN p key) lo) (hiI p.keys (kidN p key) hi) := hok1
          have ho := updP_ok hpg1 hl h0 hoA
          have ei : itemsP (itemsN s1.S d) (updP p (kidN p key) ⟨r, none⟩) = delL (itemsP (itemsN s.S d) p) key := by
            rw [updP_items hki, t1, t2, edel]
            show _ ++ itemsN s1.S d r ++ _ = _
            rw [hit1]
          have eu : updP p (kidN p key) ⟨r, none⟩ = ⟨false, p.keys, [], p.kids.set (kidN p key) r⟩ := rfl
          rw [← eu]
          rcases addS_ok ill s1 (updP p (kidN p key) ⟨r, none⟩) with ⟨s2, e, g, hn⟩ | ⟨s2, e, g, hn⟩
          · exact .inl ⟨s2, _, e, H.grew.trans g, by have := H.cost; omega⟩
          · refine .inr ⟨s2, _, _, e, H.grew.trans g, by have := H.cost; omega, fun h => by omega, fun _ => ⟨by rw [g.S]; exact OkN.new ho (hQ _), by rw [g.S, items_new ho, ei, eit]⟩, fun _ => .inl ?_⟩
            have : rk s2.S ((s1.S.length + 1 : Nat) : Int) = p.keys.length := by
              unfold rk
              rw [g.S, pgAt_new]
              rfl
            omega
end Go.Proofs.Ytafeddjcomeniaa
end

/- A range of items, collected kid by kid, key by key. Plain Lean. No program here. Conditions: none. -/
section
namespace Go.Proofs.Ytafeddjcomeniaa
open Go

def inR (a b k : ByteArray) : Bool := !lessB k a && (decide (b.size = 0) || lessB k b)
def filt (a b : ByteArray) (l : List KV) : List KV := l.filter fun x => inR a b x.1
/-- What is collected, with what a part adds. -/
def more (a b : ByteArray) (most : Nat) (l A : List KV) : List KV := l ++ (filt a b A).take (most - l.length)
theorem more_app (a b : ByteArray) (most : Nat) (l A B : List KV) : more a b most l (A ++ B) = more a b most (more a b most l A) B := by
  unfold more filt
  rw [List.filter_append, List.take_append, List.append_assoc, List.length_append, List.length_take]
  congr 3
  omega
theorem more_skip {a b : ByteArray} {most : Nat} {l A : List KV} (h : ∀ x ∈ A, inR a b x.1 = false) : more a b most l A = l := by
  unfold more filt
  rw [List.filter_eq_nil_iff.2 (fun x hx => by simp [h x hx])]
  simp
theorem more_done {a b : ByteArray} {most : Nat} {l A : List KV} (h : most ≤ l.length) : more a b most l A = l := by
  unfold more
  rw [show most - l.length = 0 by omega]
  simp
theorem more_one {a b : ByteArray} {most : Nat} {l : List KV} {x : KV} (h : l.length < most) (hx : inR a b x.1 = true) : more a b most l [x] = l ++ [x] := by
  unfold more filt
  rw [List.filter_cons_of_pos (by exact hx), List.filter_nil, List.take_of_length_le (by rw [List.length_singleton]; omega)]
theorem inR_low {a b k : ByteArray} (h : lessB k a = true) : inR a b k = false := by unfold inR; rw [h]; rfl
theorem inR_high {a b k : ByteArray} (h : b.size ≠ 0) (hk : lessB k b = false) : inR a b k = false := by
  unfold inR
  rw [hk, decide_eq_false h]
  simp
theorem inR_in {a b k : ByteArray} (h : lessB k a = false) (hk : b.size = 0 ∨ lessB k b = true) : inR a b k = true := by
  unfold inR
  rw [h]
  rcases hk with hk | hk
  · rw [decide_eq_true hk]; rfl
  · rw [hk]; simp

/-! A leaf. -/
theorem zip_get {ks vs : List ByteArray} (h : vs.length = ks.length) {j : Nat} (hj : j < ks.length) : (ks.zip vs).drop j = (ks[j], vs[j]) :: (ks.zip vs).drop (j + 1) := by
  have : j < (ks.zip vs).length := by rw [List.length_zip]; omega
  rw [List.drop_eq_getElem_cons this, List.getElem_zip]
theorem mem_zip_drop {ks vs : List ByteArray} {j : Nat} {x : KV} (h : x ∈ (ks.zip vs).drop j) : ∃ i, j ≤ i ∧ ks[i]? = some x.1 := by
  obtain ⟨i, hi, rfl⟩ := List.getElem_of_mem h
  rw [List.length_drop, List.length_zip] at hi
  refine ⟨j + i, by omega, ?_⟩
  rw [List.getElem_drop, List.getElem_zip]
  exact List.getElem?_eq_getElem (by omega)
theorem mem_zip_take {ks vs : List ByteArray} {j : Nat} {x : KV} (h : x ∈ (ks.zip vs).take j) : ∃ i, i < j ∧ ks[i]? = some x.1 := by
  obtain ⟨i, hi, rfl⟩ := List.getElem_of_mem h
  rw [List.length_take, List.length_zip] at hi
  refine ⟨i, by omega, ?_⟩
  rw [List.getElem_take, List.getElem_zip]
  exact List.getElem?_eq_getElem (by omega)
theorem leaf_start {ks vs : List ByteArray} (a b : ByteArray) (most : Nat) (l : List KV) : more a b most l (ks.zip vs) = more a b most l ((ks.zip vs).drop (findN ks a)) := by
  conv => lhs; rw [← List.take_append_drop (findN ks a) (ks.zip vs), more_app]
  congr 1
  refine more_skip fun x hx => inR_low ?_
  obtain ⟨i, hi, e⟩ := mem_zip_take hx
  have := findN_before a ks i hi
  rw [List.getD_eq_getElem?_getD, e] at this
  exact this
theorem leaf_step {ks vs : List ByteArray} (hr : Rise ks) (hv : vs.length = ks.length) {a b : ByteArray} {most : Nat} {l : List KV} {j : Nat} (h1 : findN ks a ≤ j) (h2 : j < ks.length) (h3 : l.length < most) (h4 : b.size = 0 ∨ lessB ks[j] b = true) : more a b most l ((ks.zip vs).drop j) = more a b most (l ++ [(ks[j], vs[j])]) ((ks.zip vs).drop (j + 1)) := by
  rw [zip_get hv h2, ← List.singleton_append, more_app, more_one h3]
  refine inR_in ?_ h4
  have := findN_behind hr a h1 h2
  rw [List.getD_eq_getElem?_getD, List.getElem?_eq_getElem h2] at this
  exact this
theorem leaf_stop {ks vs : List ByteArray} (hr : Rise ks) {a b : ByteArray} {most : Nat} {l : List KV} {j : Nat} (h2 : j < ks.length) (h3 : b.size ≠ 0) (h4 : lessB ks[j] b = false) : more a b most l ((ks.zip vs).drop j) = l := by
  refine more_skip fun x hx => inR_high h3 ?_
  obtain ⟨i, hi, e⟩ := mem_zip_drop hx
  rcases Nat.eq_or_lt_of_le hi with rfl | hlt
  · rw [List.getElem?_eq_getElem h2] at e
    rw [← Option.some.inj e]
    exact h4
  · have := rise_get hr hlt (List.getElem?_eq_getElem h2) e
    exact le_le h4 (lt_ge this)
theorem leaf_end {ks vs : List ByteArray} {a b : ByteArray} {most : Nat} {l : List KV} {j : Nat} (h2 : ks.length ≤ j) : more a b most l ((ks.zip vs).drop j) = l := by
  rw [List.drop_eq_nil_of_le (by rw [List.length_zip]; omega)]
  exact more_skip fun x hx => by cases hx

/-! A branch. -/
theorem kids_start {Q : Pg → Prop} {S : List Pg} {d : Nat} {p : Pg} {lo hi : Option ByteArray} (h : OkPg (OkN Q S d) p lo hi) (hl : p.leaf = false) (a b : ByteArray) (most : Nat) (l : List KV) : more a b most l (p.kids.flatMap (itemsN S d)) = more a b most l ((p.kids.drop (kidN p a)).flatMap (itemsN S d)) := by
  have hr := good_rise h.good
  have e : p.kids.flatMap (itemsN S d) = (p.kids.take (kidN p a)).flatMap (itemsN S d) ++ (p.kids.drop (kidN p a)).flatMap (itemsN S d) := by rw [← List.flatMap_append, List.take_append_drop]
  rw [e, more_app]
  congr 1
  refine more_skip fun x hx => inR_low ?_
  obtain ⟨n, hn, hx⟩ := List.mem_flatMap.mp hx
  obtain ⟨j, hj, rfl⟩ := List.getElem_of_mem hn
  rw [List.length_take] at hj
  have ej : p.kids[j]? = some (p.kids.take (kidN p a))[j] := by rw [List.getElem_take]; exact List.getElem?_eq_getElem (by omega)
  obtain ⟨h0, h1, h2⟩ := kidN_get hr hl a
  have hjk : j < p.keys.length := by omega
  have hx' := (items_bnd (h.kids hl j _ ej) x hx).2 _ (hiI_lt hjk)
  exact lt_le hx' (h1 j _ (by omega) (List.getElem?_eq_getElem hjk))
theorem kids_step {f : Int → List KV} {ns : List Int} {a b : ByteArray} {most : Nat} {l : List KV} {j : Nat} (hj : j < ns.length) : more a b most l ((ns.drop j).flatMap f) = more a b most (more a b most l (f ns[j])) ((ns.drop (j + 1)).flatMap f) := by
  rw [List.drop_eq_getElem_cons hj, List.flatMap_cons, more_app]
theorem kids_stop {Q : Pg → Prop} {S : List Pg} {d : Nat} {p : Pg} {lo hi : Option ByteArray} (h : OkPg (OkN Q S d) p lo hi) (hl : p.leaf = false) {a b : ByteArray} {most : Nat} {l : List KV} {j : Nat} (h1 : 0 < j) {q : ByteArray} (hq : p.keys[j - 1]? = some q) (h3 : b.size ≠ 0) (h4 : lessB q b = false) : more a b most l ((p.kids.drop j).flatMap (itemsN S d)) = l := by
  have hr := good_rise h.good
  have hk := (h.kidlen hl).2
  refine more_skip fun x hx => inR_high h3 ?_
  obtain ⟨n, hn, hx⟩ := List.mem_flatMap.mp hx
  obtain ⟨i, hi', rfl⟩ := List.getElem_of_mem hn
  rw [List.length_drop] at hi'
  have ej : p.kids[j + i]? = some (p.kids.drop j)[i] := by rw [List.getElem_drop]; exact List.getElem?_eq_getElem (by omega)
  have hb := (items_bnd (h.kids hl (j + i) _ ej) x hx).1
  obtain ⟨m, hm⟩ : ∃ m, j + i = m + 1 := ⟨j + i - 1, by omega⟩
  have hml : m < p.keys.length := by omega
  have e : loI p.keys (j + i) lo = some p.keys[m] := by rw [hm]; exact List.getElem?_eq_getElem hml
  have hx1 := hb _ e
  have hqm : lessB p.keys[m] q = false := by
    rcases Nat.lt_or_ge (j - 1) m with c | c
    · exact lt_ge (rise_get hr c hq (List.getElem?_eq_getElem hml))
    · obtain rfl : m = j - 1 := by omega
      rw [List.getElem?_eq_getElem hml] at hq
      cases hq
      exact lessB_irrefl _
  exact le_le h4 (le_le hqm hx1)
end Go.Proofs.Ytafeddjcomeniaa
end

/- A tree as a map: put, drop, find; how deep, how many pages. Plain Lean. No program here. Conditions: none. -/
section
namespace Go.Proofs.Ytafeddjcomeniaa
open Go

/-! How many pages. -/
def nodesN (S : List Pg) : Nat → Int → Nat
  | 0, _ => 0
  | d + 1, n => match pgAt S n with
    | none => 0
    | some p => 1 + (p.kids.map (nodesN S d)).sum
theorem sum_nodes {f : Int → Nat} {g : Int → List KV} : ∀ l : List Int, (∀ n ∈ l, f n + 1 ≤ 2 * (g n).length) → (l.map f).sum + l.length ≤ 2 * (l.flatMap g).length
  | [], _ => by simp
  | n :: l, h => by
    have ih := sum_nodes l fun m hm => h m (List.mem_cons_of_mem _ hm)
    have := h n List.mem_cons_self
    simp only [List.map_cons, List.sum_cons, List.length_cons, List.flatMap_cons, List.length_append]
    omega
theorem nodes_le {Q : Pg → Prop} {S : List Pg} : ∀ {d : Nat} {n : Int} {lo hi : Option ByteArray}, OkN Q S d n lo hi → nodesN S d n + 1 ≤ 2 * (itemsN S d n).length
  | 0, _, _, _, h => h.elim
  | d + 1, n, lo, hi, ⟨p, h1, h2, h3⟩ => by
    rw [nodesN, itemsN]
    simp only [h1]
    unfold itemsP
    cases hl : p.leaf with
    | true =>
      simp only [if_true]
      obtain ⟨hv, hk⟩ := h3.leaflen hl
      rw [hk, List.length_zip, hv]
      have := h3.ne
      simp only [List.map_nil, List.sum_nil]
      omega
    | false =>
      simp only [Bool.false_eq_true, if_false]
      have hk := (h3.kidlen hl).2
      have := sum_nodes (f := nodesN S d) (g := itemsN S d) p.kids fun m hm => by
        obtain ⟨i, hi'⟩ := kids_mem hm
        exact nodes_le (h3.kids hl i m hi')
      have := h3.ne
      omega

/-! A whole tree: no bounds; root 0 is none. -/
def everyP : Pg → Prop := fun _ => True
/-- A map after k changes. -/
structure Tree (Q : Pg → Prop) (S : List Pg) (k : Nat) (r : Int) (l : List KV) : Prop where
  few : l.length ≤ k
  none_ : r = 0 → l = []
  some_ : r ≠ 0 → ∃ d, OkN Q S d r none none ∧ itemsN S d r = l ∧ 20 * d + min (rk S r) 20 ≤ 40 + k
theorem inB_all (k : ByteArray) : inB none none k := ⟨fun _ h => by (cases h), fun _ h => by (cases h)⟩
theorem rk_grow {Q : Pg → Prop} {S : List Pg} {d : Nat} {n : Int} {lo hi : Option ByteArray} (h : OkN Q S d n lo hi) (X : List Pg) : rk (S ++ X) n = rk S n := by
  cases d with
  | zero => exact h.elim
  | succ d =>
    obtain ⟨p, h1, _⟩ := h
    unfold rk
    rw [pgAt_app h1 X, h1]
theorem Tree.grow {Q : Pg → Prop} {S : List Pg} {k : Nat} {r : Int} {l : List KV} (h : Tree Q S k r l) (X : List Pg) : Tree Q (S ++ X) k r l :=
  ⟨h.few, h.none_, fun h0 => by
    obtain ⟨d, h1, h2, h3⟩ := h.some_ h0
    exact ⟨d, h1.grow X, by rw [items_grow X h1, h2], by rw [rk_grow h1 X]; exact h3⟩⟩
theorem Tree.more {Q : Pg → Prop} {S : List Pg} {k k' : Nat} {r : Int} {l : List KV} (h : Tree Q S k r l) (hk : k ≤ k') : Tree Q S k' r l :=
  ⟨by have := h.few; omega, h.none_, fun h0 => by
    obtain ⟨d, h1, h2, h3⟩ := h.some_ h0
    exact ⟨d, h1, h2, by omega⟩⟩
theorem Tree.sort {Q : Pg → Prop} {S : List Pg} {k : Nat} {r : Int} {l : List KV} (h : Tree Q S k r l) : SortK l := by
  by_cases h0 : r = 0
  · rw [h.none_ h0]; exact List.Pairwise.nil
  · obtain ⟨d, h1, h2, _⟩ := h.some_ h0
    rw [← h2]; exact items_sort h1
/-- A leaf is one deep. -/
theorem ok_one {Q : Pg → Prop} {S : List Pg} {d : Nat} {n : Int} {lo hi : Option ByteArray} {p : Pg} (h : OkN Q S d n lo hi) (hp : pgAt S n = some p) (hl : p.leaf = true) : OkN Q S 1 n lo hi ∧ itemsN S 1 n = itemsN S d n := by
  cases d with
  | zero => exact h.elim
  | succ d =>
    obtain ⟨q, h1, h2, h3⟩ := h
    rw [hp] at h1
    cases h1
    refine ⟨⟨p, hp, h2, h3.good, h3.ne, h3.bnd, fun e => by rw [hl] at e; cases e⟩, ?_⟩
    rw [itemsN, itemsN]
    simp only [hp]
    unfold itemsP
    rw [hl]
    rfl
/-- The depth to be taken: a leaf's is 1. -/
theorem Tree.deep {Q : Pg → Prop} {S : List Pg} {k : Nat} {r : Int} {l : List KV} (h : Tree Q S k r l) (h0 : r ≠ 0) : ∃ d, OkN Q S d r none none ∧ itemsN S d r = l ∧ 20 * d + min (rk S r) 20 ≤ 40 + k ∧ (∀ p, pgAt S r = some p → p.leaf = true → d = 1) := by
  obtain ⟨d, h1, h2, h3⟩ := h.some_ h0
  cases d with
  | zero => exact h1.elim
  | succ d =>
    have h1' := h1
    obtain ⟨p, hp, _⟩ := h1'
    cases hl : p.leaf with
    | true =>
      obtain ⟨a, b⟩ := ok_one h1 hp hl
      have e : rk S r = 20 := by unfold rk; rw [hp]; simp only [hl, if_true]
      exact ⟨1, a, by rw [b, h2], by omega, fun _ _ _ => rfl⟩
    | false =>
      refine ⟨d + 1, h1, h2, h3, fun q hq hl' => ?_⟩
      rw [hp] at hq
      cases hq
      rw [hl] at hl'
      cases hl'
end Go.Proofs.Ytafeddjcomeniaa
end

/- tree.way: the pages from a root to a leaf. Conditions: the shelf lies in memory; the tree is good. -/
section
namespace Go.Proofs.Ytafeddjcomeniaa
open Go.RowKit
set_option linter.unusedVariables false
set_option linter.unusedSimpArgs false

theorem flatz_get {z : Nat} : ∀ (L : List (Array Value)) (h : ∀ cs ∈ L, cs.size = z) (i : Nat) (cs : Array Value), L[i]? = some cs → ∀ j, j < z → (L.flatMap Array.toList)[i * z + j]? = cs[j]?
  | [], _, i, cs, hi, _, _ => by simp at hi
  | a :: L, h, 0, cs, hi, j, hj => by
    cases hi
    have h1 := h a List.mem_cons_self
    rw [List.flatMap_cons, Nat.zero_mul, Nat.zero_add, List.getElem?_append_left (by rw [Array.length_toList]; omega), Array.getElem?_toList]
  | a :: L, h, i + 1, cs, hi, j, hj => by
    have h1 := h a List.mem_cons_self
    rw [List.flatMap_cons, Nat.succ_mul, List.getElem?_append_right (by rw [Array.length_toList]; omega), Array.length_toList, h1, show i * z + z + j - z = i * z + j by omega]
    exact flatz_get L (fun cs hc => h cs (List.mem_cons_of_mem _ hc)) i cs (by simpa using hi) j hj
/-- A step's cells. -/
def StepC (w : World) (x : Pg × Nat) (c : Array Value) : Prop := ∃ A1 c1 A2 c2 A3 c3, c = #[.bool x.1.leaf, .slice A1 x.1.keys.length c1, .slice A2 x.1.vals.length c2, .slice A3 x.1.kids.length c3, .int .i64 (x.2 : Nat)] ∧ PgA w A1 c1 A2 c2 A3 c3 x.1
theorem StepC.sm {w w' : World} {x : Pg × Nat} {c : Array Value} (h : StepC w x c) (k : Sm w w') : StepC w' x c := by
  obtain ⟨A1, c1, A2, c2, A3, c3, e, h⟩ := h
  exact ⟨A1, c1, A2, c2, A3, c3, e, h.sm k⟩
theorem StepC.size {w : World} {x : Pg × Nat} {c : Array Value} (h : StepC w x c) : c.size = 5 := by
  obtain ⟨A1, c1, A2, c2, A3, c3, rfl, _⟩ := h; rfl
/-- Steps in a row of one's own. -/
def StepsAt (B : Nat) (w : World) (v : Value) (l : List (Pg × Nat)) : Prop :=
  ∃ L : List (Array Value), w.ownsRow B 89 5 v l.length (L.flatMap Array.toList) ∧ L.length = l.length ∧ ∀ (i : Nat) c x, L[i]? = some c → l[i]? = some x → StepC w x c
theorem cinfo_step : (Try.prog.info? 89).map (fun i => (i.zero, i.size, i.bytes)) = some (some (.agg #[.bool false, .slice none 0 0, .slice none 0 0, .slice none 0 0, .int .i64 0]), 5, 88) := by kernel_rfl
section
variable {B : Nat} {w w' : World} {v : Value} {l : List (Pg × Nat)}
theorem StepsAt.keep (h : StepsAt B w v l) (hk : ∀ g cs, Blk w g 89 cs → Blk w' g 89 cs) (hm : Sm w w') : StepsAt B w' v l := by
  obtain ⟨L, h1, h2, h3⟩ := h
  refine ⟨L, ⟨h1.1, ?_⟩, h2, fun i c x hc hx => (h3 i c x hc hx).sm hm⟩
  rcases h1.2 with e | ⟨g, cap, cur, e, hg, hb, r⟩
  · exact .inl e
  · exact .inr ⟨g, cap, cur, e, hg, hk g cur hb, r⟩
theorem StepsAt.later (h : StepsAt B w v l) (hl : Later w w') : StepsAt B w' v l := h.keep (fun g cs x => x.below hl x.lt) (Sm.later hl)
theorem StepsAt.kept {S : Nat → Prop} (h : StepsAt B w v l) (hk : DKept S w w') (hm : Sm w w') (hS : ∀ g, S g → ∀ cs, ¬ Blk w g 89 cs) : StepsAt B w' v l := h.keep (fun g cs x => hk.blk x fun hs => hS g hs cs x) hm
/-- A step that is there. -/
theorem StepsAt.get (h : StepsAt B w v l) {i : Nat} {x : Pg × Nat} (hi : l[i]? = some x) : ∃ g cap c, v = .slice (some ⟨g, 0, none⟩) l.length cap ∧ B ≤ g ∧ l.length ≤ cap ∧ (∃ cur, Blk w g 89 cur) ∧ StepC w x c ∧ ∀ j, j < 5 → w.cell? ⟨g, i * 5 + j, none⟩ = c[j]? := by
  obtain ⟨L, h1, h2, h3⟩ := h
  have hil := (List.getElem?_eq_some_iff.1 hi).1
  have hiL : i < L.length := by omega
  have h5 : ∀ c ∈ L, c.size = 5 := fun c hc => by
    obtain ⟨k, hk, rfl⟩ := List.getElem_of_mem hc
    exact (h3 k _ _ (List.getElem?_eq_getElem hk) (List.getElem?_eq_getElem (h2 ▸ hk))).size
  rcases h1.2 with ⟨_, e⟩ | ⟨g, cap, cur, e, hg, hb, hc, hm, hs, ht⟩
  · omega
  · refine ⟨g, cap, L[i], e, hg, hc, ⟨cur, hb⟩, h3 i _ _ (List.getElem?_eq_getElem hiL) hi, fun j hj => ?_⟩
    have hb : Blk w g 89 cur := hb
    rw [hb.cell, ← Array.getElem?_toList, ← flatz_get L h5 i _ (List.getElem?_eq_getElem hiL) j hj, ← ht, List.getElem?_take, if_pos (by omega)]
theorem StepsAt.app {w1 : World} {v' : Value} {x : Pg × Nat} {c : Array Value} {L : List (Array Value)} (hL : L.length = l.length) (hr : ∀ (i : Nat) c x, L[i]? = some c → l[i]? = some x → StepC w x c) (hm : Sm w w1) (hx : StepC w1 x c) (ho : w1.ownsRow B 89 5 v' (l.length + 1) (L.flatMap Array.toList ++ c.toList)) : StepsAt B w1 v' (l ++ [x]) := by
  refine ⟨L ++ [c], by rw [List.length_append, List.length_singleton, List.flatMap_append]; simpa using ho, by rw [List.length_append, List.length_append, hL]; rfl, fun i c' y hi hy => ?_⟩
  rcases Nat.lt_or_ge i L.length with h | h
  · rw [List.getElem?_append_left h] at hi
    rw [List.getElem?_append_left (by omega)] at hy
    exact (hr i c' y hi hy).sm hm
  · have e : i = L.length := by
      have := (List.getElem?_eq_some_iff.1 hi).1
      simp at this
      omega
    subst e
    rw [List.getElem?_append_right (Nat.le_refl _), Nat.sub_self] at hi
    rw [List.getElem?_append_right (by omega), hL, Nat.sub_self] at hy
    cases hi; cases hy
    exact hx
end
theorem far_reader : Far 104 := ⟨by decide, by decide, by decide, by decide⟩
theorem far_step : Far 89 := ⟨by decide, by decide, by decide, by decide⟩

/-- What a good page of the tree is to the functions of page. -/
structure QOk (Q : Pg → Prop) : Prop where
  ok : ∀ p, Q p → goodB p = true → p.keys.length ≤ 1000
theorem ok_pg {R : Int → Option ByteArray → Option ByteArray → Prop} {p : Pg} {lo hi : Option ByteArray} (h : OkPg R p lo hi) (hf : p.keys.length ≤ 1000) (hn : ∀ n ∈ p.kids, n ≤ 100000) (hpos : ∀ n ∈ p.kids, 1 ≤ n) : Ok p :=
  ⟨h.good, hf, fun n hm => by have := hn n hm; have := hpos n hm; omega⟩
/-- What way answers. -/
def WayPost (B b : Nat) (ill : Int) (s : Sh) (v : Value) (l : List (Pg × Nat)) (w : World) (e : Ending) (w' : World) : Prop :=
  ((s.n < ill ∧ ill ≤ s.n + l.length ∧ e = .returned (.tuple #[.slice none 0 0, .int .i64 4]) ∧ ShAt B w' b ill ⟨s.S, ill⟩ v) ∨
   ((ill ≤ s.n ∨ s.n + l.length < ill) ∧ ∃ lv, e = .returned (.tuple #[lv, .int .i64 0]) ∧ StepsAt w.heap.size w' lv l ∧ ShAt B w' b ill ⟨s.S, s.n + l.length⟩ v)) ∧ DKept (fun k => k = b) w w' ∧ Sm w w'
end Go.Proofs.Ytafeddjcomeniaa
end

/- tree.way, walked. Conditions: the shelf lies in memory; the tree is good, at most 20 deep, with few items. -/
section
namespace Go.Proofs.Ytafeddjcomeniaa
open Go.RowKit
set_option linter.unusedVariables false
set_option linter.unusedSimpArgs false

theorem own_two {w : World} {B B' n n' z z' : Nat} {T T' : TypeId} {v v' : Value} {xs xs' : List Value} (h : w.ownsRow B T z v n xs) (h' : w.ownsRow B' T' z' v' n' xs') (hT : T ≠ T') {k : Nat} (hk : v.ownBlock = some k) : v'.ownBlock ≠ some k := fun hk' => by
  rcases h.2 with ⟨rfl, _⟩ | ⟨g, cap, cur, rfl, _, hh, _⟩
  · simp [Value.ownBlock] at hk
  · have e1 : g = k := by simpa [Value.ownBlock] using hk
    subst e1
    exact own_blk' h' (show Blk w g T cur from hh) hT.symm hk'
theorem items_pos {Q : Pg → Prop} {S : List Pg} {d : Nat} {n : Int} {lo hi : Option ByteArray} (h : OkN Q S d n lo hi) : 1 ≤ (itemsN S d n).length := by
  have := nodes_le h; omega
theorem flat_ge {f : Int → List KV} : ∀ l : List Int, (∀ n ∈ l, 1 ≤ (f n).length) → l.length ≤ (l.flatMap f).length
  | [], _ => by simp
  | n :: l, h => by
    have := flat_ge l fun m hm => h m (List.mem_cons_of_mem _ hm)
    have := h n List.mem_cons_self
    rw [List.flatMap_cons, List.length_append, List.length_cons]; omega
theorem ok_keys {Q : Pg → Prop} {S : List Pg} {d : Nat} {p : Pg} {lo hi : Option ByteArray} (h : OkPg (OkN Q S d) p lo hi) : p.keys.length ≤ (itemsP (itemsN S d) p).length := by
  unfold itemsP
  cases hl : p.leaf with
  | true =>
    have := (h.leaflen hl).1
    simp only [if_true, List.length_zip]; omega
  | false =>
    have hk := (h.kidlen hl).2
    have := flat_ge (f := itemsN S d) p.kids fun m hm => by
      obtain ⟨i, hi'⟩ := kids_mem hm
      exact items_pos (h.kids hl i m hi')
    simp only [Bool.false_eq_true, if_false]; omega
theorem kid_few {f : Int → List KV} {p : Pg} (hl : p.leaf = false) {i : Nat} {n : Int} (hn : p.kids[i]? = some n) : (f n).length ≤ (itemsP f p).length := by
  rw [kid_items (f := f) hl hn, List.length_append, List.length_append]; omega
theorem pg_ok {Q : Pg → Prop} {S : List Pg} {d : Nat} {p : Pg} {lo hi : Option ByteArray} (h : OkPg (OkN Q S d) p lo hi) (hi' : (itemsP (itemsN S d) p).length ≤ 1000) (hS : S.length ≤ 100000) : Ok p :=
  ok_pg h (by have := ok_keys h; omega) (fun n hn => by have := kids_le h n hn; omega) (fun n hn => by
    cases hl : p.leaf with
    | true => rw [(h.leaflen hl).2] at hn; cases hn
    | false =>
      obtain ⟨i, hi2⟩ := kids_mem hn
      exact (ok_le (h.kids hl i n hi2)).1)
theorem way_len {S : List Pg} {key : ByteArray} : ∀ (d : Nat) (n : Int), (wayN S d n key).length ≤ d
  | 0, _ => Nat.le_refl _
  | d + 1, n => by
    rw [wayN]
    cases pgAt S n with
    | none => simp
    | some p =>
      have h := way_len (S := S) (key := key) d (p.kids.getD (kidN p key) 0)
      show (((p, kidN p key) :: if p.leaf then [] else wayN S d (p.kids.getD (kidN p key) 0) key) : List (Pg × Nat)).length ≤ d + 1
      generalize wayN S d (p.kids.getD (kidN p key) 0) key = X at *
      cases p.leaf with
      | true => simp
      | false => simpa using h
theorem way_ok {Q : Pg → Prop} {S : List Pg} {key : ByteArray} (hS : S.length ≤ 100000) : ∀ {d : Nat} {n : Int} {lo hi : Option ByteArray}, OkN Q S d n lo hi → inB lo hi key → (itemsN S d n).length ≤ 1000 → ∀ x ∈ wayN S d n key, Ok x.1
  | 0, _, _, _, h, _, _ => h.elim
  | d + 1, n, lo, hi, ⟨p, h1, h2, h3⟩, hb, hi' => by
    rw [itemsN] at hi'
    simp only [h1] at hi'
    have hp := pg_ok h3 hi' hS
    intro x hx
    rw [wayN] at hx
    simp only [h1] at hx
    rcases List.mem_cons.1 hx with rfl | hx
    · exact hp
    · cases hl : p.leaf with
      | true => rw [hl] at hx; cases hx
      | false =>
        rw [hl] at hx
        simp only [Bool.false_eq_true, if_false] at hx
        obtain ⟨e0, _, hok, hbk, _, _⟩ := kid_there h3 hl hb
        have := kid_few (f := itemsN S d) hl e0
        exact way_ok hS hok hbk (by omega) x hx
set_option maxRecDepth 100000 in
set_option maxHeartbeats 16000000 in
theorem way_any {Q : Pg → Prop} {B b : Nat} {w : World} {ill : Int} {s : Sh} {v : Value} {root : Int} {d : Nat} {lo hi : Option ByteArray} {key : ByteArray} (h : ShAt B w b ill s v) (hn : 0 ≤ s.n) (hn2 : s.n < 1000000000) (hl : s.S.length ≤ 100000)
    (ht : OkN Q s.S d root lo hi) (hk : inB lo hi key) (hi' : (itemsN s.S d root).length ≤ 1000) (hd : d ≤ 20) :
    Calls Try.prog 30 #[shV b, .int .u64 root, .string key] w (WayPost B b ill s v (wayN s.S d root key) w) := by
  obtain ⟨FULL, hF⟩ : ∃ F, F = wayN s.S d root key := ⟨_, rfl⟩
  rw [← hF]
  obtain ⟨W0, hW0⟩ : ∃ W0, W0 = w.alloc (.cells #[shV b, .int .i64 0] 104) := ⟨_, rfl⟩
  have hb0 : Below w.heap.size w W0 := by rw [hW0]; exact below_new _ _
  have kr : Blk W0 w.heap.size 104 #[shV b, .int .i64 0] := by rw [hW0]; exact Blk.new _ _ _
  have h0 := h.later (show Later w W0 from hb0)
  obtain ⟨g, hg⟩ : ∃ g, g = w.heap.size := ⟨_, rfl⟩
  rw [← hg] at kr
  have HKR := Lib.hid kr
  have HG := Lib.hid hg
  have H0 := Lib.hid h0
  have HK0 : Hid (DKept (fun k => k = b) w W0) := Lib.hid (DKept.of_below hb0)
  have HM0 := Lib.hid (Sm.below hb0)
  have HW0 := Lib.hid hW0
  have HF := Lib.hid hF
  have HT : Hid (OkN Q s.S d root lo hi ∧ inB lo hi key ∧ (itemsN s.S d root).length ≤ 1000 ∧ d + ([] : List (Pg × Nat)).length ≤ 20) := Lib.hid ⟨ht, hk, hi', by simpa using hd⟩
  have HLB : Hid (b < w.heap.size) := Lib.hid h.blk.lt
  clear h hW0 hb0 kr h0 hg ht hk hi' hF hd
  unfold shV at *
  go_enter Try.func30, Try.ntmps30
  go_wp2_with fail
  rw [← HW0.out, ← HG.out]
  go_loopg [9, 10] d (fun m lv nv wr => ∃ (acc : List (Pg × Nat)) (n : Int) (lo hi : Option ByteArray) (A : Option Addr) (c : Nat), nv = .int .u64 n ∧ lv = .slice A acc.length c ∧ Hid (OkN Q s.S m n lo hi ∧ inB lo hi key ∧ (itemsN s.S m n).length ≤ 1000 ∧ m + acc.length ≤ 20) ∧ Hid (acc ++ wayN s.S m n key = FULL) ∧ Hid (StepsAt w.heap.size wr (.slice A acc.length c) acc) ∧ Hid (ShAt B wr b ill ⟨s.S, s.n + acc.length⟩ v) ∧ Hid (Blk wr g 104 #[.iface 23 (.pointer (some ⟨b, 0, none⟩)), .int .i64 acc.length]) ∧ Hid (DKept (fun k => k = b) w wr) ∧ Hid (Sm w wr) ∧ Hid (ill ≤ s.n ∨ s.n + acc.length < ill))
  case atStart => exact ⟨[], root, lo, hi, none, 0, rfl, rfl, HT, Lib.hid (by rw [HF.out]; rfl), Lib.hid ⟨[], World.ownsRow_nil _ _ _ _, rfl, fun i c x hc => by simp at hc⟩, Lib.hid (by simpa using H0.out), HKR, HK0, HM0, Lib.hid (by simp; omega)⟩
  case round =>
    obtain ⟨acc, n, lo, hi, A, c, rfl, rfl, HT, HFU, HST, HSH, HRD, HK, HM, HN⟩ := hrel
    obtain ⟨m, rfl⟩ : ∃ m, gk = m + 1 := by
      cases gk with
      | zero => exact HT.out.1.elim
      | succ m => exact ⟨m, rfl⟩
    obtain ⟨⟨p, hp, hq, hok⟩, hkb, hit, hdep⟩ := HT.out
    rw [itemsN] at hit
    simp only [hp] at hit
    have hpo := pg_ok hok hit hl
    have hway : wayN s.S (m + 1) n key = (p, kidN p key) :: if p.leaf then [] else wayN s.S m (p.kids.getD (kidN p key) 0) key := by
      rw [wayN]; simp only [hp]
    have hful := HFU.out
    rw [hway] at hful
    have CR := Lib.hid (rdPage_any (d := (acc.length : Int) + 1) HSH.out (by show 0 ≤ s.n + (acc.length : Int); omega) (by show s.n + (acc.length : Int) < _; omega) hp hl hpo HRD.out far_reader rfl rfl (by omega) (by omega) (by omega))
    have hal : acc.length ≤ 19 := by omega
    have HFU2 := Lib.hid hful
    have HOK := Lib.hid hok
    have HKB := Lib.hid hkb
    have HIT := Lib.hid hit
    have HPO := Lib.hid hpo
    clear hp hq hok hkb hit hpo hway hful HFU
    go_wp2_with fail
    refine CR.out.mono ?_
    rintro e w2 ⟨hd2, h2, hg2, hk2, hm2, _⟩
    have hk : DKept (fun k => k = b) w w2 := HK.out.trans hk2 (fun i hi e => by
      rcases e with e | e
      · exact e
      · have := HG.out; omega)
    have hm := HM.out.trans hm2
    have hst := HST.out.kept hk2 hm2 (fun i e cs hc => by
      rcases e with rfl | rfl
      · exact hc.ne_ HSH.out.blk (by decide) rfl
      · exact hc.ne_ HRD.out (by decide) rfl)
    obtain ⟨q, hqq⟩ : ∃ q, q = w2.heap.size := ⟨_, rfl⟩
    have HQ := Lib.hid hqq
    have HK2 := Lib.hid hk
    have HM2 := Lib.hid hm
    have HS2 := Lib.hid h2
    have HG2 := Lib.hid hg2
    have HST2 := Lib.hid hst
    clear CR h2 hg2 hk2 hm2 hk hm hst hqq HST HSH HRD HK HM
    rcases hd2 with ⟨hil, rfl⟩ | ⟨hil, cc, rfl, A1, c1, A2, c2, A3, c3, rfl, hpa⟩
    · have FIN : Hid (∀ V, Later w2 V → WayPost B b ill s v FULL w (.returned (.tuple #[.slice none 0 0, .int .i64 4])) V) := Lib.hid fun V hV => by
        have e1 := HFU2.out
        have hil : s.n + (acc.length : Int) + 1 = ill := hil
        have hs := HS2.out.later hV
        have e2 : FULL.length = acc.length + ((if p.leaf then [] else wayN s.S m (p.kids.getD (kidN p key) 0) key).length + 1) := by rw [← e1, List.length_append, List.length_cons]
        refine ⟨.inl ⟨by have := HN.out; omega, by omega, rfl, ?_⟩, HK2.out.later hV, HM2.out.trans (Sm.later hV)⟩
        rw [show ill = s.n + (acc.length : Int) + 1 from hil.symm] at hs ⊢
        exact hs
      clear hil HS2 HG2 HST2
      go_wp2_with fail
      go_ret2
      exact FIN.out _ (below_new _ _)
    · have hil : s.n + (acc.length : Int) + 1 ≠ ill := hil
      unfold pgc
      obtain ⟨W3, hW3⟩ : ∃ W3, W3 = w2.alloc (.cells #[.bool p.leaf, .slice A1 p.keys.length c1, .slice A2 p.vals.length c2, .slice A3 p.kids.length c3] 54) := ⟨_, rfl⟩
      have hl3 : Later w2 W3 := by rw [hW3]; exact below_new _ _
      have kp3 : Blk W3 q 54 #[.bool p.leaf, .slice A1 p.keys.length c1, .slice A2 p.vals.length c2, .slice A3 p.kids.length c3] := by rw [hW3, HQ.out]; exact Blk.new _ _ _
      have hpa3 := hpa.sm (Sm.later hl3)
      have HST3 := Lib.hid (HST2.out.later hl3)
      have HS3 := Lib.hid (HS2.out.later hl3)
      have HG3 := Lib.hid (HG2.out.below hl3 HG2.out.lt)
      have HK3 := Lib.hid (HK2.out.later hl3)
      have HM3 := Lib.hid (HM2.out.trans (Sm.later hl3))
      have HQ3 : Hid (w.heap.size ≤ q ∧ g < q) := Lib.hid (by have := HG2.out.lt; have := HK2.out.size; have := HQ.out; omega)
      have HP3 := Lib.hid hpa3
      have HKP := Lib.hid kp3
      have HI := Lib.hid hil
      have HW3 := Lib.hid hW3
      have hkd : ∀ V, Sm W3 V → Calls Try.prog 60 #[.agg #[.bool p.leaf, .slice A1 p.keys.length c1, .slice A2 p.vals.length c2, .slice A3 p.kids.length c3], .string key] V fun e w' => e = .returned (.int .i64 (kidN p key : Nat)) ∧ Below V.heap.size V w' := fun V hV => kid_a key (hpa3.sm hV) HPO.out.few (good_rise HPO.out.good)
      have HKD := Lib.hid hkd
      obtain ⟨i0, hi0, hz0, hz1, hz2⟩ := info_parts cinfo_step
      clear hl3 kp3 hpa3 hpa HST2 HS2 HG2 HK2 HM2 hil hW3 hkd
      go_upto_region 5 with fail
      rw [← HW3.out, ← HQ.out]
      generalize hk1 : p.keys.length = k1 at *
      generalize hk2 : p.vals.length = k2 at *
      generalize hk3 : p.kids.length = k3 at *
      generalize hlf : p.leaf = lf at *
      have HE := Lib.hid (And.intro hk1 (And.intro hk2 (And.intro hk3 hlf)))
      obtain ⟨kn, hkn⟩ : ∃ kn, kn = kidN p key := ⟨_, rfl⟩
      have HKN := Lib.hid hkn
      rw [← hkn] at HKD HFU2
      clear hk1 hk2 hk3 hlf hkn
      go_upto_region 7 with fail
      have HL0 := Lib.hid (Later.refl W3)
      have ZF0 : Hid (∀ s, W3.heap.size ≤ s → W3.heap.size ≤ s) := Lib.hid (fun _ h => h)
      have ZS0 : Hid (∀ V, Later W3 V → ((fun V => V.cell? ⟨q, 0, none⟩ = some (.bool lf) ∧ V.cell? ⟨q, 1, none⟩ = some (.slice A1 k1 c1) ∧ V.cell? ⟨q, 2, none⟩ = some (.slice A2 k2 c2) ∧ V.cell? ⟨q, 3, none⟩ = some (.slice A3 k3 c3))) V) := Lib.hid fun V h => cells4 (HKP.out.below h HKP.out.lt)
      refine walk_start 9 (S := (fun V => V.cell? ⟨q, 0, none⟩ = some (.bool lf) ∧ V.cell? ⟨q, 1, none⟩ = some (.slice A1 k1 c1) ∧ V.cell? ⟨q, 2, none⟩ = some (.slice A2 k2 c2) ∧ V.cell? ⟨q, 3, none⟩ = some (.slice A3 k3 c3))) (T := Later W3) (by kernel_rfl) (fun r => W3.heap.size ≤ r) (fun _ h => h.size) ZS0.out (closed_later _) (Later.refl _).drew ?_
      refine wt 0 29 ?_ (fun V hV => ?_) ?_
      rotate_left 1
      · (clear hV; go_simp; (try with_reducible rfl))
      try simp only [pa, List.set]
      refine wt 1 30 ?_ (fun V hV => ?_) ?_
      rotate_left 1
      · (obtain ⟨q0, q1, q2, q3⟩ := id hV; clear hV; go_simp; (try with_reducible rfl))
      try simp only [pa, List.set]
      refine wt 2 31 ?_ (fun V hV => ?_) ?_
      rotate_left 1
      · (obtain ⟨q0, q1, q2, q3⟩ := id hV; clear hV; go_simp; (try with_reducible rfl))
      try simp only [pa, List.set]
      refine wt 3 32 ?_ (fun V hV => ?_) ?_
      rotate_left 1
      · (clear hV; go_simp; (try with_reducible rfl))
      try simp only [pa, List.set]
      refine walk_core 4 rfl (by kernel_rfl) (fun _ _ _ _ _ h => h) (fun V hV K hK => ?_)
      have hV0 := HL0.out.trans hV
      have hSV := ZS0.out V hV
      go_simp
      go_at_call 60
      refine (HKD.out V (Sm.later hV0)).mono ?_
      rintro e x4 ⟨rfl, hb⟩
      have HT4 := Lib.hid (hV.of hb)
      have HL1 := Lib.hid (hV0.of hb)
      have hsize := hb.size
      have hkeep := fun (r : Nat) (_ : True) (h : r < V.heap.size) => hb.block r h
      have ZF1 : Hid (∀ s, x4.heap.size ≤ s → _) := Lib.hid (fun s h => ZF0.out s (Nat.le_trans hV.size (Nat.le_trans hsize h)))
      have ZS1 : Hid (∀ V, Later x4 V → ((fun V => V.cell? ⟨q, 0, none⟩ = some (.bool lf) ∧ V.cell? ⟨q, 1, none⟩ = some (.slice A1 k1 c1) ∧ V.cell? ⟨q, 2, none⟩ = some (.slice A2 k2 c2) ∧ V.cell? ⟨q, 3, none⟩ = some (.slice A3 k3 c3))) V) := Lib.hid (fun V' h => ZS0.out V' ((hV.of hb).trans h))
      refine hK.out _ _ ((fun V => V.cell? ⟨q, 0, none⟩ = some (.bool lf) ∧ V.cell? ⟨q, 1, none⟩ = some (.slice A1 k1 c1) ∧ V.cell? ⟨q, 2, none⟩ = some (.slice A2 k2 c2) ∧ V.cell? ⟨q, 3, none⟩ = some (.slice A3 k3 c3))) (Later x4) _ (fun r _ h => hkeep r trivial h) (fun _ h _ => h) (fun _ h => h) ZS1.out (fun V' h => ZF1.out _ h.size) (Later.refl _) (closed_later _) ?_
      clear hK K hV hsize hkeep hV0 hSV hb
      try simp only [pa, List.set]
      refine wt 5 34 ?_ (fun V hV => ?_) ?_
      rotate_left 1
      · (clear hV; go_simp; (try with_reducible rfl))
      try simp only [pa, List.set]
      refine walk_pend ⟨6, 35, (.cells #[.bool lf, .slice A1 k1 c1, .slice A2 k2 c2, .slice A3 k3 c3, .int .i64 (kn : Nat)] 89), fun r => .slice (some ⟨r, 0, none⟩) 1 1⟩ ⟨_, rfl, rfl, rfl, fun W => ?_⟩ ?_
      · (go_simp; (try with_reducible rfl))
      refine walk_force (by kernel_rfl) (by kernel_rfl) (by kernel_rfl) (by kernel_rfl) (fun r6 x6 hV hr6 hB6 => ?_)
      have lt6 : r6 < x6.heap.size := (Array.getElem?_eq_some_iff.1 hr6).1
      have HL2 := Lib.hid (HL1.out.trans hV)
      have ZF2 : Hid (∀ s, x6.heap.size ≤ s → _ ∧ s ≠ r6) := Lib.hid (fun s h => ⟨ZF1.out s (Nat.le_trans hV.size h), Nat.ne_of_gt (Nat.lt_of_lt_of_le lt6 h)⟩)
      have ZS2 : Hid (∀ V, Later x6 V → ((fun V => V.cell? ⟨q, 0, none⟩ = some (.bool lf) ∧ V.cell? ⟨q, 1, none⟩ = some (.slice A1 k1 c1) ∧ V.cell? ⟨q, 2, none⟩ = some (.slice A2 k2 c2) ∧ V.cell? ⟨q, 3, none⟩ = some (.slice A3 k3 c3))) V) := Lib.hid (fun V' h => ZS1.out V' (hV.trans h))
      refine ⟨(fun V => V.cell? ⟨q, 0, none⟩ = some (.bool lf) ∧ V.cell? ⟨q, 1, none⟩ = some (.slice A1 k1 c1) ∧ V.cell? ⟨q, 2, none⟩ = some (.slice A2 k2 c2) ∧ V.cell? ⟨q, 3, none⟩ = some (.slice A3 k3 c3)), Later x6, Later.refl _, fun _ h => h, ZS2.out, fun V' h => ZF1.out _ (Nat.le_trans hV.size h.size), fun V' h => Nat.lt_of_lt_of_le lt6 h.size, closed_later _, ?_⟩
      try simp only [pa, List.set]
      have HT6 := Lib.hid hV
      clear hV
      refine walk_core 7 rfl (by kernel_rfl) (fun _ _ _ _ _ h => h) (fun V hV K hK => ?_)
      have hV0 := HL2.out.trans hV
      have hSV := ZS2.out V hV
      try simp only [List.getElem_toArray, List.getElem_cons_succ, List.getElem_cons_zero]
      obtain ⟨L, hown, hL, hrdL⟩ := HST3.out
      have hlt7 := hown.lt
      have ho7 := own_heap' hown fun r hr => (show Below _ _ _ from hV0).block r (hlt7 r hr).2
      have k6 : Blk V r6 89 #[.bool lf, .slice A1 k1 c1, .slice A2 k2 c2, .slice A3 k3 c3, .int .i64 (kn : Nat)] := Blk.below (show Blk x6 r6 _ _ from hr6) hV lt6
      have hsv : W3.heap.size ≤ V.heap.size := (show Below _ _ _ from hV0).size
      have hwv : w.heap.size ≤ V.heap.size := by have := HK3.out.size; omega
      have hrd6 : Reads V V.heap.size 5 (some ⟨r6, 0, none⟩) 1 [.bool lf, .slice A1 k1 c1, .slice A2 k2 c2, .slice A3 k3 c3, .int .i64 (kn : Nat)] := ⟨rfl, fun _ => ⟨_, rfl, k6.lt, fun j u hu => by
        rw [show (⟨r6, 0, none⟩ : Addr).add j = ⟨r6, j, none⟩ by unfold Addr.add; by_cases e : j = 0 <;> simp [e], k6.cell, ← Array.getElem?_toList]
        exact hu⟩⟩
      have hone6 : ∀ u ∈ [Value.bool lf, .slice A1 k1 c1, .slice A2 k2 c2, .slice A3 k3 c3, .int .i64 (kn : Nat)], u.oneCell' = true := by
        intro u hu
        simp only [List.mem_cons, List.not_mem_nil, or_false] at hu
        rcases hu with rfl | rfl | rfl | rfl | rfl <;> rfl
      refine wp_append_any V (.tmp 29) (.tmp 35) _ rfl w.heap.size 89 i0 _ 5 88 Try.underlying81 hi0 hz0 hz1 hz2 rfl (by omega) (.slice A acc.length c) acc.length (L.flatMap Array.toList) rfl ho7 V.heap.size _ 1 1 _ rfl hrd6 hone6 (by unfold maxLen; omega) (by omega) hwv ?_
      intro v7 x7 hown7 hg7 hat7
      obtain ⟨A7, c7, rfl⟩ := own_shape hown7
      have hsize := hg7.size
      have hkeep := fun (r : Nat) (hF : W3.heap.size ≤ r ∧ r ≠ r6) (hl : r < V.heap.size) => hg7.block r hl (fun e => by have := (hlt7 r e.symm).2; omega)
      have hnq : some q ≠ (Value.slice A acc.length c).ownBlock := fun e => own_blk' hown HKP.out (by decide) e.symm
      have hng : some g ≠ (Value.slice A acc.length c).ownBlock := fun e => own_blk' hown HG3.out (by decide) e.symm
      have kp7 := (HKP.out.below hV0 HKP.out.lt).grown hg7 hnq
      have kg7 := (HG3.out.below hV0 HG3.out.lt).grown hg7 hng
      have hS := fun V' (h : Later x7 V') => (show (fun V => V.cell? ⟨q, 0, none⟩ = some (.bool lf) ∧ V.cell? ⟨q, 1, none⟩ = some (.slice A1 k1 c1) ∧ V.cell? ⟨q, 2, none⟩ = some (.slice A2 k2 c2) ∧ V.cell? ⟨q, 3, none⟩ = some (.slice A3 k3 c3)) V' from cells4 (kp7.below h kp7.lt))
      have hdk : DKept (fun k => (Value.slice A acc.length c).ownBlock = some k) W3 x7 := (DKept.of_below (show Below _ _ _ from hV0)).grown hg7 (fun k e => .inl e)
      have hsm7 : Sm W3 x7 := Sm.kept hdk fun r hr => ⟨fun cs hb => own_blk' hown hb (by decide) hr, fun cs hb => own_blk' hown hb (by decide) hr⟩
      have hsh7 := HS3.out.kept hdk hsm7 (fun e => own_blk' hown HS3.out.blk (by decide) e) (fun r hr e => by
        obtain ⟨Ls, hs, _⟩ := HS3.out.row
        exact own_two hs hown (by decide) hr e)
      have HDK : Hid (DKept (fun k => k = b) w x7) := Lib.hid (HK3.out.trans hdk (fun i hi e => by have := (hlt7 i e).1; omega))
      have HSM7 := Lib.hid (HM3.out.trans hsm7)
      have HSMW := Lib.hid hsm7
      have HSH7 := Lib.hid hsh7
      have HKP7 := Lib.hid kp7
      have HKG7 := Lib.hid kg7
      have HST7 : Hid (StepsAt w.heap.size x7 (.slice A7 (acc.length + 1) c7) (acc ++ [(p, kn)])) := Lib.hid (by
        obtain ⟨e1, e2, e3, e4⟩ := HE.out
        exact StepsAt.app hL hrdL hsm7 ⟨A1, c1, A2, c2, A3, c3, by rw [e1, e2, e3, e4], HP3.out.sm hsm7⟩ hown7)
      clear hown hL hrdL hlt7 ho7 k6 hsv hwv hrd6 hone6 hown7 hg7 hat7 hnq hng kp7 kg7 hdk hsm7 hsh7
      have ZF3 : Hid (∀ s, x7.heap.size ≤ s → _) := Lib.hid (fun s h => ZF2.out s (Nat.le_trans hV.size (Nat.le_trans hsize h)))
      have ZS3 : Hid (∀ V, Later x7 V → ((fun V => V.cell? ⟨q, 0, none⟩ = some (.bool lf) ∧ V.cell? ⟨q, 1, none⟩ = some (.slice A1 k1 c1) ∧ V.cell? ⟨q, 2, none⟩ = some (.slice A2 k2 c2) ∧ V.cell? ⟨q, 3, none⟩ = some (.slice A3 k3 c3))) V) := Lib.hid hS
      refine hK.out _ _ ((fun V => V.cell? ⟨q, 0, none⟩ = some (.bool lf) ∧ V.cell? ⟨q, 1, none⟩ = some (.slice A1 k1 c1) ∧ V.cell? ⟨q, 2, none⟩ = some (.slice A2 k2 c2) ∧ V.cell? ⟨q, 3, none⟩ = some (.slice A3 k3 c3))) (Later x7) _ hkeep (fun _ h _ => h) (fun _ h => h) ZS3.out (fun V' h => ZF3.out _ h.size) (Later.refl _) (closed_later _) ?_
      clear hK K hV hsize hkeep hV0 hSV hS
      try simp only [Act.put]
      try simp only [pa, List.set]
      refine wt 8 9 ?_ (fun V hV => ?_) ?_
      rotate_left 1
      · (clear hV; go_simp; (try with_reducible rfl))
      try simp only [pa, List.set]
      refine walk_exit (fun V hV => wpAnyJ_done (by kernel_rfl) ?_ _)
      obtain ⟨w5, rfl⟩ : ∃ w5 : World, w5 = V := ⟨_, rfl⟩
      have kp5 := HKP7.out.below hV HKP7.out.lt
      have HKG5 := Lib.hid (HKG7.out.below hV HKG7.out.lt)
      have HST5 := Lib.hid (HST7.out.later hV)
      have HSH5 := Lib.hid (HSH7.out.later hV)
      have HDK5 := Lib.hid (HDK.out.later hV)
      have HSM5 := Lib.hid (HSM7.out.trans (Sm.later hV))
      have HSW5 := Lib.hid (HSMW.out.trans (Sm.later hV))
      have HKP5 := Lib.hid kp5
      have hlen1 : (acc ++ [(p, kn)]).length = acc.length + 1 := by rw [List.length_append]; rfl
      have HLEN := Lib.hid hlen1
      obtain ⟨q0, q1, q2, q3⟩ := cells4 kp5
      clear hV kp5 hlen1 HKG7 HST7 HSH7 HDK HSM7 HSMW HKP7
      cases lf with
      | true =>
        have FIN : Hid (WayPost B b ill s v FULL w (.returned (.tuple #[.slice A7 (acc.length + 1) c7, .int .i64 0])) w5) := Lib.hid (by
          have e1 := HFU2.out
          simp only [if_true] at e1
          have hl := HLEN.out
          have e2 : FULL.length = acc.length + 1 := by rw [← e1]; exact hl
          refine ⟨.inr ⟨by have := HI.out; have := HN.out; omega, _, rfl, by rw [← e1]; exact HST5.out, ?_⟩, HDK5.out, HSM5.out⟩
          have := HSH5.out
          rw [e2]
          rw [show s.n + ((acc.length + 1 : Nat) : Int) = s.n + (acc.length : Int) + 1 by omega]
          exact this)
        go_wp2_with fail
        go_ret2
        exact FIN.out
      | false =>
        have hkt := kid_there HOK.out HE.out.2.2.2 HKB.out
        obtain ⟨e0, hkl, hokk, hbk, _, _⟩ := hkt
        have hfew := kid_few (f := itemsN s.S m) HE.out.2.2.2 e0
        have hit := HIT.out
        rw [← HKN.out] at e0 hkl hokk hbk hfew
        obtain ⟨ad, rfl, _, _, hcell⟩ := HP3.out.n.get e0
        have HCELL := Lib.hid hcell
        have hkn3 : kn < k3 := by
          have := (List.getElem?_eq_some_iff.1 e0).1
          have := HE.out.2.2.1
          omega
        have i1 : (0 : Int) ≤ (kn : Int) := by omega
        have i2 : (kn : Int) < (k3 : Int) := by omega
        have HNEXT : Hid (OkN Q s.S m (p.kids.getD kn 0) (loI p.keys kn lo) (hiI p.keys kn hi) ∧ inB (loI p.keys kn lo) (hiI p.keys kn hi) key ∧ (itemsN s.S m (p.kids.getD kn 0)).length ≤ 1000 ∧ m + (acc ++ [(p, kn)]).length ≤ 20) := Lib.hid ⟨hokk, hbk, by omega, by have := HLEN.out; omega⟩
        have HFU3 : Hid (acc ++ [(p, kn)] ++ wayN s.S m (p.kids.getD kn 0) key = FULL) := Lib.hid (by
          have e1 := HFU2.out
          simp only [Bool.false_eq_true, if_false] at e1
          rw [← e1]; simp)
        generalize p.kids.getD kn 0 = n2 at *
        clear hcell e0 hkl hokk hbk hfew hit
        go_upto_region 10 with fail
        have HL0 := Lib.hid (Later.refl w5)
        have ZF0 : Hid (∀ s, w5.heap.size ≤ s → w5.heap.size ≤ s) := Lib.hid (fun _ h => h)
        have ZS0 : Hid (∀ V, Later w5 V → (Later w5) V) := Lib.hid (fun _ h => h)
        refine walk_start 8 (S := Later w5) (T := Later w5) (by kernel_rfl) (fun r => w5.heap.size ≤ r) (fun _ h => h.size) ZS0.out (closed_later _) (Later.refl _).drew ?_
        refine wt 0 40 ?_ (fun V hV => ?_) ?_
        rotate_left 1
        · (clear hV; go_simp; (try with_reducible rfl))
        try simp only [pa, List.set]
        refine wt 1 41 ?_ (fun V hV => ?_) ?_
        rotate_left 1
        · (obtain ⟨q0, q1, q2, q3⟩ := cells4 (HKP5.out.below (HL0.out.trans hV) HKP5.out.lt); have hcl := HCELL.out V (fun g cs => ((HSW5.out.trans (Sm.later (HL0.out.trans hV))) g cs).2); clear hV; go_simp; (try with_reducible rfl))
        try simp only [pa, List.set]
        refine wt 2 42 ?_ (fun V hV => ?_) ?_
        rotate_left 1
        · (obtain ⟨q0, q1, q2, q3⟩ := cells4 (HKP5.out.below (HL0.out.trans hV) HKP5.out.lt); have hcl := HCELL.out V (fun g cs => ((HSW5.out.trans (Sm.later (HL0.out.trans hV))) g cs).2); clear hV; go_simp; (try with_reducible rfl))
        try simp only [pa, List.set]
        refine wt 3 43 ?_ (fun V hV => ?_) ?_
        rotate_left 1
        · (clear hV; go_simp; (try with_reducible rfl))
        try simp only [pa, List.set]
        refine walk_core 4 rfl (by kernel_rfl) (fun _ _ _ _ _ h => h) (fun V hV K hK => ?_)
        have hV0 := HL0.out.trans hV
        go_simp
        go_at_call 60
        refine (HKD.out V (HSW5.out.trans (Sm.later hV0))).mono ?_
        rintro e x4 ⟨rfl, hb⟩
        have HT4 := Lib.hid (hV.of hb)
        have HL1 := Lib.hid (hV0.of hb)
        have hsize := hb.size
        have hkeep := fun (r : Nat) (_ : True) (h : r < V.heap.size) => hb.block r h
        have ZF1 : Hid (∀ s, x4.heap.size ≤ s → _) := Lib.hid (fun s h => ZF0.out s (Nat.le_trans hV.size (Nat.le_trans hsize h)))
        refine hK.out _ _ (Later x4) (Later x4) _ (fun r _ h => hkeep r trivial h) (fun _ h _ => h) (fun V' h => (hV.of hb).trans h) (fun _ h => h) (fun V' h => ZF1.out _ h.size) (Later.refl _) (closed_later _) ?_
        clear hK K hV hsize hkeep hV0 hb
        try simp only [pa, List.set]
        refine wt 5 45 ?_ (fun V hV => ?_) ?_
        rotate_left 1
        · (clear hV; go_simp; (try with_reducible rfl))
        try simp only [pa, List.set]
        refine wt 6 46 ?_ (fun V hV => ?_) ?_
        rotate_left 1
        · (obtain ⟨q0, q1, q2, q3⟩ := cells4 (HKP5.out.below (HL1.out.trans hV) HKP5.out.lt); have hcl := HCELL.out V (fun g cs => ((HSW5.out.trans (Sm.later (HL1.out.trans hV))) g cs).2); clear hV; go_simp; (try with_reducible rfl))
        try simp only [pa, List.set]
        refine wt 7 10 ?_ (fun V hV => ?_) ?_
        rotate_left 1
        · (clear hV; go_simp; (try with_reducible rfl))
        try simp only [pa, List.set]
        refine walk_exit (fun V hV => wpAnyJ_done (by kernel_rfl) ?_ _)
        have hV0 := HL1.out.trans hV
        go_wp2_with fail
        go_roundg m
        case measure => omega
        case rel =>
          have hg5 := HKG5.out.below hV0 HKG5.out.lt
          refine ⟨acc ++ [(p, kn)], n2, _, _, A7, c7, rfl, by rw [HLEN.out], HNEXT, HFU3, Lib.hid (by rw [HLEN.out]; exact HST5.out.later hV0), Lib.hid ?_, Lib.hid ?_, Lib.hid (HDK5.out.later hV0), Lib.hid (HSM5.out.trans (Sm.later hV0)), Lib.hid ?_⟩
          · rw [HLEN.out, show s.n + ((acc.length + 1 : Nat) : Int) = s.n + (acc.length : Int) + 1 by omega]
            exact HSH5.out.later hV0
          · rw [HLEN.out, show ((acc.length + 1 : Nat) : Int) = (acc.length : Int) + 1 by omega]
            exact hg5
          · rw [HLEN.out]; have := HI.out; have := HN.out; omega
end Go.Proofs.Ytafeddjcomeniaa
end

/- A change of a whole tree. Plain Lean. No program here. Conditions: none. -/
section
namespace Go.Proofs.Ytafeddjcomeniaa
open Go

def rootP (k : ByteArray) (a o : Int) : Pg := ⟨false, [k], [], [a, o]⟩
theorem join_ok {Q : Pg → Prop} {S : List Pg} {d : Nat} {k : ByteArray} {a o : Int} (h1 : OkN Q S d a none (some k)) (h2 : OkN Q S d o (some k) none) (hk : keyFit k) : OkPg (OkN Q S d) (rootP k a o) none none := by
  refine ⟨good_of (fun s hs => by rw [List.mem_singleton.1 hs]; exact hk) (List.pairwise_singleton _ _) (fun s hs => by cases hs) (fun n hn => ?_) (.inr ⟨rfl, rfl, rfl⟩), Nat.le_refl _, fun x _ => inB_all x, fun _ i n hn => ?_⟩
  · rcases List.mem_cons.1 hn with rfl | hn
    · exact ok_ne h1
    · rw [List.mem_singleton.1 hn]; exact ok_ne h2
  · match i, hn with
    | 0, hn => cases hn; exact h1
    | 1, hn => cases hn; exact h2
    | i + 2, hn => cases hn
/-- Put into a tree that is: the two ends. -/
theorem Tree.put {Q : Pg → Prop} {ill : Int} {key val : ByteArray} {d : Nat} {r : Int} {s s' : Sh} {X : List Pg} {a : Added} {k : Nat} {l : List KV} (ht : Tree Q s.S k r l) (hl : itemsN s.S d r = l) (hp : 20 * d + min (rk s.S r) 20 ≤ 40 + k) (h : PutOk Q ill key val d r none none s s' X a) :
    (a.sp = none → Tree Q s'.S (k + 1) a.n (putL l key val)) ∧ (∀ q o, a.sp = some (q, o) → Q (rootP q a.n o) → Tree Q (s'.S ++ [rootP q a.n o]) (k + 1) ((s'.S.length + 1 : Nat) : Int) (putL l key val)) := by
  have hlen := putL_len key val l
  have hf := ht.few
  have hok := h.ok
  have hit := h.items
  rw [hl] at hit
  obtain ⟨n, sp⟩ := a
  refine ⟨fun hs => ?_, fun q o hs hq => ?_⟩
  · obtain rfl : sp = none := hs
    have hok : OkN Q s'.S d n none none := hok
    have hfl := h.flat rfl
    have hfl : rk s'.S n ≤ rk s.S r + 1 := hfl
    exact ⟨by omega, fun h0 => absurd h0 (ok_ne hok), fun _ => ⟨d, hok, hit, by show 20 * d + min (rk s'.S n) 20 ≤ _; omega⟩⟩
  · obtain rfl : sp = some (q, o) := hs
    obtain ⟨h1, h2, h3⟩ : OkN Q s'.S d n none (some q) ∧ OkN Q s'.S d o (some q) none ∧ keyFit q := hok
    have htl := h.tall _ rfl
    have hj := join_ok h1 h2 h3
    have hj : OkPg (OkN Q s'.S d) (rootP q n o) none none := hj
    refine ⟨by omega, fun h0 => by omega, fun _ => ⟨d + 1, OkN.new hj hq, ?_, ?_⟩⟩
    · have e := items_new hj
      show itemsN (s'.S ++ [rootP q n o]) (d + 1) _ = _
      rw [e]
      have : itemsP (itemsN s'.S d) (rootP q n o) = itemsN s'.S d n ++ itemsN s'.S d o := by
        show List.flatMap (itemsN s'.S d) [n, o] = _
        simp
      rw [this]
      exact hit
    · have : rk (s'.S ++ [rootP q n o]) ((s'.S.length + 1 : Nat) : Int) = 1 := by unfold rk; rw [pgAt_new]; rfl
      show 20 * (d + 1) + min (rk (s'.S ++ [rootP q n o]) _) 20 ≤ _
      rw [this]
      omega
theorem Tree.drop {Q : Pg → Prop} {ill : Int} {key : ByteArray} {d : Nat} {r r' : Int} {s s' : Sh} {X : List Pg} {k : Nat} {l : List KV} (ht : Tree Q s.S k r l) (hl : itemsN s.S d r = l) (hp : 20 * d + min (rk s.S r) 20 ≤ 40 + k) (h : DropOk Q ill key d r none none s s' X r') : Tree Q s'.S k r' (delL l key) := by
  have hlen := delL_len key l
  have hf := ht.few
  have hn := h.none_
  have ho := h.ok
  rw [hl] at hn ho
  refine ⟨by omega, hn, fun h0 => ?_⟩
  obtain ⟨h1, h2⟩ := ho h0
  rcases h.flat h0 with hk | ⟨d', rfl, h3⟩
  · exact ⟨d, h1, h2, by omega⟩
  · refine ⟨d', h3, by rw [← h2, items_deep h3], by omega⟩
/-- A tree of one item. -/
theorem Tree.first {Q : Pg → Prop} {S : List Pg} {key val : ByteArray} {k : Nat} (hk : keyFit key) (hv : val.size ≤ 400) (hQ : Q ⟨true, [key], [val], []⟩) : Tree Q (S ++ [⟨true, [key], [val], []⟩]) (k + 1) ((S.length + 1 : Nat) : Int) (putL [] key val) := by
  have hp : OkPg (OkN Q S 0) ⟨true, [key], [val], []⟩ none none := ⟨good_of (fun s hs => by rw [List.mem_singleton.1 hs]; exact hk) (List.pairwise_singleton _ _) (fun s hs => by rw [List.mem_singleton.1 hs]; exact hv) (fun n hn => by cases hn) (.inl ⟨rfl, rfl, rfl⟩), Nat.le_refl _, fun x _ => inB_all x, fun e => by cases e⟩
  refine ⟨by show 1 ≤ k + 1; omega, fun h0 => by omega, fun _ => ⟨1, OkN.new hp hQ, items_new hp, ?_⟩⟩
  have : rk (S ++ [⟨true, [key], [val], []⟩]) ((S.length + 1 : Nat) : Int) = 20 := by unfold rk; rw [pgAt_new]; rfl
  rw [this]; omega
theorem Tree.none0 {Q : Pg → Prop} (S : List Pg) : Tree Q S 0 0 [] := ⟨Nat.le_refl _, fun _ => rfl, fun h => absurd rfl h⟩
end Go.Proofs.Ytafeddjcomeniaa
end

/- The leaf at the end of a way has what the tree has. Plain Lean. No program here. Conditions: none. -/
section
namespace Go.Proofs.Ytafeddjcomeniaa
open Go

theorem find_way {Q : Pg → Prop} {S : List Pg} {key : ByteArray} : ∀ {d : Nat} {n : Int} {lo hi : Option ByteArray}, OkN Q S d n lo hi → inB lo hi key → ∃ p i, (wayN S d n key).getLast? = some (p, i) ∧ p.leaf = true ∧ goodB p = true ∧ getL (itemsN S d n) key = if thereB p.keys key then some (p.vals.getD (findN p.keys key) ByteArray.empty) else none
  | 0, _, _, _, h, _ => h.elim
  | d + 1, n, lo, hi, ⟨p, h1, _, h3⟩, hb => by
    rw [wayN, itemsN]
    simp only [h1]
    cases hl : p.leaf with
    | true =>
      refine ⟨p, kidN p key, by simp, hl, h3.good, ?_⟩
      unfold itemsP
      rw [hl]
      simp only [if_true]
      exact find_zip key _ _ (good_rise h3.good) (h3.leaflen hl).1
    | false =>
      obtain ⟨e0, _, hok, hbk, hA, hC⟩ := kid_there h3 hl hb
      obtain ⟨q, i, hq, hql, hqg, hqf⟩ := find_way hok hbk
      refine ⟨q, i, ?_, hql, hqg, ?_⟩
      · simp only [Bool.false_eq_true, if_false]
        rw [List.getLast?_cons, hq]; rfl
      · rw [kid_items (f := itemsN S d) hl e0, getL_ahead hC, getL_behind _ hA]
        exact hqf
end Go.Proofs.Ytafeddjcomeniaa
end

/- tree.Find. Conditions: the shelf lies in memory and is well; the tree is good, at most 20 deep, with few items. -/
section
namespace Go.Proofs.Ytafeddjcomeniaa
open Go.RowKit
set_option linter.unusedVariables false
set_option linter.unusedSimpArgs false

/-- The shelf was read, at most K times. -/
def Seen (B b : Nat) (ill : Int) (s : Sh) (v : Value) (K : Nat) (w w' : World) : Prop :=
  ∃ n', s.n ≤ n' ∧ n' ≤ s.n + K ∧ ShAt B w' b ill ⟨s.S, n'⟩ v ∧ DKept (fun k => k = b) w w' ∧ Sm w w'
theorem Seen.later {B b : Nat} {ill : Int} {s : Sh} {v : Value} {K : Nat} {w w1 w2 : World} (h : Seen B b ill s v K w w1) (k : Later w1 w2) : Seen B b ill s v K w w2 := by
  obtain ⟨n', h1, h2, h3, h4, h5⟩ := h
  exact ⟨n', h1, h2, h3.later k, h4.later k, h5.trans (Sm.later k)⟩
def FindPost (B b : Nat) (ill : Int) (s : Sh) (v : Value) (o : Option ByteArray) (w : World) (e : Ending) (w' : World) : Prop :=
  e = .returned (.tuple #[.string (o.getD ⟨#[]⟩), .int .i64 (if o.isSome then 0 else 5)]) ∧ Seen B b ill s v 20 w w'
set_option maxRecDepth 100000 in
set_option maxHeartbeats 8000000 in
theorem findT_some {Q : Pg → Prop} {B b : Nat} {w : World} {ill : Int} {s : Sh} {v : Value} {root : Int} {d : Nat} {key : ByteArray} (h : ShAt B w b ill s v) (hn : 0 ≤ s.n) (hn2 : s.n < 1000000000) (hl : s.S.length ≤ 100000) (hw : ill ≤ s.n)
    (ht : OkN Q s.S d root none none) (hi' : (itemsN s.S d root).length ≤ 1000) (hd : d ≤ 20) :
    Calls Try.prog 14 #[shV b, .int .u64 root, .string key] w (FindPost B b ill s v (getL (itemsN s.S d root) key) w) := by
  have CW := Lib.hid (way_any h hn hn2 hl ht (inB_all key) hi' hd)
  have hwl := way_len (S := s.S) (key := key) d root
  obtain ⟨p, i, hlast, hlf, hgood, hget⟩ := find_way ht (inB_all key)
  have hoks := way_ok hl ht (inB_all key) hi'
  have hroot : ((root : Int) == 0) = false := beq_eq_false_iff_ne.2 (by have := (ok_le ht).1; omega)
  obtain ⟨FULL, hF⟩ : ∃ F, F = wayN s.S d root key := ⟨_, rfl⟩
  obtain ⟨O, hO⟩ : ∃ O, O = getL (itemsN s.S d root) key := ⟨_, rfl⟩
  rw [← hF] at CW hlast hwl hoks
  rw [← hO] at hget ⊢
  have hne : 1 ≤ FULL.length := by
    cases FULL with
    | nil => simp at hlast
    | cons => simp
  have hx : FULL[FULL.length - 1]? = some (p, i) := by rw [List.getLast?_eq_getElem?] at hlast; exact hlast
  have HX := Lib.hid hx
  have HPO : Hid (Ok p) := Lib.hid (hoks _ (List.mem_of_getElem? hx))
  have HGET := Lib.hid hget
  have HGOOD := Lib.hid hgood
  have HWL : Hid (FULL.length ≤ 20) := Lib.hid (by omega)
  have HNE := Lib.hid hne
  have HW := Lib.hid hw
  clear h hn hn2 hl hw ht hi' hd hwl hlast hget hF hO hx hgood hne hoks
  go_enter Try.func14, Try.ntmps14
  go_wp2_with fail
  refine CW.out.mono ?_
  rintro e w1 ⟨hd1, hk1, hm1⟩
  rcases hd1 with ⟨a1, a2, _, _⟩ | ⟨_, lv, rfl, hst, hs1⟩
  · exact absurd a1 (by have := HW.out; omega)
  · obtain ⟨g, cap, c, rfl, hg, hcap, ⟨cur, hcur⟩, ⟨A1, c1, A2, c2, A3, c3, rfl, hpa⟩, hcell⟩ := hst.get HX.out
    have hlen := HNE.out
    have hl20 := HWL.out
    obtain ⟨N, hN⟩ : ∃ N, N = FULL.length - 1 := ⟨_, rfl⟩
    have hNl : FULL.length = N + 1 := by omega
    rw [← hN] at hcell
    rw [hNl] at hst hcap ⊢
    dsimp only at hcell hpa
    have y0 : w1.cell? ⟨g, N * 5, none⟩ = some (.bool p.leaf) := hcell 0 (by omega)
    have y1 : w1.cell? ⟨g, N * 5 + 1, none⟩ = some (.slice A1 p.keys.length c1) := hcell 1 (by omega)
    have y2 : w1.cell? ⟨g, N * 5 + 2, none⟩ = some (.slice A2 p.vals.length c2) := hcell 2 (by omega)
    have y3 : w1.cell? ⟨g, N * 5 + 3, none⟩ = some (.slice A3 p.kids.length c3) := hcell 3 (by omega)
    have hN20 : N ≤ 19 := by omega
    have HPA := Lib.hid hpa
    have HSEEN : Hid (Seen B b ill s v 20 w w1) := Lib.hid ⟨s.n + (FULL.length : Int), by omega, by omega, hs1, hk1, hm1⟩
    obtain ⟨W2, hW2⟩ : ∃ W2, W2 = w1.alloc (.cells #[.bool p.leaf, .slice A1 p.keys.length c1, .slice A2 p.vals.length c2, .slice A3 p.kids.length c3] 54) := ⟨_, rfl⟩
    have hl2 : Later w1 W2 := by rw [hW2]; exact below_new _ _
    have kp2 : Blk W2 w1.heap.size 54 #[.bool p.leaf, .slice A1 p.keys.length c1, .slice A2 p.vals.length c2, .slice A3 p.kids.length c3] := by rw [hW2]; exact Blk.new _ _ _
    have hpa2 := hpa.sm (Sm.later hl2)
    have CF := find_a key hpa2 HPO.out.few (good_rise HPO.out.good)
    unfold pgc at CF
    have CF := Lib.hid CF
    obtain ⟨q0, q1, q2, q3⟩ := cells4 kp2
    have HKP := Lib.hid kp2
    have HW2 := Lib.hid hW2
    have HL2 : Hid (Later w1 W2) := Lib.hid hl2
    have HVL : Hid (p.vals.length = p.keys.length) := Lib.hid (leaf_shape HPO.out.good hlf).1
    have hth : thereB p.keys key = true → findN p.keys key < p.keys.length := fun h => by
      unfold thereB at h
      simp only [Bool.and_eq_true, decide_eq_true_eq] at h
      exact h.1
    have HTH := Lib.hid hth
    have HV := Lib.hid hpa2.v
    obtain ⟨f, hf⟩ : ∃ f, f = findN p.keys key := ⟨_, rfl⟩
    rw [← hf] at HTH CF HGET
    obtain ⟨q, hq⟩ : ∃ q, q = w1.heap.size := ⟨_, rfl⟩
    rw [← hq] at q0 q1 q2 q3 HKP
    have HQ := Lib.hid hq
    clear hst hs1 hk1 hm1 hcur hpa hcell hl2 kp2 hpa2 hW2 hth hf hlf hq CW hcap hg hNl hN hlen hl20
    go_upto_region 7 with fail
    rw [← HW2.out, ← HQ.out]
    clear y0 y1 y2 y3
    go_wp2_with fail
    refine CF.out.mono ?_
    rintro e w3 ⟨rfl, hb3⟩
    have HS3 : Hid (Seen B b ill s v 20 w w3) := Lib.hid (HSEEN.out.later (HL2.out.trans hb3))
    obtain ⟨q0, q1, q2, q3⟩ := cells4 (HKP.out.below hb3 HKP.out.lt)
    have HL3 : Hid (Later W2 w3) := Lib.hid hb3
    clear hb3 CF
    cases hT : thereB p.keys key with
    | true =>
      have hlt := HTH.out hT
      have hvl := HVL.out
      obtain ⟨ad, e1, _, _, hc⟩ := HV.out.get (getD_some ByteArray.empty (show f < p.vals.length by omega))
      subst e1
      have hc3 := hc w3 (fun g cs => ((Sm.later HL3.out) g cs).1)
      have i1 : (0 : Int) ≤ (f : Int) := by omega
      have i2 : (f : Int) < (p.vals.length : Int) := by omega
      have i3 : f < p.vals.length := by omega
      have FIN : Hid (FindPost B b ill s v O w (.returned (.tuple #[.string (p.vals.getD f ByteArray.empty), .int .i64 0])) w3) := Lib.hid (by
        rw [HGET.out, hT, if_pos rfl]
        exact ⟨rfl, HS3.out⟩)
      generalize p.vals.getD f ByteArray.empty = x at *
      clear hc hT hlt hvl
      go_wp2_with fail
      go_ret2
      exact FIN.out
    | false =>
      have FIN : Hid (FindPost B b ill s v O w (.returned (.tuple #[.string ⟨#[]⟩, .int .i64 5])) w3) := Lib.hid (by
        rw [HGET.out, hT, if_neg (by simp)]
        exact ⟨rfl, HS3.out⟩)
      clear hT
      go_wp2_with fail
      go_ret2
      exact FIN.out
theorem findT_none {B b : Nat} {w : World} {ill : Int} {s : Sh} {v : Value} {key : ByteArray} (h : ShAt B w b ill s v) :
    Calls Try.prog 14 #[shV b, .int .u64 0, .string key] w (FindPost B b ill s v none w) := by
  have FIN : Hid (FindPost B b ill s v none w (.returned (.tuple #[.string ⟨#[]⟩, .int .i64 5])) w) := Lib.hid ⟨rfl, s.n, Int.le_refl _, by omega, h, DKept.refl, Sm.refl _⟩
  clear h
  go_enter Try.func14, Try.ntmps14
  go_wp2_with fail
  go_ret2
  exact FIN.out
/-- A map's key is found. -/
theorem findT_any {Q : Pg → Prop} {B b : Nat} {w : World} {ill : Int} {s : Sh} {v : Value} {root : Int} {k : Nat} {l : List KV} (key : ByteArray) (h : ShAt B w b ill s v) (hn : 0 ≤ s.n) (hn2 : s.n < 1000000000) (hl : s.S.length ≤ 100000) (hw : ill ≤ s.n)
    (ht : Tree Q s.S k root l) (hk : k ≤ 200) : Calls Try.prog 14 #[shV b, .int .u64 root, .string key] w (FindPost B b ill s v (getL l key) w) := by
  by_cases h0 : root = 0
  · subst h0
    rw [ht.none_ rfl]
    exact findT_none h
  · obtain ⟨d, h1, h2, h3⟩ := ht.some_ h0
    have := ht.few
    have := findT_some (key := key) h hn hn2 hl hw h1 (by rw [h2]; omega) (by omega)
    rwa [h2] at this
end Go.Proofs.Ytafeddjcomeniaa
end

/- Cuts of slices; page.part. Conditions: the bounds lie in the rows. -/
section
namespace Go.Proofs.Ytafeddjcomeniaa
open Go.RowKit
set_option linter.unusedVariables false
set_option linter.unusedSimpArgs false

section
variable {P : Program} {t e : TypeId}
theorem cut_ij (ht : P.underlying t = some (.slice e)) (hs : ∀ w, (sizeOf e).run P w = .ok 1 w) (A : Option Addr) {n c i j : Nat} (h1 : i ≤ j) (h2 : j ≤ c) :
    ∀ W, (Instr.slice t (.slice A n c) (some (.int .i64 (i : Int))) (some (.int .i64 (j : Int))) (some (.int .i64 (j : Int)))).run P W = .ok (.slice (cutA A i j) (j - i) (j - i)) W := by
  intro W
  have a1 : (0 : Int) ≤ (j : Int) ∧ (j : Int) ≤ (c : Int) := by omega
  have a2 : (0 : Int) ≤ (i : Int) ∧ (i : Int) ≤ (j : Int) := by omega
  simp [Instr.slice, Instr.sliceBounds, Instr.sliceBound, asIntOf, run_underlying ht, hs, h1, h2, cutA]
theorem cut_j (ht : P.underlying t = some (.slice e)) (hs : ∀ w, (sizeOf e).run P w = .ok 1 w) (A : Option Addr) {n c j : Nat} (h2 : j ≤ c) :
    ∀ W, (Instr.slice t (.slice A n c) none (some (.int .i64 (j : Int))) (some (.int .i64 (j : Int)))).run P W = .ok (.slice A j j) W := by
  intro W
  have e0 : ∀ a : Addr, a.add 0 = a := fun a => by simp [Addr.add]
  cases A <;> simp [Instr.slice, Instr.sliceBounds, Instr.sliceBound, asIntOf, run_underlying ht, hs, h2, e0]
theorem cut_i (ht : P.underlying t = some (.slice e)) (hs : ∀ w, (sizeOf e).run P w = .ok 1 w) (A : Option Addr) {n c i : Nat} (h1 : i ≤ n) :
    ∀ W, (Instr.slice t (.slice A n c) (some (.int .i64 (i : Int))) none none).run P W = .ok (.slice (cutA A i c) (n - i) (c - i)) W := by
  intro W
  simp [Instr.slice, Instr.sliceBounds, Instr.sliceBound, asIntOf, run_underlying ht, hs, h1, cutA]
end
theorem sz_str : ∀ w, (sizeOf 9).run Try.prog w = .ok 1 w := Try.sizeOf9
theorem sz_u64 : ∀ w, (sizeOf 27).run Try.prog w = .ok 1 w := Try.sizeOf27

set_option maxRecDepth 100000 in
set_option maxHeartbeats 4000000 in
theorem part_exact {w : World} {A1 A2 : Option Addr} {n1 c1 n2 c2 : Nat} {lf : Bool} {v3 : Value} (i j : Nat) (h1 : i ≤ j) (h2 : j ≤ n1) (h3 : j ≤ n2) (hc1 : n1 ≤ c1) (hc2 : n2 ≤ c2) :
    Calls Try.prog 77 #[.agg #[.bool lf, .slice A1 n1 c1, .slice A2 n2 c2, v3], .int .i64 (i : Int), .int .i64 (j : Int)] w fun e w' =>
      e = .returned (.agg #[.bool true, .slice (cutA A1 i j) (j - i) (j - i), .slice (cutA A2 i j) (j - i) (j - i), .slice none 0 0]) ∧ Below w.heap.size w w' := by
  have r1 := cut_ij Try.underlying52 sz_str A1 (n := n1) h1 (Nat.le_trans h2 hc1)
  have r2 := cut_ij Try.underlying52 sz_str A2 (n := n2) h1 (Nat.le_trans h3 hc2)
  generalize cutA A1 i j = B1 at *
  generalize cutA A2 i j = B2 at *
  generalize hk : j - i = k at *
  clear h1 h2 h3 hc1 hc2 hk
  go_enter Try.func77, Try.ntmps77
  go_wp2_with fail
  go_region_held3 (fun w' => w'.cell? ⟨w.heap.size, 1, none⟩ = some (.slice A1 n1 c1) ∧ w'.cell? ⟨w.heap.size, 2, none⟩ = some (.slice A2 n2 c2)) (go_keep) (fail)
  go_wp2_with fail
  refine bodyPost_ret (v := .agg #[.bool true, .slice B1 k k, .slice B2 k k, .slice none 0 0]) (by simp [results, Try.results77, go_sem]) rfl ⟨rfl, ?_⟩
  exact ((Below.drew ((Below.refl _ _).alloc (Nat.le_refl _) _)).alloc (by simp) _)
theorem len_cut {α : Type} (l : List α) {i j : Nat} (h : j ≤ l.length) : ((l.take j).drop i).length = j - i := by
  rw [List.length_drop, List.length_take]; omega
theorem partA {w : World} {A1 A2 A3 : Option Addr} {c1 c2 c3 : Nat} {lf : Bool} {ks vs : List ByteArray} {ns : List Int} (h : PgA w A1 c1 A2 c2 A3 c3 ⟨lf, ks, vs, ns⟩) {i j : Nat} (h1 : i ≤ j) (h2 : j ≤ ks.length) (h3 : j ≤ vs.length) :
    PgA w (cutA A1 i j) (j - i) (cutA A2 i j) (j - i) none 0 (partP ⟨lf, ks, vs, ns⟩ i j) := ⟨h.k.mid h1 h2, h.v.mid h1 h3, Row.nil _ _ (Nat.zero_le _)⟩
theorem part_any {w : World} {A1 A2 A3 : Option Addr} {c1 c2 c3 : Nat} {lf : Bool} {ks vs : List ByteArray} {ns : List Int} (h : PgA w A1 c1 A2 c2 A3 c3 ⟨lf, ks, vs, ns⟩) (i j : Nat) (h1 : i ≤ j) (h2 : j ≤ ks.length) (h3 : j ≤ vs.length) :
    Calls Try.prog 77 #[.agg #[.bool lf, .slice A1 ks.length c1, .slice A2 vs.length c2, .slice A3 ns.length c3], .int .i64 (i : Int), .int .i64 (j : Int)] w fun e w' => Below w.heap.size w w' ∧ ∃ cs, e = .returned (.agg cs) ∧ PgV w' cs (partP ⟨lf, ks, vs, ns⟩ i j) := by
  refine (part_exact i j h1 h2 h3 h.k.le h.v.le).mono ?_
  rintro e w' ⟨rfl, hb⟩
  refine ⟨hb, _, rfl, cutA A1 i j, j - i, cutA A2 i j, j - i, none, 0, ?_, (partA h h1 h2 h3).sm (Sm.below hb)⟩
  unfold pgc
  simp only [partP, List.length_nil]
  rw [len_cut ks h2, len_cut vs h3]
end Go.Proofs.Ytafeddjcomeniaa
end

/- slices.Clone at []byte: what it hands back holds the bytes of what came in, in new memory; nothing else turns. Conditions: the slice can be read, and fits the reach. -/
section
namespace Go.Proofs.Ytafeddjcomeniaa
open Go.RowKit

theorem info_u8 : (Try.prog.info? 5).map (fun i => (i.zero, i.size, i.bytes)) = some (some (.int .u8 0), 1, 1) := by kernel_rfl

set_option maxHeartbeats 400000 in
theorem clone_bytes_some (ad : Addr) (n c : Nat) (xs : List Value) (w : World) (hr : Reads w w.heap.size 1 (some ad) n xs) (h1 : ∀ u ∈ xs, u.oneCell' = true) (hn : n ≤ 140737488355328) :
    Calls Try.prog 73 #[.slice (some ad) n c] w fun e w' => ∃ v, e = .returned v ∧ w'.ownsRow w.heap.size 5 1 v n xs ∧ Below w.heap.size w w' ∧ (∃ g c, v = .slice (some ⟨g, 0, none⟩) n c) := by
  obtain ⟨i0, hi0, hz0, hz1, hz2⟩ := info_parts info_u8
  have q := fun (w : World) => Lib.run_eql_slice_nil (P := Try.prog) w 31 5 (some ad) n c 0 0 Try.underlying31
  go_enter Try.func73, Try.ntmps73
  go_wp2_with (at_builtin; refine wpList_append_any _ rfl (.tmp 5) (.tmp 6) _ rfl w.heap.size 5 i0 _ 1 1 Try.underlying31 hi0 hz0 hz1 hz2 rfl (by omega) (.slice (some ⟨w.heap.size, 0, none⟩) 0 0) 0 [] rfl (World.ownsRow_lit w #[] 0 (Nat.le_refl _) (by unfold maxLen; omega) rfl) w.heap.size (some ad) n c xs rfl (hr.alloc (Nat.le_refl _) _) h1 (by simp only [maxLen]; omega) (by omega) (by simp) ?_; intro v1 w1 hown1 hg1 hat1)
  go_ret
  refine ⟨v1, rfl, by simpa using hown1, ((Below.refl _ _).alloc (Nat.le_refl _) _).grown hg1 (by simp) (fun k hk => by simp [Value.ownBlock] at hk; omega), ?_⟩
  have hown1 : w1.ownsRow w.heap.size 5 1 v1 n xs := by simpa using hown1
  rcases hat1 with e | e
  · obtain ⟨c', hv, _⟩ := own_form hown1 (k := w.heap.size) (by rw [e]; rfl)
    exact ⟨_, c', hv⟩
  · obtain ⟨c', hv, _⟩ := own_form hown1 e
    exact ⟨_, c', hv⟩

theorem clone_bytes_nil (w : World) :
    Calls Try.prog 73 #[.slice none 0 0] w fun e w' => e = .returned (.slice none 0 0) ∧ w = w' := by
  have q := fun (w : World) => Lib.run_eql_slice_nil (P := Try.prog) w 31 5 none 0 0 0 0 Try.underlying31
  go_enter Try.func73, Try.ntmps73
  go_wp2
  go_ret
  exact ⟨rfl, rfl⟩
end Go.Proofs.Ytafeddjcomeniaa
end

/- pack's writers: what each hands back. Conditions: the slice can be read. -/
section
namespace Go.Proofs.Ytafeddjcomeniaa
open Go.RowKit

/-- What a writer hands back: the bytes r, in new memory. -/
def Put (w : World) (r : List UInt8) (e : Ending) (w' : World) : Prop :=
  ∃ g c, e = .returned (.slice (some ⟨g, 0, none⟩) r.length c) ∧ w'.ownsRow w.heap.size 5 1 (.slice (some ⟨g, 0, none⟩) r.length c) r.length (r.map byt) ∧ Below w.heap.size w w'

theorem clone_any {w : World} {A : Option Addr} {n c : Nat} {l : List UInt8} (h : Bts w A n c l) (hn : n ≤ 140737488355328) :
    Calls Try.prog 73 #[.slice A n c] w fun e w' => ∃ v, e = .returned v ∧ w'.ownsRow w.heap.size 5 1 v l.length (l.map byt) ∧ Below w.heap.size w w' := by
  obtain ⟨h0, hr, _, _, hl⟩ := h
  subst hl
  cases A with
  | none =>
    obtain ⟨h1, rfl⟩ := h0 rfl
    obtain rfl : l = [] := List.eq_nil_of_length_eq_zero h1
    exact (clone_bytes_nil w).mono fun e w' ⟨he, hw⟩ => by subst hw; exact ⟨_, he, World.ownsRow_nil _ _ _ _, Below.refl _ _⟩
  | some ad => exact (clone_bytes_some ad _ c _ w hr (byt_one l) hn).mono fun e w' ⟨v, he, ho, hb, _⟩ => ⟨v, he, ho, hb⟩

theorem byte_one (k : Int) : ∀ u ∈ [Value.int .u8 k], u.oneCell' = true := by
  intro u hu
  simp at hu
  subst hu
  rfl

/-- One byte more. -/
theorem own_more {w : World} {base : Nat} {g c n : Nat} {r : List UInt8} {k : Int} (x : UInt8) (hk : k = (x.toNat : Int)) (hn : r.length = n)
    (h : w.ownsRow base 5 1 (.slice (some ⟨g, 0, none⟩) (n + 1) c) (n + 1) (r.map byt ++ [.int .u8 k])) :
    w.ownsRow base 5 1 (.slice (some ⟨g, 0, none⟩) (r ++ [x]).length c) (r ++ [x]).length ((r ++ [x]).map byt) := by
  subst hn hk
  simpa [byt] using h

theorem own_lt {w w' : World} {base : Nat} {v : Value} {n : Nat} {xs : List Value} (h : w.ownsRow base 5 1 v n xs) {o : Obj} (hb : base ≤ w.heap.size) (hg : (w.alloc o).grownBy w' v.ownBlock) : Below base w w' :=
  ((Below.refl base w).alloc hb o).grown hg (by simp; omega) (fun k hk => (h.lt k hk).1)

theorem and127 (u : Nat) (h : u < 18446744073709551616) : bits .and .u64 (u : Int) 127 = (u : Int) % 128 := by
  have := bits_and_u64_nat u 127 h (by omega)
  rw [nat_mask7] at this
  simpa using this
theorem or128 (u : Nat) : bits .or .u64 ((u : Int) % 128) 128 = (u : Int) % 128 + 128 := by
  have h1 : u % 128 < 128 := by omega
  have := bits_or_u64_nat (u % 128) 128 (by omega) (by omega)
  have e : u % 128 ||| 128 = u % 128 + 128 := by rw [Nat.or_comm, nat_join 7 128 (u % 128) (by omega) (by omega)]; omega
  rw [e] at this
  simpa using this

set_option maxRecDepth 100000 in
set_option maxHeartbeats 1000000 in
theorem packU_any {w : World} {A : Option Addr} {n c : Nat} {l : List UInt8} (u : Nat) (h : Bts w A n c l) (hn : n ≤ 140737488355000) (hu : u < 18446744073709551616) :
    Calls Try.prog 50 #[.slice A n c, .int .u64 (u : Int)] w (Put w (l ++ putU u)) := by
  obtain ⟨i0, hi0, hz0, hz1, hz2⟩ := info_parts info_u8
  have CL := Lib.hid (clone_any h (by omega))
  have hl := h.2.2.2.2
  have ht := putU_ten hu
  have HL := Lib.hid hl
  clear h hl
  go_enter Try.func50, Try.ntmps50
  go_wp2_with fail
  refine CL.out.mono ?_
  rintro e w1 ⟨v, rfl, hown, hbel⟩
  go_wp2_with fail
  go_loopg [0, 1] u (fun k bv uv wr => ∃ (u' : Nat) (r : List UInt8), u' ≤ k ∧ uv = .int .u64 (u' : Int) ∧ Hid (r ++ putU u' = l ++ putU u) ∧ u' < 18446744073709551616 ∧
    wr.ownsRow w.heap.size 5 1 bv r.length (r.map byt) ∧ Below w.heap.size w wr)
  case atStart => exact ⟨u, l, Nat.le_refl _, rfl, rfl, hu, by rw [HL.out]; have := hown; rwa [HL.out] at this, hbel⟩
  case round =>
    clear hown hbel
    obtain ⟨u', r, hk, rfl, HR, hu', hown, hB⟩ := hrel
    have hrl : r.length + (putU u').length = n + (putU u).length := by
      have := congrArg List.length HR.out
      simp only [List.length_append] at this
      rw [HL.out] at this
      exact this
    have hp := putU_pos u'
    by_cases hs : u' < 128
    · have e1 : putU u' = [UInt8.ofNat u'] := putU_small hs
      have HO := Lib.hid hown
      have HE1 := Lib.hid e1
      have hr0 : r.length ≤ 140737488355100 := by omega
      clear hrl e1 hown
      go_wp2_with (at_builtin; go_must (refine wpList_append_lies _ rfl (.tmp 18) (.tmp 21) _ rfl w.heap.size 5 i0 _ 1 1 Try.underlying31 hi0 hz0 hz1 hz2 rfl (by omega) u0 r.length (r.map byt) rfl (HO.out.alloc _) ⟨wr.heap.size, 0, none⟩ 1 1 [.int .u8 (u' : Int)] rfl rfl (cell_one_new _ _ _) (byte_one _) (by omega) (by unfold maxLen; omega) (by omega) (by have := hB.size; simp; omega) _ rfl ?_); intro g c1 w2 hown2 hg2 hat2 hlt2)
      go_ret
      have hx := own_more (UInt8.ofNat u') (by simp; omega) rfl hown2
      rw [← HE1.out, HR.out] at hx
      refine ⟨g, c1, ?_, hx, hB.trans (own_lt HO.out hB.size hg2)⟩
      have := congrArg List.length HR.out
      rw [HE1.out] at this
      rw [← this]
      simp
    · have e1 : putU u' = UInt8.ofNat (u' % 128 + 128) :: putU (u' / 128) := putU_big hs
      have HO := Lib.hid hown
      have HE1 := Lib.hid e1
      have hr0 : r.length ≤ 140737488355100 := by omega
      have b1 := and127 u' hu'
      have b2 := or128 u'
      clear hrl e1 hown
      go_wp2_with (at_builtin; go_must (refine wpList_append_lies _ rfl (.tmp 11) (.tmp 16) _ rfl w.heap.size 5 i0 _ 1 1 Try.underlying31 hi0 hz0 hz1 hz2 rfl (by omega) u0 r.length (r.map byt) rfl (HO.out.alloc _) ⟨wr.heap.size, 0, none⟩ 1 1 [.int .u8 _] rfl rfl (cell_one_new _ _ _) (byte_one _) (by omega) (by unfold maxLen; omega) (by omega) (by have := hB.size; simp; omega) _ rfl ?_); intro g c1 w2 hown2 hg2 hat2 hlt2)
      go_roundg (u' / 128)
      case measure => omega
      case rel =>
        have hx := own_more (UInt8.ofNat (u' % 128 + 128)) (by simp; omega) rfl hown2
        refine ⟨u' / 128, r ++ [UInt8.ofNat (u' % 128 + 128)], Nat.le_refl _, by simp, ?_, by omega, by simpa using hx, hB.trans (own_lt HO.out hB.size hg2)⟩
        have := HR.out
        rw [HE1.out] at this
        exact (show _ = _ by simpa using this)
end Go.Proofs.Ytafeddjcomeniaa
end

/- pack.I, pack.S, and the reference's writers: what each hands back. Conditions: the slice can be read. -/
section
namespace Go.Proofs.Ytafeddjcomeniaa
open Go.RowKit

theorem strCells_byt (s : List UInt8) : Lib.strCells ⟨s.toArray⟩ = s.map byt := by
  simp [Lib.strCells, byt]

theorem put_str {w w1 w2 : World} {base g c : Nat} {r s : List UInt8} {v' : Value} (hown : w1.ownsRow base 5 1 (.slice (some ⟨g, 0, none⟩) r.length c) r.length (r.map byt)) (h0 : base = w.heap.size) (hpos : 0 < r.length)
    (h1 : w2.ownsRow base 5 1 v' (r.length + s.length) (r.map byt ++ Lib.strCells ⟨s.toArray⟩)) (h2 : w1.grownBy w2 (some g)) (hbel : Below w.heap.size w w1) :
    Put w (r ++ s) (.returned v') w2 := by
  subst h0
  rw [strCells_byt] at h1
  obtain ⟨g', c', hv, hg', _⟩ := h1.form (by omega)
  subst hv
  have e : r.length + s.length = (r ++ s).length := by simp
  rw [e, ← List.map_append] at h1
  refine ⟨g', c', by rw [e], h1, hbel.grown h2 hbel.size (fun k hk => ?_)⟩
  obtain rfl : g = k := by simpa using hk
  exact (hown.lt g rfl).1

set_option maxRecDepth 100000 in
set_option maxHeartbeats 400000 in
theorem packS_any {w : World} {A : Option Addr} {n c : Nat} {l : List UInt8} (s : List UInt8) (h : Bts w A n c l) (hn : n + s.length ≤ 140737488355000) :
    Calls Try.prog 51 #[.slice A n c, .string ⟨s.toArray⟩] w (Put w (l ++ putU s.length ++ s)) := by
  obtain ⟨i0, hi0, hz0, hz1, hz2⟩ := info_parts info_u8
  have C := Lib.hid (packU_any s.length h (by omega) (by omega))
  have hl := h.2.2.2.2
  have ht := putU_ten (show s.length < 18446744073709551616 by omega)
  have hp := putU_pos s.length
  have hsz : ByteArray.size ⟨s.toArray⟩ = s.length := rfl
  have hr : (l ++ putU s.length).length ≤ n + 10 := by simp; omega
  have hr1 : 0 < (l ++ putU s.length).length := by simp; omega
  generalize l ++ putU s.length = r at *
  clear hl ht hp h
  go_enter Try.func51, Try.ntmps51
  go_wp2_with fail
  refine C.out.mono ?_
  rintro e w1 ⟨g, c1, rfl, hown, hbel⟩
  have HO := Lib.hid hown
  clear hown
  go_wp2_with (at_builtin; go_must (refine Lib.wpList_append_own_string _ rfl (.tmp 9) (.tmp 10) _ _ rfl w.heap.size 5 i0 Try.underlying31 Try.underlying9 hi0 hz0 hz1 hz2 (.slice (some ⟨g, 0, none⟩) r.length c1) r.length (r.map byt) rfl HO.out ⟨s.toArray⟩ rfl (by rw [hsz]; unfold maxLen; omega) (by rw [hsz]; omega) hbel.size ?_); intro v2 w2 hown2 hg2 hat2)
  go_ret
  exact put_str HO.out rfl hr1 hown2 hg2 hbel

end Go.Proofs.Ytafeddjcomeniaa
end

/- Laws of slices of bytes that every later text wants: as a string, as a block, nil, below. Conditions: none. -/
section
namespace Go.Proofs.Ytafeddjcomeniaa
open Go.RowKit

theorem add_zero_off (g j : Nat) : (⟨g, 0, none⟩ : Addr).add j = ⟨g, j, none⟩ := by unfold Addr.add; by_cases e : j = 0 <;> simp [e]

/-- A whole block of bytes, as a slice. -/
theorem bts_blk {w : World} {g n : Nat} {l : List UInt8} (h : Blk w g 5 (l.map byt).toArray) (hl : l.length = n) (hm : n ≤ maxLen) : Bts w (some ⟨g, 0, none⟩) n n l := by
  refine ⟨by simp, ⟨by simp [hl], fun _ => ⟨_, rfl, h.lt, fun j u hu => ?_⟩⟩, Nat.le_refl _, hm, hl⟩
  rw [add_zero_off, h.cell j]
  simpa using hu
theorem bts_nil (w : World) : Bts w none 0 0 [] := ⟨fun _ => ⟨rfl, rfl⟩, Reads.none_, Nat.le_refl _, Nat.zero_le _, rfl⟩

theorem Bts.below {w w' : World} {A : Option Addr} {n c : Nat} {l : List UInt8} (h : Bts w A n c l) (hb : Below w.heap.size w w') : Bts w' A n c l :=
  (BtsB.below (show BtsB w w.heap.size A n c l from h) hb).bts hb.size
/-- What a law's row tells of an argument of bytes: it is nil, or it leads to a row of cells. -/
def IsRow (k : IntKind) (w : World) (a : Option Addr) (len cap : Nat) (zs : List Int) : Prop :=
  (a = none ∧ len = 0 ∧ cap = 0 ∧ zs = []) ∨
  ∃ x, a = some x ∧ len ≤ cap ∧ cap ≤ maxLen ∧ zs.length = cap ∧ (∀ i, i < zs.length → w.cell? (x.add i) = some (.int k (zs.getD i 0))) ∧ ∀ n ∈ zs, (Lit.int k n).wf = true

theorem IsRow.bts {w : World} {A : Option Addr} {n c : Nat} {zs : List Int} (h : IsRow .u8 w A n c zs) : ∃ l, Bts w A n c l := by
  rcases h with ⟨rfl, rfl, rfl, rfl⟩ | ⟨x, rfl, h1, h2, h3, h4, h5⟩
  · exact ⟨[], bts_nil w⟩
  · have hb : ∀ z ∈ zs, 0 ≤ z ∧ z < 256 := by
      intro z hz
      have := h5 z hz
      simp only [Lit.wf, Bool.and_eq_true, decide_eq_true_eq] at this
      have e1 : IntKind.u8.min = 0 := by decide
      have e2 : IntKind.u8.max = 255 := by decide
      omega
    have e : ((zs.take n).map fun z => UInt8.ofNat z.toNat).map byt = (zs.take n).map (Value.int .u8) := by
      rw [List.map_map]
      refine List.map_congr_left fun z hz => ?_
      have := hb z (List.mem_of_mem_take hz)
      simp only [Function.comp, byt, UInt8.toNat_ofNat']
      congr 1
      omega
    refine ⟨(zs.take n).map fun z => UInt8.ofNat z.toNat, by simp, ⟨by simp; omega, fun hn => ⟨x, rfl, ?_, fun j u hu => ?_⟩⟩, h1, h2, by simp; omega⟩
    · have := h4 0 (by omega)
      have := World.block_lt_of_cell? _ _ this
      rwa [block_of_add] at this
    · rw [e] at hu
      have hj : j < n := by
        have := (List.getElem?_eq_some_iff.1 hu).1
        simp at this
        omega
      rw [h4 j (by omega)]
      simp only [List.getElem?_map, List.getElem?_take, if_pos hj] at hu
      have hjz : j < zs.length := by omega
      rw [List.getElem?_eq_getElem hjz] at hu
      rw [List.getD, List.getElem?_eq_getElem hjz]
      simpa using hu
end Go.Proofs.Ytafeddjcomeniaa
end

/- page.Encode and page.Bytes: the bytes of a page. Conditions: the page reads in memory; its bytes are few. -/
section
namespace Go.Proofs.Ytafeddjcomeniaa
open Go.RowKit
set_option linter.unusedVariables false

def PutB (w : World) (r : List UInt8) (e : Ending) (w' : World) : Prop := ∃ A c, e = .returned (.slice A r.length c) ∧ Bts w' A r.length c r ∧ Below w.heap.size w w'
theorem putB {w : World} {r : List UInt8} {e : Ending} {w' : World} (h : Put w r e w') : PutB w r e w' := by
  obtain ⟨g, c, rfl, ho, hb⟩ := h
  exact ⟨_, c, rfl, own_bts ho, hb⟩
theorem putU_b {w : World} {A : Option Addr} {c : Nat} {l : List UInt8} (u : Nat) (h : Bts w A l.length c l) (hn : l.length ≤ 140737488355000) (hu : u < 18446744073709551616) :
    Calls Try.prog 50 #[.slice A l.length c, .int .u64 (u : Int)] w (PutB w (l ++ putU u)) := (packU_any u h hn hu).mono fun _ _ => putB
theorem putS_b {w : World} {A : Option Addr} {c : Nat} {l : List UInt8} (s : ByteArray) (h : Bts w A l.length c l) (hn : l.length + s.size ≤ 140737488355000) :
    Calls Try.prog 51 #[.slice A l.length c, .string s] w (PutB w (l ++ putS s)) := by
  have := packS_any s.data.toList h (by rw [ba_len]; exact hn)
  rw [ba_len] at this
  refine Calls.mono (show Calls Try.prog 51 #[.slice A l.length c, .string s] w _ from this) fun _ _ h => putB ?_
  rw [putS, ← List.append_assoc]; exact h

section
variable {w : World} {A1 A2 A3 : Option Addr} {c1 c2 c3 : Nat} {ks vs : List ByteArray} {ns : List Int}
set_option maxRecDepth 100000 in
set_option maxHeartbeats 4000000 in
theorem enc_leaf (h : PgA w A1 c1 A2 c2 A3 c3 ⟨true, ks, vs, ns⟩) (hv : vs.length = ks.length) (hlen : (encP ⟨true, ks, vs, ns⟩).length ≤ 140737488300000) :
    Calls Try.prog 18 #[.agg (pgc A1 c1 A2 c2 A3 c3 ⟨true, ks, vs, ns⟩)] w (PutB w (encP ⟨true, ks, vs, ns⟩)) := by
  unfold pgc
  dsimp only
  obtain ⟨W0, hW0⟩ : ∃ W0, W0 = (w.alloc (.cells #[.bool true, .slice A1 ks.length c1, .slice A2 vs.length c2, .slice A3 ns.length c3] 54)).alloc (.cells #[.int .u8 66] 5) := ⟨_, rfl⟩
  have hb0 : Below w.heap.size w W0 := by rw [hW0]; exact (below_new _ _).alloc (by simp) _
  have kp : Blk W0 w.heap.size 54 #[.bool true, .slice A1 ks.length c1, .slice A2 vs.length c2, .slice A3 ns.length c3] := by rw [hW0]; exact (Blk.new _ _ _).alloc _
  have kq : Blk W0 (w.heap.size + 1) 5 #[.int .u8 66] := by
    rw [hW0]
    have := Blk.new (w.alloc (.cells #[.bool true, .slice A1 ks.length c1, .slice A2 vs.length c2, .slice A3 ns.length c3] 54)) 5 #[.int .u8 66]
    simpa using this
  have hlt := kq.lt
  obtain ⟨W1, hW1⟩ : ∃ W1, W1 = W0.setCell ⟨w.heap.size + 1, 0, none⟩ (.int .u8 76) := ⟨_, rfl⟩
  have u := upd1 kq 0 (.int .u8 76)
  rw [← hW1] at u
  have hb1 : Below w.heap.size w W1 := u.below hb0 (by omega) (Nat.le_refl _)
  have kp1 := u.far kp (by omega)
  have hB : Bts W1 (some ⟨w.heap.size + 1, 0, none⟩) 1 1 [76] := bts_blk (l := [76]) (by exact u.blk) rfl (by unfold maxLen; omega)
  have hS : Sm w W1 := (Sm.below hb0).trans (u.sm kq (by decide) (by decide))
  have h1 := h.sm hS
  have hkm : ks.length ≤ 9223372036854775807 := by have h2 : ks.length ≤ c1 := h.k.le; have h3 := h.k.cap; unfold maxLen at h3; omega
  have hkl : ks.length < 18446744073709551616 := by omega
  have CU := Lib.hid (putU_b (l := [76]) ks.length hB (by simp) hkl)
  obtain ⟨q0, q1, q2, q3⟩ := cells4 kp1
  have x0 : W0.cell? ⟨w.heap.size + 1, 0, none⟩ = some (.int .u8 66) := (kq.cell 0).trans rfl
  have f0 := kq.frozen 0
  obtain ⟨z0, z1, z2, z3⟩ := cells4 kp
  obtain ⟨R, hR⟩ : ∃ R, R = encP ⟨true, ks, vs, ns⟩ := ⟨_, rfl⟩
  have hRe : R = [76] ++ putU ks.length ++ encFrom ⟨true, ks, vs, ns⟩ 0 := by rw [hR, encFrom_zero]; rfl
  rw [← hR] at hlen ⊢
  have HR := Lib.hid hRe
  have HW0 := Lib.hid hW0
  have HW1 := Lib.hid hW1
  have HB1 := Lib.hid hb1
  have HK1 := Lib.hid kp1
  have H1 := Lib.hid h1
  have HV := Lib.hid hv
  have HKM := Lib.hid hkm
  clear h h1 hW0 hb0 kp kq hlt hW1 u hb1 kp1 hB hS hkl hR hRe hv
  go_enter Try.func18, Try.ntmps18
  go_upto_region 3 with fail
  rw [← HW0.out]
  go_wp2_with fail
  rw [← HW1.out]
  refine CU.out.mono ?_
  rintro e w2 ⟨A, c, rfl, hb2, hbl⟩
  have hbw : Below w.heap.size w w2 := HB1.out.trans (hbl.mono HB1.out.size)
  obtain ⟨y0, y1, y2, y3⟩ := cells4 (HK1.out.below hbl HK1.out.lt)
  have HI := Lib.hid (show ∃ r : List UInt8, [76] ++ putU ks.length = r ∧ r ++ encFrom ⟨true, ks, vs, ns⟩ 0 = R ∧ Bts w2 A r.length c r from ⟨_, rfl, HR.out.symm, hb2⟩)
  obtain ⟨r0, hr0⟩ : ∃ r0, r0 = [76] ++ putU ks.length := ⟨_, rfl⟩
  rw [← hr0] at hb2 ⊢
  have HR0 := Lib.hid hr0
  have HB2 := Lib.hid hb2
  have HL2 : Hid (Later W1 w2) := Lib.hid hbl
  clear CU z0 z1 z2 z3 x0 f0 q0 q1 q2 q3 hb2 hbl hr0 HI
  go_wp2_with fail
  go_loopw [3, 22] (fun sv iv wr => ∃ (j : Nat) (r : List UInt8) (A : Option Addr) (c : Nat), j ≤ ks.length ∧ iv = .int .i64 (j : Int) ∧ sv = .slice A r.length c ∧ Hid (Bts wr A r.length c r) ∧ Hid (r ++ encFrom ⟨true, ks, vs, ns⟩ j = R) ∧ Hid (Later W1 wr)) (fun _ iv _ => ks.length - (intOf iv).toNat)
  case atStart => exact ⟨0, r0, A, c, Nat.zero_le _, rfl, rfl, HB2, Lib.hid (by rw [HR0.out]; exact HR.out.symm), HL2⟩
  case round =>
    clear y0 y1 y2 y3 hbw HL2 HB2
    obtain ⟨j, r, A, c, hj, rfl, rfl, HB, HE, HL⟩ := hrel
    have km := HKM.out
    have hbw : Below w.heap.size w wr := HB1.out.trans ((show Below _ _ _ from HL.out).mono HB1.out.size)
    obtain ⟨q0, q1, q2, q3⟩ := cells4 (HK1.out.below HL.out HK1.out.lt)
    by_cases hlt : j < ks.length
    · have hjv : j < vs.length := by rw [HV.out]; exact hlt
      obtain ⟨ad, rfl, _, _, hc⟩ := H1.out.k.get (List.getElem?_eq_getElem hlt)
      obtain ⟨ad2, rfl, _, _, hc2⟩ := H1.out.v.get (List.getElem?_eq_getElem hjv)
      have hk := hc wr (fun g cs => ((Sm.later HL.out) g cs).1)
      have hstep := encFrom_kv ⟨true, ks, vs, ns⟩ (i := j) hlt rfl hjv
      dsimp only at hstep
      have hRl := congrArg List.length HE.out
      rw [hstep] at hRl
      simp only [List.length_append, putS_len] at hRl
      have C1 := Lib.hid (putS_b ks[j] HB.out (by omega))
      have hE2 : r ++ putS ks[j] ++ putS vs[j] ++ encFrom ⟨true, ks, vs, ns⟩ (j + 1) = R := by rw [← HE.out, hstep]; simp
      have HE2 := Lib.hid hE2
      have HC2 := Lib.hid hc2
      have hsz : (r ++ putS ks[j]).length + vs[j].size ≤ 140737488355000 := by simp only [List.length_append, putS_len]; omega
      have HSZ := Lib.hid hsz
      clear hc hc2 hstep hRl hE2 hsz
      generalize ks[j] = k at *
      generalize vs[j] = v at *
      generalize r ++ putS k = r1 at *
      generalize hr2 : r1 ++ putS v = r2 at *
      have HR2 := Lib.hid hr2
      clear hr2
      have hj2 : decide ((j : Int) < (vs.length : Int)) = true := decide_eq_true (by omega)
      go_wp2_with fail
      refine C1.out.mono ?_
      rintro e w3 ⟨A', c', rfl, hb3, hbl⟩
      have hl3 : Later W1 w3 := HL.out.of hbl
      obtain ⟨y0, y1, y2, y3⟩ := cells4 (HK1.out.below hl3 HK1.out.lt)
      have hv3 := HC2.out w3 (fun g cs => ((Sm.later hl3) g cs).1)
      have C2 := putS_b v hb3 HSZ.out
      rw [HR2.out] at C2
      have C2 := Lib.hid C2
      have HL3 := Lib.hid hl3
      clear hb3 hbl hl3 C1 HSZ
      go_wp2_with fail
      refine C2.out.mono ?_
      rintro e w4 ⟨A'', c'', rfl, hb4, hbl⟩
      have HL4 : Hid (Later W1 w4) := Lib.hid (HL3.out.of hbl)
      have HB4 := Lib.hid hb4
      clear hbl hb4 C2
      go_wp2_with fail
      go_roundw
      case rel => exact ⟨j + 1, _, A'', c'', by omega, by go_num, rfl, HB4, HE2, HL4⟩
      case measure => simp [intOf]; omega
    · have hE := HE.out
      rw [encFrom_end _ (by dsimp only; omega)] at hE
      simp only [if_true, List.append_nil] at hE
      subst hE
      have HBW := Lib.hid hbw
      clear hbw
      go_wp2_with fail
      go_ret
      exact ⟨A, c, rfl, HB.out, HBW.out⟩
end
end Go.Proofs.Ytafeddjcomeniaa
end

/- page.Encode of a branch, and page.Bytes. Conditions: the page reads in memory; it may be, and has few keys. -/
section
namespace Go.Proofs.Ytafeddjcomeniaa
open Go.RowKit
set_option linter.unusedVariables false
section
variable {w : World} {A1 A2 A3 : Option Addr} {c1 c2 c3 : Nat} {ks vs : List ByteArray} {ns : List Int}
set_option maxRecDepth 100000 in
set_option maxHeartbeats 4000000 in
theorem enc_branch (h : PgA w A1 c1 A2 c2 A3 c3 ⟨false, ks, vs, ns⟩) (hn : Nums ns) (hlen : (encP ⟨false, ks, vs, ns⟩).length ≤ 140737488300000) :
    Calls Try.prog 18 #[.agg (pgc A1 c1 A2 c2 A3 c3 ⟨false, ks, vs, ns⟩)] w (PutB w (encP ⟨false, ks, vs, ns⟩)) := by
  unfold pgc
  dsimp only
  obtain ⟨W0, hW0⟩ : ∃ W0, W0 = (w.alloc (.cells #[.bool false, .slice A1 ks.length c1, .slice A2 vs.length c2, .slice A3 ns.length c3] 54)).alloc (.cells #[.int .u8 66] 5) := ⟨_, rfl⟩
  have hb0 : Below w.heap.size w W0 := by rw [hW0]; exact (below_new _ _).alloc (by simp) _
  have kp : Blk W0 w.heap.size 54 #[.bool false, .slice A1 ks.length c1, .slice A2 vs.length c2, .slice A3 ns.length c3] := by rw [hW0]; exact (Blk.new _ _ _).alloc _
  have kq : Blk W0 (w.heap.size + 1) 5 #[.int .u8 66] := by
    rw [hW0]
    have := Blk.new (w.alloc (.cells #[.bool false, .slice A1 ks.length c1, .slice A2 vs.length c2, .slice A3 ns.length c3] 54)) 5 #[.int .u8 66]
    simpa using this
  have hB : Bts W0 (some ⟨w.heap.size + 1, 0, none⟩) 1 1 [66] := bts_blk (l := [66]) kq rfl (by unfold maxLen; omega)
  have h1 := h.sm (Sm.below hb0)
  have hkm : ks.length ≤ 9223372036854775807 := by have h2 : ks.length ≤ c1 := h.k.le; have h3 := h.k.cap; unfold maxLen at h3; omega
  have hnm : ns.length ≤ 9223372036854775807 := by have h2 : ns.length ≤ c3 := h.n.le; have h3 := h.n.cap; unfold maxLen at h3; omega
  have CU := Lib.hid (putU_b (l := [66]) ks.length hB (by simp) (by omega))
  obtain ⟨q0, q1, q2, q3⟩ := cells4 kp
  obtain ⟨R, hR⟩ : ∃ R, R = encP ⟨false, ks, vs, ns⟩ := ⟨_, rfl⟩
  have hRe : R = [66] ++ putU ks.length ++ encFrom ⟨false, ks, vs, ns⟩ 0 := by rw [hR, encFrom_zero]; rfl
  rw [← hR] at hlen ⊢
  have HR := Lib.hid hRe
  have HW0 := Lib.hid hW0
  have HB1 := Lib.hid hb0
  have HK1 := Lib.hid kp
  have H1 := Lib.hid h1
  have HKM := Lib.hid hkm
  have HNM := Lib.hid hnm
  have HNN := Lib.hid hn
  clear h h1 hW0 hb0 kp kq hB hR hRe hnm hn
  go_enter Try.func18, Try.ntmps18
  go_upto_region 2 with fail
  rw [← HW0.out]
  go_wp2_with fail
  refine CU.out.mono ?_
  rintro e w2 ⟨A, c, rfl, hb2, hbl⟩
  obtain ⟨y0, y1, y2, y3⟩ := cells4 (HK1.out.below hbl HK1.out.lt)
  obtain ⟨r0, hr0⟩ : ∃ r0, r0 = [66] ++ putU ks.length := ⟨_, rfl⟩
  rw [← hr0] at hb2 ⊢
  have HR0 := Lib.hid hr0
  have HB2 := Lib.hid hb2
  have HL2 : Hid (Later W0 w2) := Lib.hid hbl
  clear CU q0 q1 q2 q3 hb2 hbl hr0
  go_wp2_with fail
  go_loopw [3, 22] (fun sv iv wr => ∃ (j : Nat) (r : List UInt8) (A : Option Addr) (c : Nat), j ≤ ks.length ∧ iv = .int .i64 (j : Int) ∧ sv = .slice A r.length c ∧ Hid (Bts wr A r.length c r) ∧ Hid (r ++ encFrom ⟨false, ks, vs, ns⟩ j = R) ∧ Hid (Later W0 wr)) (fun _ iv _ => ks.length - (intOf iv).toNat)
  case atStart => exact ⟨0, r0, A, c, Nat.zero_le _, rfl, rfl, HB2, Lib.hid (by rw [HR0.out]; exact HR.out.symm), HL2⟩
  case round =>
    clear y0 y1 y2 y3 HL2 HB2
    obtain ⟨j, r, A, c, hj, rfl, rfl, HB, HE, HL⟩ := hrel
    obtain ⟨q0, q1, q2, q3⟩ := cells4 (HK1.out.below HL.out HK1.out.lt)
    by_cases hlt : j < ks.length
    · obtain ⟨ad, rfl, _, _, hc⟩ := H1.out.k.get (List.getElem?_eq_getElem hlt)
      have hk := hc wr (fun g cs => ((Sm.later HL.out) g cs).1)
      have hstep := encFrom_b ⟨false, ks, vs, ns⟩ (i := j) hlt rfl
      dsimp only at hstep
      have hRl := congrArg List.length HE.out
      rw [hstep] at hRl
      simp only [List.length_append, putS_len] at hRl
      have C1 := Lib.hid (putS_b ks[j] HB.out (by omega))
      have hE2 : r ++ putS ks[j] ++ encFrom ⟨false, ks, vs, ns⟩ (j + 1) = R := by rw [← HE.out, hstep]; simp
      have HE2 := Lib.hid hE2
      clear hc hstep hRl hE2
      generalize ks[j] = k at *
      generalize r ++ putS k = r1 at *
      go_wp2_with fail
      refine C1.out.mono ?_
      rintro e w3 ⟨A', c', rfl, hb3, hbl⟩
      have hl3 : Later W0 w3 := HL.out.of hbl
      obtain ⟨y0, y1, y2, y3⟩ := cells4 (HK1.out.below hl3 HK1.out.lt)
      have HL3 := Lib.hid hl3
      have HB3 := Lib.hid hb3
      clear hb3 hbl hl3 C1
      go_wp2_with fail
      go_roundw
      case rel => exact ⟨j + 1, _, A', c', by omega, by go_num, rfl, HB3, HE2, HL3⟩
      case measure => simp [intOf]; omega
    · have hE := HE.out
      rw [encFrom_end _ (by dsimp only; omega)] at hE
      simp only [Bool.false_eq_true, if_false] at hE
      have HE3 : Hid (r ++ encN (ns.drop 0) = R) := Lib.hid hE
      have nm := HNM.out
      clear hE HE hkm
      go_wp2_with fail
      go_loopw [3, 53] (fun sv iv wr => ∃ (j : Nat) (r : List UInt8) (A : Option Addr) (c : Nat), j ≤ ns.length ∧ iv = .int .i64 (j : Int) ∧ sv = .slice A r.length c ∧ Hid (Bts wr A r.length c r) ∧ Hid (r ++ encN (ns.drop j) = R) ∧ Hid (Later W0 wr)) (fun _ iv _ => ns.length - (intOf iv).toNat)
      case atStart => exact ⟨0, r, A, c, Nat.zero_le _, rfl, rfl, HB, HE3, HL⟩
      case round =>
        clear q0 q1 q2 q3 HB HE3 HL hlt hj
        obtain ⟨j, r, A, c, hj, rfl, rfl, HB, HE, HL⟩ := hrel
        by_cases hlt : j < ns.length
        · obtain ⟨ad, rfl, _, _, hc⟩ := H1.out.n.get (List.getElem?_eq_getElem hlt)
          have hk := hc _ (fun g cs => ((Sm.later HL.out) g cs).2)
          have hstep := encN_cons ns hlt
          have hRl := congrArg List.length HE.out
          rw [hstep] at hRl
          simp only [List.length_append] at hRl
          obtain ⟨hz1, hz2⟩ := HNN.out.at_ hlt
          obtain ⟨m, hm⟩ : ∃ m : Nat, ns[j] = (m : Int) := ⟨ns[j].toNat, by omega⟩
          rw [hm] at hk hstep hz2
          rw [Int.toNat_natCast] at hstep
          have C1 := Lib.hid (putU_b m HB.out (by omega) (by omega))
          have hE2 : r ++ putU m ++ encN (ns.drop (j + 1)) = R := by rw [← HE.out, hstep]; simp
          have HE2 := Lib.hid hE2
          clear hc hstep hRl hE2 hm hz1
          generalize r ++ putU m = r1 at *
          go_wp2_with fail
          refine C1.out.mono ?_
          rintro e w3 ⟨A', c', rfl, hb3, hbl⟩
          have HL3 : Hid (Later W0 w3) := Lib.hid (HL.out.of hbl)
          have HB3 := Lib.hid hb3
          clear hb3 hbl C1
          go_wp2_with fail
          go_roundw
          case rel => exact ⟨j + 1, _, A', c', by omega, by go_num, rfl, HB3, HE2, HL3⟩
          case measure => simp [intOf]; omega
        · have hE := HE.out
          rw [List.drop_eq_nil_of_le (by omega)] at hE
          have hE : r = R := by simpa [encN] using hE
          subst hE
          have HBW := Lib.hid (HB1.out.trans ((show Below _ _ _ from HL.out).mono HB1.out.size))
          go_wp2_with fail
          go_ret
          exact ⟨A, c, rfl, HB.out, HBW.out⟩
end
theorem Ok.enc {p : Pg} (h : Ok p) : (encP p).length ≤ 1000000 := by
  have h1 := sizes_bound 40 p.keys (fun s hs => (good_key_size h.good s hs).2)
  have h2 := sizes_bound 400 p.vals (good_val_size h.good)
  have hf := h.few
  have k1 : ∀ s ∈ p.keys, s.size < 18446744073709551616 := fun s hm => by have := (good_key_size h.good s hm).2; omega
  have k2 : ∀ s ∈ p.vals, s.size < 18446744073709551616 := fun s hm => by have := good_val_size h.good s hm; omega
  have a1 := encKV_le p.keys p.vals k1 k2
  have a2 := encK_le p.keys k1
  have a3 := encN_le p.kids h.nums
  have a4 := putU_le (u := p.keys.length) (by omega)
  have hs := good_shape h.good
  have hv : p.vals.length ≤ 1000 := by
    rcases hs with ⟨_, a, _⟩ | ⟨_, a, _⟩
    · omega
    · rw [a]; simp
  have hk : p.kids.length ≤ 1001 := by
    rcases hs with ⟨_, _, a⟩ | ⟨_, _, a⟩
    · rw [a]; simp
    · omega
  unfold encP encB
  cases p.leaf <;> simp only [List.length_cons, List.length_append, Bool.false_eq_true, if_false, if_true] <;> omega
theorem encode_any {w : World} {cs : Array Value} {p : Pg} (h : PgV w cs p) (ho : Ok p) : Calls Try.prog 18 #[.agg cs] w (PutB w (encP p)) := by
  have hl := ho.enc
  obtain ⟨A1, c1, A2, c2, A3, c3, rfl, h⟩ := h
  obtain ⟨lf, ks, vs, ns⟩ := p
  cases lf with
  | true =>
    rcases good_shape ho.good with ⟨_, a, _⟩ | ⟨e, _⟩
    · exact enc_leaf h a (by omega)
    · cases e
  | false => exact enc_branch h ho.nums (by omega)
theorem bytes_any {w : World} {cs : Array Value} {p : Pg} (h : PgV w cs p) (ho : Ok p) : Calls Try.prog 28 #[.agg cs] w fun e w' => e = .returned (.int .i64 ((encP p).length : Nat)) ∧ Below w.heap.size w w' := by
  have hl := ho.enc
  obtain ⟨W0, hW0⟩ : ∃ W0, W0 = w.alloc (.cells cs 54) := ⟨_, rfl⟩
  have hb0 : Below w.heap.size w W0 := by rw [hW0]; exact below_new _ _
  have kb : Blk W0 w.heap.size 54 cs := by rw [hW0]; exact Blk.new _ _ _
  have C := Lib.hid (encode_any (h.below hb0) ho)
  obtain ⟨A1, c1, A2, c2, A3, c3, rfl, -⟩ := h
  unfold pgc at *
  obtain ⟨q0, q1, q2, q3⟩ := cells4 kb
  have HB := Lib.hid hb0
  have HW := Lib.hid hW0
  generalize encP p = R at *
  clear hb0 hW0 kb ho
  go_enter Try.func28, Try.ntmps28
  go_wp2_with fail
  rw [← HW.out]
  refine C.out.mono ?_
  rintro e w2 ⟨A, c, rfl, hb2, hbl⟩
  have HZ := Lib.hid (HB.out.trans (hbl.mono HB.out.size))
  clear hb2 hbl C
  go_wp2_with fail
  go_ret
  exact ⟨rfl, HZ.out⟩
end Go.Proofs.Ytafeddjcomeniaa
end

/- page.Split of a leaf. Conditions: the page reads in memory; it may be, and has few keys, two at least. -/
section
namespace Go.Proofs.Ytafeddjcomeniaa
open Go.RowKit
set_option linter.unusedVariables false
set_option linter.unusedSimpArgs false

theorem results_csc {P : Program} {fn : Func} {p u q : Tmp} {ty : TypeId} (h : fn.results = #[.cell p ty, .tmp u, .cell q ty]) (tmps : Array Value) (w : World) (g g' : Nat) (t : TypeId) (cs cs' : Array Value) (fr fr' : Nat × Nat) (d : TypeDesc)
    (hp : tmps.getD p undef = .pointer (some ⟨g, 0, none⟩)) (hq : tmps.getD q undef = .pointer (some ⟨g', 0, none⟩)) (hg : w.heap[g]? = some (.cells cs t fr)) (hg' : w.heap[g']? = some (.cells cs' t fr'))
    (hu : P.underlying ty = some d) (hd : (match d with | .struct _ | .array _ _ => true | _ => false) = true) (hi : (P.info? ty).map (·.size) = some cs.size) (hi' : (P.info? ty).map (·.size) = some cs'.size) :
    (results fn tmps).run P w = .ok (.tuple #[.agg cs, tmps.getD u undef, .agg cs']) w := by
  have hp' : tmps[p]?.getD undef = .pointer (some ⟨g, 0, none⟩) := by simpa using hp
  have hq' : tmps[q]?.getD undef = .pointer (some ⟨g', 0, none⟩) := by simpa using hq
  simp [results, h, hp', hq', asAddr, run_loadVar_row w g t ty cs fr d hg hu hd hi, run_loadVar_row w g' t ty cs' fr' d hg' hu hd hi']

/-- What Split answers. -/
def SplitPost (w : World) (a b : Pg) (k : ByteArray) (e : Ending) (w' : World) : Prop :=
  Below w.heap.size w w' ∧ ∃ ca cb, e = .returned (.tuple #[.agg ca, .string k, .agg cb]) ∧ PgV w' ca a ∧ PgV w' cb b
theorem Ok.part {p : Pg} (h : Ok p) (hl : p.leaf = true) (i j : Nat) : Ok (partP p i j) :=
  ⟨good_part h.good hl i j, by show ((p.keys.take j).drop i).length ≤ 1000; rw [List.length_drop, List.length_take]; have := h.few; omega, nums_nil⟩

section
variable {w : World} {A1 A2 A3 : Option Addr} {c1 c2 c3 : Nat} {ks vs : List ByteArray} {ns : List Int}
set_option maxRecDepth 100000 in
set_option maxHeartbeats 8000000 in
theorem split_leaf (h : PgA w A1 c1 A2 c2 A3 c3 ⟨true, ks, vs, ns⟩) (hs : Ok ⟨true, ks, vs, ns⟩) (h2 : 2 ≤ ks.length) :
    Calls Try.prog 61 #[.agg (pgc A1 c1 A2 c2 A3 c3 ⟨true, ks, vs, ns⟩)] w (SplitPost w (partP ⟨true, ks, vs, ns⟩ 0 (splitAt ⟨true, ks, vs, ns⟩)) (partP ⟨true, ks, vs, ns⟩ (splitAt ⟨true, ks, vs, ns⟩) ks.length) (ks.getD (splitAt ⟨true, ks, vs, ns⟩) ByteArray.empty)) := by
  have hn0 : ks.length ≤ 1000 := hs.few
  have hv : vs.length = ks.length := by
    rcases good_shape hs.good with ⟨_, a, _⟩ | ⟨e, _⟩
    · exact a
    · cases e
  have hf := good_few hs
  unfold pgc
  dsimp only at *
  obtain ⟨W0, hW0⟩ : ∃ W0, W0 = w.alloc (.cells #[.bool true, .slice A1 ks.length c1, .slice A2 vs.length c2, .slice A3 ns.length c3] 54) := ⟨_, rfl⟩
  obtain ⟨W1, hW1⟩ : ∃ W1, W1 = W0.alloc (.cells #[.bool false, .slice none 0 0, .slice none 0 0, .slice none 0 0] 54) := ⟨_, rfl⟩
  obtain ⟨W2, hW2⟩ : ∃ W2, W2 = W1.alloc (.cells #[.bool false, .slice none 0 0, .slice none 0 0, .slice none 0 0] 54) := ⟨_, rfl⟩
  have hs0 : W0.heap.size = w.heap.size + 1 := by rw [hW0]; simp
  have hs1 : W1.heap.size = w.heap.size + 2 := by rw [hW1]; simp [hs0]
  have hs2 : W2.heap.size = w.heap.size + 3 := by rw [hW2]; simp [hs1]
  have hb2 : Below w.heap.size w W2 := by rw [hW2, hW1, hW0]; exact ((below_new _ _).alloc (by simp) _).alloc (by simp; omega) _
  have kp : Blk W2 w.heap.size 54 #[.bool true, .slice A1 ks.length c1, .slice A2 vs.length c2, .slice A3 ns.length c3] := by rw [hW2, hW1, hW0]; exact ((Blk.new _ _ _).alloc _).alloc _
  have kx : Blk W2 (w.heap.size + 1) 54 #[.bool false, .slice none 0 0, .slice none 0 0, .slice none 0 0] := by rw [hW2, hW1, ← hs0]; exact (Blk.new _ _ _).alloc _
  have ky : Blk W2 (w.heap.size + 2) 54 #[.bool false, .slice none 0 0, .slice none 0 0, .slice none 0 0] := by rw [hW2, ← hs1]; exact Blk.new _ _ _
  have HC := clone_own (h.sm (Sm.below hb2)) (show ks.length ≤ 1001 ∧ vs.length ≤ 1001 ∧ ns.length ≤ 1001 by have h1 := hf.2.2; have : ns.length ≤ 1001 := h1; omega)
  unfold pgc at HC
  dsimp only at HC
  have HC := Lib.hid HC
  obtain ⟨q0, q1, q2, q3⟩ := cells4 kp
  have HKP := Lib.hid kp
  have HKX := Lib.hid kx
  have HKY := Lib.hid ky
  have HB2 := Lib.hid hb2
  have HS2 := Lib.hid hs2
  have HOK := Lib.hid (fun i j => hs.part rfl i j)
  have HV := Lib.hid hv
  have HW0 := Lib.hid hW0
  have HW1 := Lib.hid hW1
  have HW2 := Lib.hid hW2
  have t1 : decide ((ks.length : Int) < 2) = false := decide_eq_false (by omega)
  have t2 : decide (ks.length < 2) = false := decide_eq_false (by omega)
  clear h hs hf hW0 hW1 hW2 hb2 hs0 hs1 hs2 kp kx ky hv
  go_enter Try.func61, Try.ntmps61
  go_upto_region 1 with fail
  rw [← HW0.out, ← HW1.out, ← HW2.out]
  go_wp2_with fail
  refine HC.out.mono ?_
  rintro e w3 ⟨hb3, v1, v2, v3, rfl, ho3⟩
  have kp3 := HKP.out.below hb3 HKP.out.lt
  have kx3 := HKX.out.below hb3 HKX.out.lt
  have ky3 := HKY.out.below hb3 HKY.out.lt
  have u := upd4 kp3 (.bool true) v1 v2 v3
  obtain ⟨W4, hW4⟩ : ∃ W4, W4 = (((w3.setCell ⟨w.heap.size, 0, none⟩ (.bool true)).setCell ⟨w.heap.size, 1, none⟩ v1).setCell ⟨w.heap.size, 2, none⟩ v2).setCell ⟨w.heap.size, 3, none⟩ v3 := ⟨_, rfl⟩
  rw [← hW4] at u
  obtain ⟨B1, d1, B2, d2, B3, d3, e1, e2, e3, hp4⟩ := (ho3.upd u kp3 (by decide) (by decide)).rows
  subst e1 e2 e3
  have kp4 := u.blk
  have kx4 := u.far kx3 (show w.heap.size + 1 ≠ w.heap.size by omega)
  have ky4 := u.far ky3 (show w.heap.size + 2 ≠ w.heap.size by omega)
  have hb4 : Below w.heap.size w W4 := u.below (HB2.out.trans (hb3.mono HB2.out.size)) (Nat.le_refl _) (Nat.le_refl _)
  have hs4 : w.heap.size + 3 ≤ W4.heap.size := by rw [u.size]; have := hb3.size; rw [HS2.out] at this; omega
  obtain ⟨q0, q1, q2, q3⟩ := cells4 kp3
  obtain ⟨f0, f1, f2, f3⟩ := frozen4 kp3
  obtain ⟨r0, r1, r2, r3⟩ := cells4 kp4
  have HP4 := Lib.hid hp4
  have HKP4 := Lib.hid kp4
  have HKX4 := Lib.hid kx4
  have HKY4 := Lib.hid ky4
  have HB4 := Lib.hid hb4
  have HS4 := Lib.hid hs4
  have HW4 := Lib.hid hW4
  clear hW4 kp3 kx3 ky3 ho3 hp4 kp4 kx4 ky4 hb4 hs4 hb3 u HC HKP HKX HKY HB2 HW0 HW1 HW2
  go_upto_region 6 with fail
  rw [← HW4.out]
  go_upto_block 0 with fail
  clear r0 r1 r2 r3 q0 q1 q2 q3 f0 f1 f2 f3
  obtain ⟨n, hn⟩ : ∃ n, n = ks.length := ⟨_, rfl⟩
  obtain ⟨H1, hH1⟩ : ∃ H1, H1 = upN ⟨true, ks, vs, ns⟩ (n - 1 - n / 2) (n / 2) := ⟨_, rfl⟩
  have HN := Lib.hid hn
  have HH1 := Lib.hid hH1
  have e2 : (n : Int) / 2 = ((n / 2 : Nat) : Int) := by omega
  rw [← hn] at h2 hn0
  rw [← hn]
  clear hn hH1 t1 t2
  go_cut [6] (fun cv wx => cv = .int .i64 (H1 : Int) ∧ Hid (Below W4.heap.size W4 wx))
  case first =>
    go_wp2_with fail
    rw [e2]
    have hle := upN_le ⟨true, ks, vs, ns⟩ (n - 1 - n / 2) (n / 2)
    go_loopg [6] (n - 1 - n / 2) (fun m cv wr => ∃ i : Nat, cv = .int .i64 (i : Int) ∧ i + m = n - 1 ∧ 1 ≤ i ∧ Hid (Below W4.heap.size W4 wr) ∧ Hid (upN ⟨true, ks, vs, ns⟩ (n - 1 - i) i = H1))
    case atStart => exact ⟨n / 2, rfl, by omega, by omega, Lib.hid (Below.refl _ _), Lib.hid (by rw [HH1.out])⟩
    case round =>
      obtain ⟨i, rfl, hi, h1, HB, HU⟩ := hrel
      have HB' := HB.out
      have kp := HKP4.out.below HB' HKP4.out.lt
      obtain ⟨r0, r1, r2, r3⟩ := cells4 kp
      by_cases hlt : i + 1 < n
      · have g1 : decide ((i : Int) < (n : Int) - 1) = true := decide_eq_true (by omega)
        have hU : (if bigB ⟨true, ks, vs, ns⟩ i n then upN ⟨true, ks, vs, ns⟩ (n - 1 - (i + 1)) (i + 1) else i) = H1 := by
          have hU := HU.out
          rw [show n - 1 - i = (n - 1 - (i + 1)) + 1 by omega, upN] at hU
          dsimp only at hU
          rw [← HN.out] at hU
          exact hU
        rw [← HN.out] at r1
        have CP := part_any (HP4.out.sm (Sm.below HB')) i n (by omega) (by rw [HN.out]; exact Nat.le_refl _) (by rw [HV.out, HN.out]; exact Nat.le_refl _)
        rw [← HN.out] at CP
        have CP := Lib.hid CP
        have HE := Lib.hid (HOK.out i n)
        have HUU := Lib.hid hU
        have HM := Lib.hid hi
        have HBR := Lib.hid HB'
        clear hU hi HB' hle kp e2
        generalize hbg : bigB ⟨true, ks, vs, ns⟩ i n = bg at HUU
        have HBG := Lib.hid hbg
        clear hbg
        have hb : decide (900 < ((encP (partP ⟨true, ks, vs, ns⟩ i n)).length : Int)) = bg := by rw [← HBG.out, bigB, decide_eq_decide]; omega
        have hb' : decide (900 < (encP (partP ⟨true, ks, vs, ns⟩ i n)).length) = bg := HBG.out
        generalize hL : (encP (partP ⟨true, ks, vs, ns⟩ i n)).length = L at hb hb'
        have HL := Lib.hid hL
        clear hL
        cases bg with
        | true =>
          have hU2 := HUU.out
          rw [if_pos (by rfl)] at hU2
          have HU2 := Lib.hid hU2
          clear hU2 HUU
          go_wp2_with (first
            | (go_at_call 77; refine CP.out.mono ?_; rintro e w5 ⟨hb5, v, rfl, hv5⟩
               have CB := bytes_any hv5 HE.out
               rw [HL.out] at CB
               have CB := Lib.hid CB
               have HB5 := Lib.hid hb5
               clear hv5 hb5)
            | (go_at_call 28; refine CB.out.mono ?_; rintro e w6 ⟨rfl, hb6⟩
               have HB6 := Lib.hid hb6
               clear hb6))
          go_roundg (n - 1 - (i + 1))
          case measure => have := HM.out; omega
          case rel => exact ⟨i + 1, by go_num, by omega, by omega, Lib.hid (HBR.out.trans ((HB5.out.trans (HB6.out.mono HB5.out.size)).mono HBR.out.size)), HU2⟩
        | false =>
          have hU2 : i = H1 := HUU.out
          subst hU2
          clear HUU
          go_wp2_with (first
            | (go_at_call 77; refine CP.out.mono ?_; rintro e w5 ⟨hb5, v, rfl, hv5⟩
               have CB := bytes_any hv5 HE.out
               rw [HL.out] at CB
               have CB := Lib.hid CB
               have HB5 := Lib.hid hb5
               clear hv5 hb5)
            | (go_at_call 28; refine CB.out.mono ?_; rintro e w6 ⟨rfl, hb6⟩
               have HB6 := Lib.hid hb6
               clear hb6))
          go_meet
          exact ⟨rfl, Lib.hid (HBR.out.trans ((HB5.out.trans (HB6.out.mono HB5.out.size)).mono HBR.out.size))⟩
      · have g1 : decide ((i : Int) < (n : Int) - 1) = false := decide_eq_false (by omega)
        have hU := HU.out
        rw [show n - 1 - i = 0 by omega, upN] at hU
        subst hU
        clear e2 hle kp
        have HBR := Lib.hid HB'
        clear HB'
        go_wp2_with fail
        go_meet
        exact ⟨rfl, HBR⟩
  case rest =>
    obtain ⟨rfl, HB⟩ := hcut
    have h11 := upN_le ⟨true, ks, vs, ns⟩ (n - 1 - n / 2) (n / 2)
    rw [← HH1.out] at h11
    obtain ⟨H2, hH2⟩ : ∃ H2, H2 = downN ⟨true, ks, vs, ns⟩ H1 := ⟨_, rfl⟩
    have h1n : H1 + 1 ≤ n := by omega
    have h11 : 1 ≤ H1 := by omega
    have h21 := downN_le ⟨true, ks, vs, ns⟩ H1
    rw [← hH2] at h21
    have HSA : Hid (splitAt ⟨true, ks, vs, ns⟩ = H2) := Lib.hid (by
      rw [hH2, HH1.out, splitAt]
      dsimp only
      rw [← HN.out])
    have HH2 := Lib.hid hH2
    clear e2 hH2
    obtain ⟨wb, rfl⟩ : ∃ wb : World, wb = wc := ⟨_, rfl⟩
    have HBb := HB
    clear HB
    go_upto_block 2 with fail
    go_cut [6] (fun cv wx => cv = .int .i64 (H2 : Int) ∧ Hid (Below W4.heap.size W4 wx))
    case first =>
      go_wp2_with fail
      go_loopg [6] H1 (fun m cv wr => ∃ i : Nat, cv = .int .i64 (i : Int) ∧ i = m ∧ 1 ≤ i ∧ i ≤ H1 ∧ Hid (Below W4.heap.size W4 wr) ∧ Hid (downN ⟨true, ks, vs, ns⟩ i = H2))
      case atStart => exact ⟨H1, rfl, rfl, by omega, by omega, HBb, Lib.hid HH2.out.symm⟩
      case round =>
        obtain ⟨i, rfl, hi, h1, hiH, HB, HU⟩ := hrel
        have HB' := HB.out
        have kp := HKP4.out.below HB' HKP4.out.lt
        obtain ⟨r0, r1, r2, r3⟩ := cells4 kp
        by_cases hlt : 1 < i
        · have g1 : decide (1 < (i : Int)) = true := decide_eq_true (by omega)
          have g2 : decide (1 < i) = true := decide_eq_true hlt
          have hU : (if bigB ⟨true, ks, vs, ns⟩ 0 i then downN ⟨true, ks, vs, ns⟩ (i - 1) else i) = H2 := by
            have hU := HU.out
            rw [show i = (i - 2) + 2 by omega, downN] at hU
            rw [show i - 2 + 2 = i by omega, show i - 2 + 1 = i - 1 by omega] at hU
            exact hU
          rw [← HN.out] at r1
          have CP := part_any (HP4.out.sm (Sm.below HB')) 0 i (by omega) (by rw [← HN.out]; omega) (by rw [HV.out, ← HN.out]; omega)
          rw [← HN.out] at CP
          have CP := Lib.hid CP
          have HE := Lib.hid (HOK.out 0 i)
          have HUU := Lib.hid hU
          have HM := Lib.hid hi
          have HBR := Lib.hid HB'
          clear hU hi HB' kp h21
          generalize hbg : bigB ⟨true, ks, vs, ns⟩ 0 i = bg at HUU
          have HBG := Lib.hid hbg
          clear hbg
          have hb : decide (900 < ((encP (partP ⟨true, ks, vs, ns⟩ 0 i)).length : Int)) = bg := by rw [← HBG.out, bigB, decide_eq_decide]; omega
          have hb' : decide (900 < (encP (partP ⟨true, ks, vs, ns⟩ 0 i)).length) = bg := HBG.out
          generalize hL : (encP (partP ⟨true, ks, vs, ns⟩ 0 i)).length = L at hb hb'
          have HL := Lib.hid hL
          clear hL
          cases bg with
          | true =>
            have hU2 := HUU.out
            rw [if_pos (by rfl)] at hU2
            have HU2 := Lib.hid hU2
            clear hU2 HUU
            go_wp2_with (first
              | (go_at_call 77; refine CP.out.mono ?_; rintro e w5 ⟨hb5, v, rfl, hv5⟩
                 have CB := bytes_any hv5 HE.out
                 rw [HL.out] at CB
                 have CB := Lib.hid CB
                 have HB5 := Lib.hid hb5
                 clear hv5 hb5)
              | (go_at_call 28; refine CB.out.mono ?_; rintro e w6 ⟨rfl, hb6⟩
                 have HB6 := Lib.hid hb6
                 clear hb6))
            go_roundg (i - 1)
            case measure => have := HM.out; omega
            case rel => exact ⟨i - 1, by go_num, by omega, by omega, by omega, Lib.hid (HBR.out.trans ((HB5.out.trans (HB6.out.mono HB5.out.size)).mono HBR.out.size)), HU2⟩
          | false =>
            have hU2 : i = H2 := HUU.out
            subst hU2
            clear HUU
            go_wp2_with (first
              | (go_at_call 77; refine CP.out.mono ?_; rintro e w5 ⟨hb5, v, rfl, hv5⟩
                 have CB := bytes_any hv5 HE.out
                 rw [HL.out] at CB
                 have CB := Lib.hid CB
                 have HB5 := Lib.hid hb5
                 clear hv5 hb5)
              | (go_at_call 28; refine CB.out.mono ?_; rintro e w6 ⟨rfl, hb6⟩
                 have HB6 := Lib.hid hb6
                 clear hb6))
            go_meet
            exact ⟨rfl, Lib.hid (HBR.out.trans ((HB5.out.trans (HB6.out.mono HB5.out.size)).mono HBR.out.size))⟩
        · obtain rfl : i = 1 := by omega
          have hU := HU.out
          rw [downN] at hU
          subst hU
          have HBR := Lib.hid HB'
          clear HB' kp h21 hi
          go_wp2_with fail
          go_meet
          exact ⟨rfl, HBR⟩
    case rest =>
      obtain ⟨rfl, HB⟩ := hcut
      obtain ⟨wd, rfl⟩ : ∃ wd : World, wd = wc := ⟨_, rfl⟩
      have hbd := HB.out
      have h2n : H2 < n := by omega
      have h20 : 1 ≤ H2 := by omega
      have hzd : w.heap.size + 3 ≤ wd.heap.size := Nat.le_trans HS4.out hbd.size
      have kp := HKP4.out.below hbd HKP4.out.lt
      have kx := HKX4.out.below hbd HKX4.out.lt
      have ky := HKY4.out.below hbd HKY4.out.lt
      have hpr := HP4.out.sm (Sm.below hbd)
      have hvn : vs.length = n := by rw [HN.out]; exact HV.out
      have hc1 : n ≤ d1 := by rw [HN.out]; exact hpr.k.le
      have hc2 : vs.length ≤ d2 := hpr.v.le
      rw [← HN.out] at kp
      have C1 : ∀ W, Calls Try.prog 77 #[.agg #[.bool true, .slice B1 n d1, .slice B2 vs.length d2, .slice B3 ns.length d3], .int .i64 0, .int .i64 (H2 : Int)] W fun e w' =>
          e = .returned (.agg #[.bool true, .slice (cutA B1 0 H2) H2 H2, .slice (cutA B2 0 H2) H2 H2, .slice none 0 0]) ∧ Below W.heap.size W w' := fun W => by
        have := part_exact (w := W) (A1 := B1) (A2 := B2) (lf := true) (v3 := .slice B3 ns.length d3) 0 H2 (by omega) (Nat.le_of_lt h2n) (by omega) hc1 hc2
        simpa using this
      have C2 : ∀ W, Calls Try.prog 77 #[.agg #[.bool true, .slice B1 n d1, .slice B2 vs.length d2, .slice B3 ns.length d3], .int .i64 (H2 : Int), .int .i64 (n : Int)] W fun e w' =>
          e = .returned (.agg #[.bool true, .slice (cutA B1 H2 n) (n - H2) (n - H2), .slice (cutA B2 H2 n) (n - H2) (n - H2), .slice none 0 0]) ∧ Below W.heap.size W w' := fun W =>
        part_exact (w := W) (A1 := B1) (A2 := B2) (lf := true) (v3 := .slice B3 ns.length d3) H2 n (Nat.le_of_lt h2n) (Nat.le_refl _) (by omega) hc1 hc2
      have SF : Hid (∀ V, Below wd.heap.size wd V → V.cell? ⟨w.heap.size, 0, none⟩ = some (.bool true) ∧ V.cell? ⟨w.heap.size, 1, none⟩ = some (.slice B1 n d1) ∧ V.cell? ⟨w.heap.size, 2, none⟩ = some (.slice B2 vs.length d2) ∧ V.cell? ⟨w.heap.size, 3, none⟩ = some (.slice B3 ns.length d3)) := Lib.hid fun V hV => cells4 (kp.below hV kp.lt)
      have hqa := partA hpr (Nat.zero_le H2) (show H2 ≤ ks.length by have := HN.out; omega) (show H2 ≤ vs.length by omega)
      have hqb := partA hpr (Nat.le_of_lt h2n) (show n ≤ ks.length by have := HN.out; omega) (show n ≤ vs.length by omega)
      have C1 := Lib.hid C1
      have C2 := Lib.hid C2
      have HKX := Lib.hid kx
      have HKY := Lib.hid ky
      have HQA := Lib.hid hqa
      have HQB := Lib.hid hqb
      have HBD := Lib.hid hbd
      have HZD := Lib.hid hzd
      have HVN := Lib.hid hvn
      have HPR := Lib.hid hpr
      clear hbd kp kx ky hpr hc1 hc2 hvn h21 h11 hzd hqa hqb
      go_upto_region 11 with fail
      have HL0 := Lib.hid (Later.refl wd)
      have ZF0 : Hid (∀ s, wd.heap.size ≤ s → wd.heap.size ≤ s) := Lib.hid (fun _ h => h)
      have ZS0 : Hid (∀ V, Later wd V → (Later wd) V) := Lib.hid (fun _ h => h)
      refine walk_start 9 (S := Later wd) (T := Later wd) (by kernel_rfl) (fun r => wd.heap.size ≤ r) (fun _ h => h.size) ZS0.out (closed_later _) (Later.refl _).drew ?_
      refine wt 0 62 ?_ (fun V hV => ?_) ?_
      rotate_left 1
      · (obtain ⟨q0, q1, q2, q3⟩ := SF.out V hV; clear hV; go_simp; (try with_reducible rfl))
      try simp only [pa, List.set]
      refine wt 1 63 ?_ (fun V hV => ?_) ?_
      rotate_left 1
      · (clear hV; go_simp; (try with_reducible rfl))
      try simp only [pa, List.set]
      refine wt 3 65 ?_ (fun V hV => ?_) ?_
      rotate_left 1
      · (obtain ⟨q0, q1, q2, q3⟩ := SF.out V hV; clear hV; go_simp; (try with_reducible rfl))
      try simp only [pa, List.set]
      refine wt 4 66 ?_ (fun V hV => ?_) ?_
      rotate_left 1
      · (clear hV; go_simp; (try with_reducible rfl))
      try simp only [pa, List.set]
      refine wt 5 67 ?_ (fun V hV => ?_) ?_
      rotate_left 1
      · (clear hV; go_simp; (try with_reducible rfl))
      try simp only [pa, List.set]
      refine walk_pend ⟨8, 8, (.cells #[.bool false, .slice none 0 0, .slice none 0 0, .slice none 0 0] 54), fun r => .pointer (some ⟨r, 0, none⟩)⟩ ⟨_, rfl, rfl, rfl, fun W => ?_⟩ ?_
      · (go_simp; (try with_reducible rfl))
      refine walk_pend ⟨7, 7, (.cells #[.bool false, .slice none 0 0, .slice none 0 0, .slice none 0 0] 54), fun r => .pointer (some ⟨r, 0, none⟩)⟩ ⟨_, rfl, rfl, rfl, fun W => ?_⟩ ?_
      · (go_simp; (try with_reducible rfl))
      refine walk_core 2 rfl (by kernel_rfl) (fun _ _ _ _ _ h => h) (fun V hV K hK => ?_)
      have hV0 := HL0.out.trans hV
      have hSV := ZS0.out V hV
      go_simp
      go_at_call 77
      refine (C1.out _).mono ?_
      rintro e x2 ⟨rfl, hb⟩
      have HT2 := Lib.hid (hV.of hb)
      have HL1 := Lib.hid (hV0.of hb)
      have hsize := hb.size
      have hkeep := fun (r : Nat) (_ : True) (h : r < V.heap.size) => hb.block r h
      have ZF1 : Hid (∀ s, x2.heap.size ≤ s → _) := Lib.hid (fun s h => ZF0.out s (Nat.le_trans hV.size (Nat.le_trans hsize h)))
      have ZS1 : Hid (∀ V, Later x2 V → (Later wd) V) := Lib.hid (fun V' h => ZS0.out V' ((hV.of hb).trans h))
      refine hK.out _ _ (Later wd) (Later x2) _ (fun r _ h => hkeep r trivial h) (fun _ h _ => h) (fun _ h => h) ZS1.out (fun V' h => ZF1.out _ h.size) (Later.refl _) (closed_later _) ?_
      clear hK K hV hsize hkeep hV0 hSV hb
      try simp only [pa, List.set]
      refine walk_core 6 rfl (by kernel_rfl) (fun _ _ _ _ _ h => h) (fun V hV K hK => ?_)
      have hV0 := HL1.out.trans hV
      have hSV := ZS1.out V hV
      go_simp
      go_at_call 77
      refine (C2.out _).mono ?_
      rintro e x6 ⟨rfl, hb⟩
      have HT6 := Lib.hid (hV.of hb)
      have HL2 := Lib.hid (hV0.of hb)
      have hsize := hb.size
      have hkeep := fun (r : Nat) (_ : True) (h : r < V.heap.size) => hb.block r h
      have ZF2 : Hid (∀ s, x6.heap.size ≤ s → _) := Lib.hid (fun s h => ZF1.out s (Nat.le_trans hV.size (Nat.le_trans hsize h)))
      have ZS2 : Hid (∀ V, Later x6 V → (Later wd) V) := Lib.hid (fun V' h => ZS1.out V' ((hV.of hb).trans h))
      refine hK.out _ _ (Later wd) (Later x6) _ (fun r _ h => hkeep r trivial h) (fun _ h _ => h) (fun _ h => h) ZS2.out (fun V' h => ZF2.out _ h.size) (Later.refl _) (closed_later _) ?_
      clear hK K hV hsize hkeep hV0 hSV hb
      try simp only [pa, List.set]
      refine walk_force (by kernel_rfl) (by kernel_rfl) (by kernel_rfl) (by kernel_rfl) (fun r7 x7 hV hr7 hB7 => ?_)
      have lt7 : r7 < x7.heap.size := (Array.getElem?_eq_some_iff.1 hr7).1
      have HL3 := Lib.hid (HL2.out.trans hV)
      have ZF3 : Hid (∀ s, x7.heap.size ≤ s → _ ∧ s ≠ r7) := Lib.hid (fun s h => ⟨ZF2.out s (Nat.le_trans hV.size h), Nat.ne_of_gt (Nat.lt_of_lt_of_le lt7 h)⟩)
      have ZS3 : Hid (∀ V, Later x7 V → (Later wd) V) := Lib.hid (fun V' h => ZS2.out V' (hV.trans h))
      refine ⟨Later wd, Later x7, Later.refl _, fun _ h => h, ZS3.out, fun V' h => ZF2.out _ (Nat.le_trans hV.size h.size), fun V' h => Nat.lt_of_lt_of_le lt7 h.size, closed_later _, ?_⟩
      try simp only [pa, List.set]
      have HT7 := Lib.hid hV
      clear hV
      refine walk_force (by kernel_rfl) (by kernel_rfl) (by kernel_rfl) (by kernel_rfl) (fun r8 x8 hV hr8 hB8 => ?_)
      have lt8 : r8 < x8.heap.size := (Array.getElem?_eq_some_iff.1 hr8).1
      have HL4 := Lib.hid (HL3.out.trans hV)
      have ZF4 : Hid (∀ s, x8.heap.size ≤ s → _ ∧ s ≠ r8) := Lib.hid (fun s h => ⟨ZF3.out s (Nat.le_trans hV.size h), Nat.ne_of_gt (Nat.lt_of_lt_of_le lt8 h)⟩)
      have ZS4 : Hid (∀ V, Later x8 V → (Later wd) V) := Lib.hid (fun V' h => ZS3.out V' (hV.trans h))
      refine ⟨Later wd, Later x8, Later.refl _, fun _ h => h, ZS4.out, fun V' h => ZF3.out _ (Nat.le_trans hV.size h.size), fun V' h => Nat.lt_of_lt_of_le lt8 h.size, closed_later _, ?_⟩
      try simp only [pa, List.set]
      have HT8 := Lib.hid hV
      clear hV
      refine walk_exit (fun V hV => ?_)
      have hV0 := HL4.out.trans hV
      have hSV := ZS4.out V hV
      try simp only [pa, List.set]
      obtain ⟨W, rfl⟩ : ∃ W : World, W = V := ⟨_, rfl⟩
      clear ZF0 ZF1 ZF2 ZF3 ZF4 ZS0 ZS1 ZS2 ZS3 ZS4
      have hsB : wd.heap.size ≤ r8 := hB8.1
      have hrB : wd.heap.size ≤ r7 := hB7
      have hne : r8 ≠ r7 := hB8.2
      have hs : Blk W r8 54 #[.bool false, .slice none 0 0, .slice none 0 0, .slice none 0 0] := Blk.below (show Blk x8 r8 _ _ from hr8) hV lt8
      have hr : Blk W r7 54 #[.bool false, .slice none 0 0, .slice none 0 0, .slice none 0 0] := (Blk.below (Blk.below (show Blk x7 r7 _ _ from hr7) HT8.out lt7) hV (Nat.lt_of_lt_of_le lt7 HT8.out.size))
      have hV := hV0
      generalize r8 = s at *
      generalize r7 = r at *
      have u7 := upd4 hr (.bool true) (.slice (cutA B1 0 H2) H2 H2) (.slice (cutA B2 0 H2) H2 H2) (.slice none 0 0)
      obtain ⟨W7, hW7⟩ : ∃ W7, W7 = (((W.setCell ⟨r, 0, none⟩ (.bool true)).setCell ⟨r, 1, none⟩ (.slice (cutA B1 0 H2) H2 H2)).setCell ⟨r, 2, none⟩ (.slice (cutA B2 0 H2) H2 H2)).setCell ⟨r, 3, none⟩ (.slice none 0 0) := ⟨_, rfl⟩
      rw [← hW7] at u7
      have ks7 := u7.far hs hne
      have u8 := upd4 ks7 (.bool true) (.slice (cutA B1 H2 n) (n - H2) (n - H2)) (.slice (cutA B2 H2 n) (n - H2) (n - H2)) (.slice none 0 0)
      obtain ⟨W8, hW8⟩ : ∃ W8, W8 = (((W7.setCell ⟨s, 0, none⟩ (.bool true)).setCell ⟨s, 1, none⟩ (.slice (cutA B1 H2 n) (n - H2) (n - H2))).setCell ⟨s, 2, none⟩ (.slice (cutA B2 H2 n) (n - H2) (n - H2))).setCell ⟨s, 3, none⟩ (.slice none 0 0) := ⟨_, rfl⟩
      rw [← hW8] at u8
      have kr8 := u8.far u7.blk hne.symm
      have hb8 : Below wd.heap.size wd W8 := u8.below (u7.below (show Below _ _ _ from hV) hrB (Nat.le_refl _)) hsB (Nat.le_refl _)
      have hm8 : Sm wd W8 := (Sm.below (show Below _ _ _ from hV)).trans ((u7.sm hr (by decide) (by decide)).trans (u8.sm ks7 (by decide) (by decide)))
      obtain ⟨z0, z1, z2, z3⟩ := cells4 hr
      obtain ⟨f0, f1, f2, f3⟩ := frozen4 hr
      obtain ⟨y0, y1, y2, y3⟩ := cells4 ks7
      obtain ⟨g0, g1, g2, g3⟩ := frozen4 ks7
      have KR := Lib.hid kr8
      have KS := Lib.hid u8.blk
      have HB8 := Lib.hid hb8
      have HM8 := Lib.hid hm8
      have HW7 := Lib.hid hW7
      have HW8 := Lib.hid hW8
      clear hr hs u7 ks7 u8 kr8 hb8 hm8 hW7 hW8 hV
      refine wpAnyJ_one (i := 9) (by kernel_rfl) rfl (fun K hK => ?_)
      simp only [List.getElem_toArray, List.getElem_cons_succ, List.getElem_cons_zero]
      go_simp
      refine hK.out _ _ (fun h _ => absurd rfl h) ?_
      clear hK K
      try simp only [pa, List.set]
      rw [← HW7.out]
      clear z0 z1 z2 z3 f0 f1 f2 f3
      refine wpAnyJ_one (i := 10) (by kernel_rfl) rfl (fun K hK => ?_)
      simp only [List.getElem_toArray, List.getElem_cons_succ, List.getElem_cons_zero]
      go_simp
      refine hK.out _ _ (fun _ h => absurd ((show _ = true by kernel_rfl).symm.trans h) (by decide)) ?_
      clear hK K
      try simp only [pa, List.set]
      rw [← HW8.out]
      clear y0 y1 y2 y3 g0 g1 g2 g3
      refine wpAnyJ_done (by kernel_rfl) ?_ _
      obtain ⟨ad2, hcut, hsp, ⟨cs2, hbk2⟩, hcell⟩ := HQB.out.k.get (i := 0) (x := ks.getD H2 ByteArray.empty) (by
        show ((ks.take n).drop H2)[0]? = _
        rw [List.getElem?_drop, List.getElem?_take, if_pos (by omega)]
        exact getD_some _ (by have := HN.out; omega))
      have hc8 := hcell W8 (fun g cs => (HM8.out g cs).1)
      rw [show ad2.add 0 = ad2 by simp [Addr.add]] at hc8
      have hne2 : ¬ (n - H2 = 0) := by omega
      have HCUT := Lib.hid hcut
      have KS2 : Hid (Blk W8 s 54 #[.bool true, .slice (some ad2) (n - H2) (n - H2), .slice (cutA B2 H2 n) (n - H2) (n - H2), .slice none 0 0]) := Lib.hid (by rw [← hcut]; exact KS.out)
      have kx8 := HKX.out.below HB8.out HKX.out.lt
      have ky8 := HKY.out.below HB8.out HKY.out.lt
      have hbk8 := (HM8.out ad2.block cs2).1 hbk2
      have na1 : w.heap.size + 1 ≠ ad2.block := fun e => by rw [← e] at hbk8; exact kx8.ne_ hbk8 (by decide) rfl
      have na2 : w.heap.size + 2 ≠ ad2.block := fun e => by rw [← e] at hbk8; exact ky8.ne_ hbk8 (by decide) rfl
      have nr1 : w.heap.size + 1 ≠ r := by have := HZD.out; omega
      have nr2 : w.heap.size + 2 ≠ r := by have := HZD.out; omega
      have ns1 : w.heap.size + 1 ≠ s := by have := HZD.out; omega
      have ns2 : w.heap.size + 2 ≠ s := by have := HZD.out; omega
      obtain ⟨r0, r1, r2, r3⟩ := cells4 KR.out
      obtain ⟨s0, s1, s2, s3⟩ := cells4 KS2.out
      obtain ⟨x0, x1, x2, x3⟩ := cells4 kx8
      obtain ⟨y0, y1, y2, y3⟩ := cells4 ky8
      obtain ⟨xf0, xf1, xf2, xf3⟩ := frozen4 kx8
      obtain ⟨yf0, yf1, yf2, yf3⟩ := frozen4 ky8
      have i1 : (1 : Int) ≤ ((n - H2 : Nat) : Int) := by omega
      have i0 : (0 : Int) < ((n - H2 : Nat) : Int) := by omega
      have i2 : 0 < n - H2 := by omega
      have u9 := upd4 kx8 (.bool true) (.slice (cutA B1 0 H2) H2 H2) (.slice (cutA B2 0 H2) H2 H2) (.slice none 0 0)
      have ky9 := u9.far (show Blk W8 (w.heap.size + 1 + 1) 54 #[.bool false, .slice none 0 0, .slice none 0 0, .slice none 0 0] from ky8) (show w.heap.size + 1 + 1 ≠ w.heap.size + 1 by omega)
      have u10 := upd4 ky9 (.bool true) (.slice (some ad2) (n - H2) (n - H2)) (.slice (cutA B2 H2 n) (n - H2) (n - H2)) (.slice none 0 0)
      have HM10 : Hid (Sm wd _) := Lib.hid (HM8.out.trans ((u9.sm kx8 (by decide) (by decide)).trans (u10.sm ky9 (by decide) (by decide))))
      have HK1 := Lib.hid (u10.far u9.blk (show w.heap.size + 1 ≠ w.heap.size + 1 + 1 by omega))
      have HK2 := Lib.hid u10.blk
      have HB10 : Hid (Below w.heap.size w _) := Lib.hid (u10.below (u9.below (HB4.out.trans ((HBD.out.mono (by have := HS4.out; omega)).trans (HB8.out.mono (by have := HZD.out; omega)))) (by omega) (Nat.le_refl _)) (by omega) (Nat.le_refl _))
      clear hcell hcut hsp hbk2 hbk8 kx8 ky8 u9 ky9 u10
      go_wp2_with fail
      go_region_held3 (fun V => V.cell? ⟨r, 0, none⟩ = some (.bool true) ∧ V.cell? ⟨r, 1, none⟩ = some (.slice (cutA B1 0 H2) H2 H2) ∧ V.cell? ⟨r, 2, none⟩ = some (.slice (cutA B2 0 H2) H2 H2) ∧ V.cell? ⟨r, 3, none⟩ = some (.slice none 0 0) ∧
          V.cell? ⟨s, 0, none⟩ = some (.bool true) ∧ V.cell? ⟨s, 1, none⟩ = some (.slice (some ad2) (n - H2) (n - H2)) ∧ V.cell? ⟨s, 2, none⟩ = some (.slice (cutA B2 H2 n) (n - H2) (n - H2)) ∧ V.cell? ⟨s, 3, none⟩ = some (.slice none 0 0) ∧
          V.cell? ad2 = some (.string (ks.getD H2 ByteArray.empty)))
        (go_keep) (fail)
      all_goals
        obtain ⟨W9, hW9⟩ : ∃ W9, W9 = ((((((((W8.setCell ⟨w.heap.size + 1, 0, none⟩ (.bool true)).setCell ⟨w.heap.size + 1, 1, none⟩ (.slice (cutA B1 0 H2) H2 H2)).setCell ⟨w.heap.size + 1, 2, none⟩ (.slice (cutA B2 0 H2) H2 H2)).setCell ⟨w.heap.size + 1, 3, none⟩ (.slice none 0 0)).setCell ⟨w.heap.size + 1 + 1, 0, none⟩ (.bool true)).setCell ⟨w.heap.size + 1 + 1, 1, none⟩ (.slice (some ad2) (n - H2) (n - H2))).setCell ⟨w.heap.size + 1 + 1, 2, none⟩ (.slice (cutA B2 H2 n) (n - H2) (n - H2))).setCell ⟨w.heap.size + 1 + 1, 3, none⟩ (.slice none 0 0)).drew := ⟨_, rfl⟩
        rw [← hW9]
        have HW9 := Lib.hid hW9
        clear hW9
        go_wp2_with fail
        have k1 : Blk W9 (w.heap.size + 1) 54 #[.bool true, .slice (cutA B1 0 H2) H2 H2, .slice (cutA B2 0 H2) H2 H2, .slice none 0 0] := by rw [HW9.out]; exact HK1.out.drew
        have k2 : Blk W9 (w.heap.size + 1 + 1) 54 #[.bool true, .slice (some ad2) (n - H2) (n - H2), .slice (cutA B2 H2 n) (n - H2) (n - H2), .slice none 0 0] := by rw [HW9.out]; exact HK2.out.drew
        have hb9 : Below w.heap.size w W9 := by rw [HW9.out]; exact HB10.out.drew
        have hm9 : Sm wd W9 := by rw [HW9.out]; exact HM10.out.drew
        refine bodyPost_ret_by (results_csc rfl _ _ (w.heap.size + 1) (w.heap.size + 1 + 1) 54 _ _ (0, 0) (0, 0) _ rfl rfl k1 k2 Try.underlying54 rfl (by kernel_rfl) (by kernel_rfl)) rfl ?_
        rw [HSA.out, ← HN.out]
        refine ⟨hb9, _, _, rfl, ⟨cutA B1 0 H2, H2 - 0, cutA B2 0 H2, H2 - 0, none, 0, ?_, HQA.out.sm hm9⟩, ⟨cutA B1 H2 n, n - H2, cutA B2 H2 n, n - H2, none, 0, ?_, HQB.out.sm hm9⟩⟩
        · unfold pgc
          simp only [partP, List.length_nil]
          rw [len_cut ks (by have := HN.out; omega), len_cut vs (by have := HVN.out; omega)]
          simp
        · unfold pgc
          simp only [partP, List.length_nil]
          rw [len_cut ks (by have := HN.out; omega), len_cut vs (by have := HVN.out; omega), HCUT.out]
end
end Go.Proofs.Ytafeddjcomeniaa
end
