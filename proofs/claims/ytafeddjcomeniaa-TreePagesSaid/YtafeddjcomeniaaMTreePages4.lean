/- The texts of this proof, joined: contracts of the functions that the law reaches, and what they come to in plain Lean. Conditions: those that each theorem names. -/
import Derived.Test.YtafeddjcomeniaaMTreePages3
import Derived.Deep.CutRange

/- The tree's calls on a shelf that is well, as its laws use them. Conditions: the shelf lies in memory. -/
section
namespace Go.Proofs.Ytafeddjcomeniaa
open Go.RowKit
set_option linter.unusedVariables false
set_option linter.unusedSimpArgs false

theorem Tree.zero {Q : Pg → Prop} {S : List Pg} {k : Nat} {n : Int} (h : Tree Q S k n []) : n = 0 := by
  by_cases h0 : n = 0
  · exact h0
  · obtain ⟨d, h1, h2, _⟩ := h.some_ h0
    have := items_pos h1
    rw [h2] at this
    simp at this
section
variable {B b : Nat} {w w' : World} {ill : Int} {s : Sh} {v : Value}
theorem Seen.below {K : Nat} (h : Seen B b ill s v K w w') (hB : B ≤ w.heap.size) (hb : B ≤ b) : Below B w w' := by
  obtain ⟨_, _, _, _, hk, _⟩ := h
  exact hk.below hB fun i e => by subst e; exact hb
/-- The shelf lies in memory, in blocks from B on; it is well, and small. -/
structure St (B b : Nat) (ill : Int) (s : Sh) (w : World) : Prop where
  sh : ∃ v, ShAt B w b ill s v
  size : B ≤ w.heap.size
  two : Two s.S
  n0 : 0 ≤ s.n
  n1 : s.n < 80000000
  len : s.S.length ≤ 15900
theorem St.later (h : St B b ill s w) (k : Later w w') : St B b ill s w' := by
  obtain ⟨v, hs⟩ := h.sh
  exact ⟨⟨v, hs.later k⟩, Nat.le_trans h.size (show Below _ _ _ from k).size, h.two, h.n0, h.n1, h.len⟩
/-- What a change keeps. -/
structure Kp (B : Nat) (w w' : World) : Prop where
  below : Below B w w'
  far : ∀ g t cs, Far t → Blk w g t cs → Blk w' g t cs
  sm : Sm w w'
theorem Kp.later (hB : B ≤ w.heap.size) (k : Later w w') : Kp B w w' := ⟨(show Below _ _ _ from k).mono hB, fun g t cs _ x => x.below k x.lt, Sm.later k⟩
theorem Kp.trans {w2 : World} (h : Kp B w w') (k : Kp B w' w2) : Kp B w w2 := ⟨h.below.trans k.below, fun g t cs ht x => k.far g t cs ht (h.far g t cs ht x), h.sm.trans k.sm⟩
theorem Wr.kp {s' : Sh} (h : Wr B b ill s' w w') : Kp B w w' := ⟨h.below, h.far, h.sm⟩
theorem Seen.kp {K : Nat} (h : Seen B b ill s v K w w') (hB : B ≤ w.heap.size) (hs : ShAt B w b ill s v) : Kp B w w' := by
  obtain ⟨_, _, _, _, hk, hm⟩ := h
  exact ⟨hk.below hB fun i e => by subst e; exact hs.hb, fun g t cs ht x => hk.blk x fun e => by subst e; exact x.ne_ hs.blk ht.h rfl, hm⟩
/-- Read, at most K times. -/
def Read (B b : Nat) (ill : Int) (s : Sh) (K : Nat) (w w' : World) : Prop := ∃ n', s.n ≤ n' ∧ n' ≤ s.n + K ∧ (∃ v, ShAt B w' b ill ⟨s.S, n'⟩ v) ∧ Kp B w w'
theorem Seen.read {K : Nat} (h : Seen B b ill s v K w w') (hB : B ≤ w.heap.size) (hs : ShAt B w b ill s v) : Read B b ill s K w w' := by
  have hk := h.kp hB hs
  obtain ⟨n', h1, h2, h3, _⟩ := h
  exact ⟨n', h1, h2, ⟨v, h3⟩, hk⟩
theorem Read.st {K : Nat} (h : Read B b ill s K w w') (hs : St B b ill s w) (hK : s.n + K < 80000000) : ∃ n', s.n ≤ n' ∧ n' ≤ s.n + K ∧ St B b ill ⟨s.S, n'⟩ w' ∧ Kp B w w' := by
  obtain ⟨n', h1, h2, h3, h4⟩ := h
  exact ⟨n', h1, h2, ⟨h3, Nat.le_trans hs.size h4.below.size, hs.two, by have := hs.n0; show 0 ≤ n'; omega, by show n' < _; omega, hs.len⟩, h4⟩
/-- Added to. -/
def Grow (s s' : Sh) : Prop := (∃ X, s'.S = s.S ++ X) ∧ s.n ≤ s'.n ∧ s'.n ≤ s.n + 100 ∧ s'.S.length ≤ s.S.length + 100
theorem Grew.grow {s' : Sh} {X : List Pg} {ok : Bool} (h : Grew ill s s' X ok) (hc : s'.n ≤ s.n + 100) : Grow s s' := ⟨⟨X, h.S⟩, h.n, hc, by rw [h.S, List.length_append]; have := h.len; omega⟩
theorem put_well {Q : Pg → Prop} (hQ : QPut Q 16383) {k : Nat} {root : Int} {l : List KV} {key val : ByteArray} (h : St B b ill s w) (hw : ill ≤ s.n) (ht : Tree Q s.S k root l) (hkk : k ≤ 125) (hk : keyFit key) (hv : val.size ≤ 400) :
    Calls Try.prog 10 #[shV b, .int .u64 root, .string key, .string val] w fun e w' => ∃ s' n, e = .returned (.tuple #[.int .u64 n, .int .i64 0]) ∧ (∃ v', ShAt B w' b ill s' v') ∧ Kp B w w' ∧ Two s'.S ∧ Grow s s' ∧ Tree Q s'.S (k + 1) n (putL l key val) := by
  obtain ⟨v, hs⟩ := h.sh
  refine (put_any hQ hs h.size h.n0 (by have := h.n1; omega) (by have := h.len; omega) h.two ht hkk hk hv).mono ?_
  rintro e w' ⟨s', n, er, rfl, hwr, hc⟩
  rcases hc.res with ⟨_, _, X, g⟩ | ⟨rfl, ⟨X, g⟩, hT⟩
  · have := g.sick rfl; omega
  · exact ⟨s', n, rfl, hwr.sh, hwr.kp, hc.two, g.grow hc.cost, hT⟩
theorem drop_well {Q : Pg → Prop} (hQ : ∀ p, Q p) {k : Nat} {root : Int} {l : List KV} (key : ByteArray) (h : St B b ill s w) (hw : ill ≤ s.n) (ht : Tree Q s.S k root l) (hkk : k ≤ 125) :
    Calls Try.prog 11 #[shV b, .int .u64 root, .string key] w fun e w' => ∃ s' n er, e = .returned (.tuple #[.int .u64 n, .int .i64 er]) ∧ (∃ v', ShAt B w' b ill s' v') ∧ Kp B w w' ∧ Two s'.S ∧ Grow s s' ∧ ((er = 5 ∧ n = 0 ∧ getL l key = none) ∨ (er = 0 ∧ getL l key ≠ none ∧ Tree Q s'.S k n (delL l key))) := by
  obtain ⟨v, hs⟩ := h.sh
  refine (drop_any hQ key hs h.size h.n0 (by have := h.n1; omega) (by have := h.len; omega) h.two ht hkk).mono ?_
  rintro e w' ⟨s', n, er, rfl, hwr, hc⟩
  rcases hc.res with ⟨_, _, X, g⟩ | ⟨rfl, rfl, hg, X, g⟩ | ⟨rfl, hg, ⟨X, g⟩, hT⟩
  · have := g.sick rfl; omega
  · exact ⟨s', 0, 5, rfl, hwr.sh, hwr.kp, hc.two, g.grow hc.cost, .inl ⟨rfl, rfl, hg⟩⟩
  · exact ⟨s', n, 0, rfl, hwr.sh, hwr.kp, hc.two, g.grow hc.cost, .inr ⟨rfl, hg, hT⟩⟩
theorem find_well {Q : Pg → Prop} {k : Nat} {root : Int} {l : List KV} (key : ByteArray) (h : St B b ill s w) (hw : ill ≤ s.n) (ht : Tree Q s.S k root l) (hkk : k ≤ 200) :
    Calls Try.prog 14 #[shV b, .int .u64 root, .string key] w fun e w' => e = .returned (.tuple #[.string ((getL l key).getD ⟨#[]⟩), .int .i64 (if (getL l key).isSome then 0 else 5)]) ∧ Read B b ill s 20 w w' := by
  obtain ⟨v, hs⟩ := h.sh
  refine (findT_any key hs h.n0 (by have := h.n1; omega) (by have := h.len; omega) hw ht hkk).mono ?_
  rintro e w' ⟨rfl, hse⟩
  exact ⟨rfl, hse.read h.size hs⟩
theorem range_well {Q : Pg → Prop} {k : Nat} {root most : Int} {l : List KV} (fr til : ByteArray) (h : St B b ill s w) (hw : ill ≤ s.n) (ht : Tree Q s.S k root l) (hkk : k ≤ 200) :
    Calls Try.prog 12 #[shV b, .int .u64 root, .string fr, .string til, .int .i64 most] w fun e w' => ∃ lv, e = .returned (.tuple #[lv, .int .i64 0]) ∧ Items w.heap.size w' lv (ranged fr til most l) ∧ Read B b ill s 4096 w w' := by
  obtain ⟨v, hs⟩ := h.sh
  refine (rangeT_any fr til hs h.n0 (by have := h.n1; omega) (by have := h.len; omega) hw ht hkk).mono ?_
  rintro e w' ⟨lv, rfl, hi, hse⟩
  exact ⟨lv, rfl, hi, hse.read h.size hs⟩
theorem pages_well {Q : Pg → Prop} {d : Nat} {root : Int} (h : St B b ill s w) (hw : ill ≤ s.n) (ht : OkN Q s.S d root none none) (hi : (itemsN s.S d root).length ≤ 200) (hd : d ≤ 20) :
    Calls Try.prog 22 #[shV b, .int .u64 root] w fun e w' => ∃ A c, e = .returned (.tuple #[.slice A (pagesN s.S d root).length c, .int .i64 0]) ∧ w'.ownsRow w.heap.size 27 1 (.slice A (pagesN s.S d root).length c) (pagesN s.S d root).length ((pagesN s.S d root).map (Value.int .u64)) ∧ Read B b ill s 4096 w w' := by
  obtain ⟨v, hs⟩ := h.sh
  refine (pagesT_of hs (count_some hs h.n0 (by have := h.n1; omega) (by have := h.len; omega) hw ht hi hd)).mono ?_
  rintro e w' ⟨A, c, rfl, ho, hse⟩
  exact ⟨A, c, rfl, ho, hse.read h.size hs⟩
theorem deep_well {Q : Pg → Prop} {d : Nat} {root : Int} (h : St B b ill s w) (hw : ill ≤ s.n) (ht : OkN Q s.S d root none none) (hi : (itemsN s.S d root).length ≤ 200) (hd : d ≤ 20) :
    Calls Try.prog 25 #[shV b, .int .u64 root] w fun e w' => e = .returned (.tuple #[.int .i64 (deepN s.S d root), .int .i64 0]) ∧ Read B b ill s 4096 w w' := by
  obtain ⟨v, hs⟩ := h.sh
  refine (deepT_of hs (count_some hs h.n0 (by have := h.n1; omega) (by have := h.len; omega) hw ht hi hd)).mono ?_
  rintro e w' ⟨rfl, hse⟩
  exact ⟨rfl, hse.read h.size hs⟩
theorem pages_none (h : St B b ill s w) : Calls Try.prog 22 #[shV b, .int .u64 0] w fun e w' => ∃ A c, e = .returned (.tuple #[.slice A 0 c, .int .i64 0]) ∧ Read B b ill s 4096 w w' := by
  obtain ⟨v, hs⟩ := h.sh
  refine (pagesT_of hs (count_none hs)).mono ?_
  rintro e w' ⟨A, c, rfl, ho, hse⟩
  exact ⟨A, c, rfl, hse.read h.size hs⟩
theorem deep_none (h : St B b ill s w) : Calls Try.prog 25 #[shV b, .int .u64 0] w fun e w' => e = .returned (.tuple #[.int .i64 0, .int .i64 0]) ∧ Read B b ill s 4096 w w' := by
  obtain ⟨v, hs⟩ := h.sh
  refine (deepT_of hs (count_none hs)).mono ?_
  rintro e w' ⟨rfl, hse⟩
  exact ⟨rfl, hse.read h.size hs⟩
end
/-- A shelf that a law has just made. -/
theorem shelf_new (w : World) : St w.heap.size w.heap.size 0 ⟨[], 0⟩ (w.alloc (.cells #[.slice none 0 0, .int .i64 0, .int .i64 0] 26)) :=
  ⟨⟨.slice none 0 0, Blk.new _ _ _, Nat.le_refl _, [], World.ownsRow_nil _ _ _ _, rfl, fun i cs p hi => by simp at hi⟩, by simp, fun p hp => (by cases hp), Int.le_refl _, by decide, by decide⟩
end Go.Proofs.Ytafeddjcomeniaa
end

/- publicanlaw7's awake answers true. Conditions: none. -/
section
namespace Go.Proofs.Ytafeddjcomeniaa
open Go.RowKit
set_option linter.unusedVariables false
set_option linter.unusedSimpArgs false

def kA : ByteArray := ⟨#[97]⟩
def v1 : ByteArray := ⟨#[49]⟩
def pgA1 : Pg := ⟨true, [kA], [v1], []⟩
theorem items_one {G : Nat} {w : World} {v : Value} {x : KV} (h : Items G w v [x]) : ∃ g o c, v = .slice (some ⟨g, o, none⟩) 1 c ∧ w.cell? ⟨g, o, none⟩ = some (.string x.1) ∧ w.cell? ⟨g, o + 1, none⟩ = some (.string x.2) := by
  obtain ⟨A, c, rfl, ho⟩ := h
  rcases ho.2 with ⟨e, _⟩ | ⟨g, cap, cur, e, hg, hb, h1, h2, h3, h4⟩
  · cases e
  · cases e
    have hb : Blk w g 61 cur := hb
    refine ⟨g, 0, c, rfl, ?_, ?_⟩
    · rw [hb.cell, ← Array.getElem?_toList]
      have := congrArg (·[0]?) h4
      rw [List.getElem?_take, if_pos (by simp)] at this
      exact this
    · rw [hb.cell, ← Array.getElem?_toList]
      have := congrArg (·[1]?) h4
      rw [List.getElem?_take, if_pos (by simp)] at this
      exact this
theorem less_empty (x : ByteArray) : lessB x ⟨#[]⟩ = false := by
  unfold lessB
  rw [ByteArray.toList_eq ⟨#[]⟩]
  cases x.toList <;> rfl
theorem inR_all (x : ByteArray) : inR ⟨#[]⟩ ⟨#[]⟩ x = true := by
  unfold inR
  rw [less_empty]; rfl
theorem filt_all (l : List KV) : filt ⟨#[]⟩ ⟨#[]⟩ l = l := List.filter_eq_self.2 fun x _ => inR_all x.1
theorem get_one (k v : ByteArray) : getL (putL [] k v) k = some v := by simp [putL, getL, lessB_irrefl]
theorem del_one (k v : ByteArray) : delL (putL [] k v) k = [] := by
  show delL [(k, v)] k = []
  unfold delL
  rw [lessB_irrefl]
  rfl
set_option maxRecDepth 100000 in
set_option maxHeartbeats 8000000 in
theorem awake_any (w : World) : Calls Try.prog 9 #[] w fun e w' => e = .returned (.bool true) ∧ Later w w' := by
  obtain ⟨W1, hW1⟩ : ∃ W1, W1 = w.alloc (.cells #[.slice none 0 0, .int .i64 0, .int .i64 0] 26) := ⟨_, rfl⟩
  obtain ⟨b, hb⟩ : ∃ b, b = w.heap.size := ⟨_, rfl⟩
  have hst := shelf_new w
  rw [← hW1, ← hb] at hst
  have hl1 : Later w W1 := by rw [hW1]; exact below_new _ _
  have hfit : keyFit kA := by unfold keyFit kA; decide
  have hvs : v1.size ≤ 400 := by unfold v1; decide
  obtain ⟨v0, hs0⟩ := hst.sh
  have CP := putT_none (rn := 1) (re := 0) hs0 hst.size hst.n0 (by decide) (by decide) hst.two hfit hvs rfl rfl
  have HT1 : Hid (Tree everyP [pgA1] 1 1 (putL [] kA v1)) := Lib.hid (Tree.first (S := []) (k := 0) hfit hvs trivial)
  have CP := Lib.hid CP
  have HST := Lib.hid hst
  have HL1 := Lib.hid hl1
  have HB := Lib.hid hb
  have HW1 := Lib.hid hW1
  clear hst hl1 hb hW1 hfit hvs hs0
  unfold shV at CP
  go_enter Try.func9, Try.ntmps9
  go_upto_region 2 with fail
  rw [← HW1.out, ← HB.out]
  go_wp2_with fail
  refine CP.out.mono ?_
  rintro e w2 ⟨rfl, hwr⟩
  have hs1 : (addS 0 ⟨[], 0⟩ ⟨true, [kA], [v1], []⟩).1 = ⟨[pgA1], 1⟩ := rfl
  rw [hs1] at hwr
  have hst2 : St b b 0 ⟨[pgA1], 1⟩ w2 := ⟨hwr.sh, Nat.le_trans HST.out.size hwr.kp.below.size, by intro p hp; rw [List.mem_singleton] at hp; subst hp; decide, by decide, by decide, by decide⟩
  have hkp2 : Below b W1 w2 := hwr.kp.below
  have CF := find_well kA hst2 (by decide) HT1.out (by decide)
  rw [get_one] at CF
  have CF := Lib.hid CF
  have HST2 := Lib.hid hst2
  have HK2 := Lib.hid hkp2
  clear CP hwr hs1 hst2 hkp2
  unfold shV at CF
  go_wp2_with fail
  refine CF.out.mono ?_
  rintro e w3 ⟨rfl, hrd⟩
  obtain ⟨n3, a1, a2, hst3, hkp3⟩ := hrd.st HST2.out (by decide)
  have CR := range_well (most := 9) ⟨#[]⟩ ⟨#[]⟩ hst3 (by dsimp only at a1 ⊢; omega) HT1.out (by decide)
  rw [show ranged ⟨#[]⟩ ⟨#[]⟩ 9 (putL [] kA v1) = [(kA, v1)] by unfold ranged; rw [filt_all]; rfl] at CR
  have CR := Lib.hid CR
  have HN3 : Hid (1 ≤ n3 ∧ n3 ≤ 21) := Lib.hid (by dsimp only at a1 a2; omega)
  have HST3 := Lib.hid hst3
  have HK3 := Lib.hid (HK2.out.trans hkp3.below)
  clear CF hrd a1 a2 hst3 hkp3
  unfold shV at CR
  go_wp2_with fail
  refine CR.out.mono ?_
  rintro e w4 ⟨lv, rfl, hit, hrd⟩
  obtain ⟨n4, a1, a2, hst4, hkp4⟩ := hrd.st HST3.out (by have := HN3.out; dsimp only; omega)
  obtain ⟨g, o, c, rfl, y0, y1⟩ := items_one hit
  have hgl : ∃ cs, Blk w4 g 61 cs := by
    obtain ⟨A', c', e', ho⟩ := hit
    cases e'
    rcases ho.2 with ⟨e, _⟩ | ⟨g', cap, cur, e, hg, hb, _⟩
    · cases e
    · cases e; exact ⟨cur, hb⟩
  obtain ⟨cs, hgl⟩ := hgl
  have HY : Hid (∀ V, Kp b w4 V → V.cell? ⟨g, o, none⟩ = some (.string kA) ∧ V.cell? ⟨g, o + 1, none⟩ = some (.string v1)) := Lib.hid fun V hV => by
    have := hV.far g _ cs ⟨by decide, by decide, by decide, by decide⟩ hgl
    exact ⟨(this.cell o).trans ((hgl.cell o).symm.trans y0), (this.cell (o + 1)).trans ((hgl.cell (o + 1)).symm.trans y1)⟩
  obtain ⟨d, hok, hit1, _, hd1⟩ := HT1.out.deep (by decide)
  obtain rfl : d = 1 := hd1 pgA1 rfl rfl
  have CG := pages_well hst4 (by dsimp only at a1 ⊢; have := HN3.out; omega) hok (by rw [hit1]; decide) (by decide)
  rw [show pagesN [pgA1] 1 1 = [1] by rfl] at CG
  have CG := Lib.hid CG
  have HN4 : Hid (1 ≤ n4 ∧ n4 ≤ 5000) := Lib.hid (by have := HN3.out; dsimp only at a1 a2; omega)
  have HOK := Lib.hid hok
  have HIT := Lib.hid hit1
  have HST4 := Lib.hid hst4
  have HK4 := Lib.hid (HK3.out.trans hkp4.below)
  clear CR hrd a1 a2 hst4 hkp4 hit y0 y1 hgl hok hit1 hd1
  unfold shV at CG
  go_wp2_with fail
  refine CG.out.mono ?_
  rintro e w5 ⟨A5, c5, rfl, ho5, hrd⟩
  obtain ⟨n5, a1, a2, hst5, hkp5⟩ := hrd.st HST4.out (by have := HN4.out; dsimp only; omega)
  have CD := deep_well hst5 (by dsimp only at a1 ⊢; have := HN4.out; omega) HOK.out (by rw [HIT.out]; decide) (by decide)
  rw [show (deepN [pgA1] 1 1 : Int) = 1 by rfl] at CD
  have CD := Lib.hid CD
  have HN5 : Hid (1 ≤ n5 ∧ n5 ≤ 10000) := Lib.hid (by have := HN4.out; dsimp only at a1 a2; omega)
  have HST5 := Lib.hid hst5
  have HKA : Hid (Kp b w4 w5) := Lib.hid hkp5
  have HK5 := Lib.hid (HK4.out.trans hkp5.below)
  clear CG hrd a1 a2 hst5 hkp5 ho5
  unfold shV at CD
  go_wp2_with fail
  refine CD.out.mono ?_
  rintro e w6 ⟨rfl, hrd⟩
  obtain ⟨n6, a1, a2, hst6, hkp6⟩ := hrd.st HST5.out (by have := HN5.out; dsimp only; omega)
  have CX := drop_well (fun _ => trivial) kA hst6 (by dsimp only at a1 ⊢; have := HN5.out; omega) HT1.out (by decide)
  have CX := Lib.hid CX
  have HN6' : Hid (1 ≤ n6 ∧ n6 ≤ 20000) := Lib.hid (by have := HN5.out; dsimp only at a1 a2; omega)
  have HST6 := Lib.hid hst6
  have HKA6 : Hid (Kp b w4 w6) := Lib.hid (HKA.out.trans hkp6)
  have HK6 := Lib.hid (HK5.out.trans hkp6.below)
  clear CD hrd a1 a2 hst6 hkp6
  unfold shV at CX
  go_wp2_with fail
  refine CX.out.mono ?_
  rintro e w7 ⟨s7, n7, er7, rfl, hsh7, hkp7, htw7, hgr7, hres⟩
  have hz : er7 = 0 ∧ n7 = 0 := by
    rcases hres with ⟨_, _, h⟩ | ⟨h1, _, h⟩
    · rw [get_one] at h; cases h
    · rw [del_one] at h
      exact ⟨h1, h.zero⟩
  obtain ⟨rfl, rfl⟩ := hz
  obtain ⟨⟨X7, hX7⟩, g1, g2, g3⟩ := hgr7
  have hst7 : St b b 0 s7 w7 := ⟨hsh7, Nat.le_trans HST6.out.size hkp7.below.size, htw7, by have := HN6'.out; dsimp only at g1; omega, by have := HN6'.out; dsimp only at g2; omega, by dsimp only at g3; simp at g3; omega⟩
  have CE := find_well kA hst7 hst7.n0 (Tree.none0 (Q := everyP) s7.S) (by decide)
  rw [show getL [] kA = none by rfl] at CE
  have CE := Lib.hid CE
  have HST7 := Lib.hid hst7
  have HKA7 : Hid (Kp b w4 w7) := Lib.hid (HKA6.out.trans hkp7)
  have HK7 := Lib.hid (HK6.out.trans hkp7.below)
  have HN7 : Hid (s7.n ≤ 30000) := Lib.hid (by have := HN6'.out; dsimp only at g2; omega)
  clear CX hres hsh7 hkp7 htw7 hX7 g1 g2 g3 hst7
  unfold shV at CE
  go_wp2_with fail
  refine CE.out.mono ?_
  rintro e w8 ⟨rfl, hrd⟩
  obtain ⟨n8, a1, a2, hst8, hkp8⟩ := hrd.st HST7.out (by have := HN7.out; omega)
  obtain ⟨y0, y1⟩ := HY.out w8 (HKA7.out.trans hkp8)
  have HK8 : Hid (Later w w8) := Lib.hid (by
    have := HK7.out.trans hkp8.below
    rw [HB.out] at this
    exact (show Below w.heap.size w W1 from HL1.out).trans this)
  clear CE hrd a1 a2 hst8 hkp8
  have t1 : v1.toList = [49] := by rw [ByteArray.toList_eq]; rfl
  have t2 : kA.toList = [97] := by rw [ByteArray.toList_eq]; rfl
  go_wp2_with fail
  go_ret
  exact ⟨rfl, HK8.out⟩
end Go.Proofs.Ytafeddjcomeniaa
end

/- publicanlaw7's small. Conditions: the changes lie in memory. -/
section
namespace Go.Proofs.Ytafeddjcomeniaa
open Go.RowKit
set_option linter.unusedVariables false
set_option linter.unusedSimpArgs false

def fitB (x : Ac7) : Bool := decide (1 ≤ x.k.size) && (decide (x.k.size ≤ 40) && decide (x.v.size ≤ 400))
def smallB (L : List Ac7) : Bool := decide (L.length ≤ 120) && L.all fitB
theorem small_yes {L : List Ac7} (h : smallB L = true) : L.length ≤ 120 ∧ ∀ (i : Nat) (x : Ac7), L[i]? = some x → keyFit x.k ∧ x.v.size ≤ 400 := by
  unfold smallB at h
  rw [Bool.and_eq_true, decide_eq_true_eq, List.all_eq_true] at h
  refine ⟨h.1, fun i x hx => ?_⟩
  have := h.2 x (List.mem_of_getElem? hx)
  unfold fitB at this
  simp only [Bool.and_eq_true, decide_eq_true_eq] at this
  exact ⟨⟨this.1, this.2.1⟩, this.2.2⟩
theorem all_snoc {L : List Ac7} {i : Nat} {x : Ac7} (hx : L[i]? = some x) : (L.take (i + 1)).all fitB = ((L.take i).all fitB && fitB x) := by
  obtain ⟨hi, rfl⟩ := List.getElem?_eq_some_iff.1 hx
  rw [List.take_add_one, List.getElem?_eq_getElem hi, List.all_append]
  simp
theorem not_all {L : List Ac7} {i : Nat} {x : Ac7} (hx : L[i]? = some x) (h : fitB x = false) : smallB L = false := by
  unfold smallB
  have : L.all fitB = false := by
    rw [List.all_eq_false]
    exact ⟨x, List.mem_of_getElem? hx, by rw [h]; simp⟩
  rw [this, Bool.and_false]
set_option maxRecDepth 100000 in
set_option maxHeartbeats 4000000 in
theorem small_any {w V : World} {B0 : Nat} {A : Option Addr} {n c : Nat} {L : List Ac7} (h : Acts7At w B0 A n L) (hb : Below B0 w V) (hn : n ≤ 9223372036854775807) :
    Calls Try.prog 13 #[.slice A n c] V fun e w' => e = .returned (.bool (smallB L)) ∧ V = w' := by
  have H := Lib.hid h
  have HB := Lib.hid hb
  have hL := h.1
  have HLL := Lib.hid hL
  clear h hb
  obtain ⟨SB, hSB⟩ : ∃ SB, SB = smallB L := ⟨_, rfl⟩
  rw [← hSB]
  have HSB := Lib.hid hSB
  clear hSB
  by_cases h120 : 120 < n
  · have e1 : (120 : Int) < (n : Int) := by omega
    obtain rfl : SB = false := HSB.out.trans (by unfold smallB; rw [decide_eq_false (by omega), Bool.false_and])
    clear hL
    go_enter Try.func13, Try.ntmps13
    go_wp2_with fail
    go_ret
    exact ⟨rfl, rfl⟩
  · have e1 : ¬ ((120 : Int) < (n : Int)) := by omega
    clear hL
    go_enter Try.func13, Try.ntmps13
    go_wp2_with fail
    go_loopg [3] n (fun m iv wr => ∃ i : Nat, iv = .int .i64 (i : Int) ∧ i + m = n ∧ wr = V ∧ Hid ((L.take i).all fitB = true))
    case atStart => exact ⟨0, rfl, by omega, rfl, Lib.hid rfl⟩
    case round =>
      obtain ⟨i, rfl, him, rfl, HA⟩ := hrel
      by_cases hlt : i < n
      · have hd3 : (i : Int) < (n : Int) := by omega
        have b1 : (0 : Int) ≤ (i : Int) := by omega
        obtain ⟨x, bb, oo, hx, rfl, hc⟩ := H.out.at_ hlt
        obtain ⟨y0, y1, y2⟩ := hc wr HB.out
        have HX := Lib.hid hx
        clear hx hc
        by_cases a1 : x.k.size < 1
        · have d1 : (x.k.size : Int) < 1 := by omega
          obtain rfl : SB = false := HSB.out.trans (not_all HX.out (by unfold fitB; rw [decide_eq_false (by omega), Bool.false_and]))
          go_wp2_with fail
          go_ret
          exact ⟨rfl, rfl⟩
        · have d1 : ¬ ((x.k.size : Int) < 1) := by omega
          by_cases a2 : 40 < x.k.size
          · have d2 : (40 : Int) < (x.k.size : Int) := by omega
            obtain rfl : SB = false := HSB.out.trans (not_all HX.out (by unfold fitB; rw [decide_eq_false (by omega : ¬ x.k.size ≤ 40), Bool.false_and, Bool.and_false]))
            go_wp2_with fail
            go_ret
            exact ⟨rfl, rfl⟩
          · have d2 : ¬ ((40 : Int) < (x.k.size : Int)) := by omega
            by_cases a3 : 400 < x.v.size
            · have d3 : (400 : Int) < (x.v.size : Int) := by omega
              obtain rfl : SB = false := HSB.out.trans (not_all HX.out (by unfold fitB; rw [decide_eq_false (by omega : ¬ x.v.size ≤ 400), Bool.and_false, Bool.and_false]))
              go_wp2_with fail
              go_ret
              exact ⟨rfl, rfl⟩
            · have d3 : ¬ ((400 : Int) < (x.v.size : Int)) := by omega
              have hs : Hid ((L.take (i + 1)).all fitB = true) := Lib.hid (by
                rw [all_snoc HX.out, HA.out]
                unfold fitB
                rw [decide_eq_true (by omega), decide_eq_true (by omega), decide_eq_true (by omega)]; rfl)
              have ewi : IntKind.i64.wrap ((i : Int) + 1) = (i : Int) + 1 := IntWalk.i64_in _ (by omega)
              go_wp2_with fail
              go_roundg (n - (i + 1))
              case measure => omega
              case rel => exact ⟨i + 1, by simp, by omega, rfl, hs⟩
      · have hd3 : ¬ ((i : Int) < (n : Int)) := by omega
        obtain rfl : SB = true := HSB.out.trans (by
          have := HA.out
          rw [List.take_of_length_le (by have := HLL.out; omega)] at this
          unfold smallB
          rw [this, decide_eq_true (by have := HLL.out; omega)]; rfl)
        go_wp2_with fail
        go_ret
        exact ⟨rfl, rfl⟩
end Go.Proofs.Ytafeddjcomeniaa
end

/- What publicanlaw7's laws keep: rows of items, the shelf's numbers. Conditions: none. -/
section
namespace Go.Proofs.Ytafeddjcomeniaa
open Go.RowKit
set_option linter.unusedVariables false
set_option linter.unusedSimpArgs false

theorem far_item : Far 61 := ⟨by decide, by decide, by decide, by decide⟩
theorem flatkv_get : ∀ (L : List KV) (i : Nat) (x : KV), L[i]? = some x → (L.flatMap kvC)[i * 2]? = some (.string x.1) ∧ (L.flatMap kvC)[i * 2 + 1]? = some (.string x.2)
  | [], i, x, h => by simp at h
  | a :: L, 0, x, h => by cases h; exact ⟨rfl, rfl⟩
  | a :: L, i + 1, x, h => by
    obtain ⟨h1, h2⟩ := flatkv_get L i x (by simpa using h)
    have e : (kvC a).length = 2 := rfl
    constructor
    · rw [List.flatMap_cons, List.getElem?_append_right (by omega), e, show (i + 1) * 2 - 2 = i * 2 by omega]; exact h1
    · rw [List.flatMap_cons, List.getElem?_append_right (by omega), e, show (i + 1) * 2 + 1 - 2 = i * 2 + 1 by omega]; exact h2
/-- A row of items: its cells, as long as blocks of items stay. -/
def ItRow (w : World) (A : Option Addr) (c : Nat) (L : List KV) : Prop := L.length ≤ c ∧ c ≤ maxLen ∧ ∀ (i : Nat) (x : KV), L[i]? = some x → ∃ g cs, A = some ⟨g, 0, none⟩ ∧ Blk w g 61 cs ∧ cs[i * 2]? = some (.string x.1) ∧ cs[i * 2 + 1]? = some (.string x.2)
theorem Items.row {G : Nat} {w : World} {v : Value} {L : List KV} (h : Items G w v L) : ∃ A c, v = .slice A L.length c ∧ ItRow w A c L := by
  obtain ⟨A, c, rfl, ho⟩ := h
  refine ⟨A, c, rfl, ?_⟩
  rcases ho.2 with ⟨e, hz⟩ | ⟨g, cap, cur, e, hg, hb, h1, h2, h3, h4⟩
  · injection e with e1 e2 e3
    subst e3
    exact ⟨by omega, Nat.zero_le _, fun i x hx => by have := (List.getElem?_eq_some_iff.1 hx).1; omega⟩
  · cases e
    refine ⟨h1, h2, fun i x hx => ⟨g, cur, rfl, hb, ?_⟩⟩
    have hi := (List.getElem?_eq_some_iff.1 hx).1
    obtain ⟨a, b⟩ := flatkv_get L i x hx
    rw [← h4, List.getElem?_take, if_pos (by omega), Array.getElem?_toList] at a b
    exact ⟨a, b⟩
theorem ItRow.keep {w w' : World} {A : Option Addr} {c : Nat} {L : List KV} (h : ItRow w A c L) (hk : ∀ g cs, Blk w g 61 cs → Blk w' g 61 cs) : ItRow w' A c L :=
  ⟨h.1, h.2.1, fun i x hx => by
    obtain ⟨g, cs, e, hb, a, b⟩ := h.2.2 i x hx
    exact ⟨g, cs, e, hk g cs hb, a, b⟩⟩
theorem ItRow.kp {B : Nat} {w w' : World} {A : Option Addr} {c : Nat} {L : List KV} (h : ItRow w A c L) (hk : Kp B w w') : ItRow w' A c L := h.keep fun g cs hb => hk.far g _ cs far_item hb
theorem ItRow.later {w w' : World} {A : Option Addr} {c : Nat} {L : List KV} (h : ItRow w A c L) (hk : Later w w') : ItRow w' A c L := h.keep fun g cs hb => hb.below hk hb.lt
theorem ItRow.get {w : World} {A : Option Addr} {c : Nat} {L : List KV} (h : ItRow w A c L) {i : Nat} (hi : i < L.length) : ∃ g, A = some ⟨g, 0, none⟩ ∧ ∀ m, (w.drewN m).cell? ⟨g, i * 2, none⟩ = some (.string L[i].1) ∧ (w.drewN m).cell? ⟨g, i * 2 + 1, none⟩ = some (.string L[i].2) := by
  obtain ⟨g, cs, e, hb, a, b⟩ := h.2.2 i L[i] (List.getElem?_eq_getElem hi)
  refine ⟨g, e, fun m => ?_⟩
  have hb' := hb.below (later_drewN w m) hb.lt
  exact ⟨(hb'.cell _).trans a, (hb'.cell _).trans b⟩
/-- Where a law stands whose shelf is well: its tree is the map l, behind k changes and j calls. -/
structure At (b : Nat) (s : Sh) (j k : Nat) (r : Int) (l : List KV) (w : World) : Prop where
  st : St b b 0 s w
  tree : Tree everyP s.S k r l
  n1 : s.n ≤ 5000 * j
  len : s.S.length ≤ 100 * k
section
variable {b j k : Nat} {s s' : Sh} {r n : Int} {l l' : List KV} {w w' : World}
theorem At.later (h : At b s j k r l w) (q : Later w w') : At b s j k r l w' := ⟨h.st.later q, h.tree, h.n1, h.len⟩
theorem At.next (h : At b s j k r l w) (hk : k ≤ 125) (hj : j ≤ 10000) (hs : ∃ v', ShAt b w' b 0 s' v') (hp : Kp b w w') (h2 : Two s'.S) (hg : Grow s s') (ht : Tree everyP s'.S (k + 1) n l') : At b s' (j + 1) (k + 1) n l' w' := by
  obtain ⟨_, g1, g2, g3⟩ := hg
  have h1 := h.n1
  have h3 := h.len
  exact ⟨⟨hs, Nat.le_trans h.st.size hp.below.size, h2, by have := h.st.n0; omega, by omega, by omega⟩, ht, by omega, by omega⟩
theorem At.same (h : At b s j k r l w) (hk : k ≤ 125) (hj : j ≤ 10000) (hs : ∃ v', ShAt b w' b 0 s' v') (hp : Kp b w w') (h2 : Two s'.S) (hg : Grow s s') : At b s' (j + 1) (k + 1) r l w' := by
  obtain ⟨⟨X, hX⟩, g1, g2, g3⟩ := hg
  have h1 := h.n1
  have h3 := h.len
  exact ⟨⟨hs, Nat.le_trans h.st.size hp.below.size, h2, by have := h.st.n0; omega, by omega, by omega⟩, by rw [hX]; exact (h.tree.grow X).more (Nat.le_succ k), by omega, by omega⟩
/-- Behind a read. -/
theorem At.read {K : Nat} (h : At b s j k r l w) (hj : j ≤ 10000) (hr : Read b b 0 s K w w') (hK : K ≤ 5000) : ∃ s', s'.S = s.S ∧ At b s' (j + 1) k r l w' ∧ Kp b w w' := by
  obtain ⟨n', h1, h2, h3, h4⟩ := hr.st h.st (by have := h.n1; omega)
  exact ⟨⟨s.S, n'⟩, rfl, ⟨h3, h.tree, by have := h.n1; show n' ≤ _; omega, h.len⟩, h4⟩
theorem At.start (w : World) : At w.heap.size ⟨[], 0⟩ 0 0 0 [] (w.alloc (.cells #[.slice none 0 0, .int .i64 0, .int .i64 0] 26)) := ⟨shelf_new w, Tree.none0 [], by decide, by decide⟩
theorem At.put (h : At b s j k r l w) (hk : k ≤ 124) (hj : j ≤ 10000) {key val : ByteArray} (hf : keyFit key) (hv : val.size ≤ 400) : Calls Try.prog 10 #[shV b, .int .u64 r, .string key, .string val] w fun e w' => ∃ s' n, e = .returned (.tuple #[.int .u64 n, .int .i64 0]) ∧ At b s' (j + 1) (k + 1) n (putL l key val) w' ∧ Kp b w w' ∧ Grow s s' :=
  (put_well (qput_every _) h.st h.st.n0 h.tree (by omega) hf hv).mono fun e w' ⟨s', n, he, hs, hp, h2, hg, ht⟩ => ⟨s', n, he, h.next (by omega) hj hs hp h2 hg ht, hp, hg⟩
theorem At.drop (h : At b s j k r l w) (hk : k ≤ 124) (hj : j ≤ 10000) (key : ByteArray) : Calls Try.prog 11 #[shV b, .int .u64 r, .string key] w fun e w' => ∃ s' n er, e = .returned (.tuple #[.int .u64 n, .int .i64 er]) ∧ Kp b w w' ∧ Grow s s' ∧ ((er = 5 ∧ n = 0 ∧ getL l key = none ∧ At b s' (j + 1) (k + 1) r l w') ∨ (er = 0 ∧ getL l key ≠ none ∧ At b s' (j + 1) (k + 1) n (delL l key) w')) :=
  (drop_well (fun _ => trivial) key h.st h.st.n0 h.tree (by omega)).mono fun e w' ⟨s', n, er, he, hs, hp, h2, hg, hr⟩ => ⟨s', n, er, he, hp, hg, by
    rcases hr with ⟨e1, e2, e3⟩ | ⟨e1, e2, e3⟩
    · exact .inl ⟨e1, e2, e3, h.same (by omega) hj hs hp h2 hg⟩
    · exact .inr ⟨e1, e2, h.next (by omega) hj hs hp h2 hg (e3.more (Nat.le_succ k))⟩⟩
theorem At.range (h : At b s j k r l w) (hk : k ≤ 124) (hj : j ≤ 10000) (fr til : ByteArray) (most : Int) : Calls Try.prog 12 #[shV b, .int .u64 r, .string fr, .string til, .int .i64 most] w fun e w' => ∃ A c s', e = .returned (.tuple #[.slice A (ranged fr til most l).length c, .int .i64 0]) ∧ ItRow w' A c (ranged fr til most l) ∧ s'.S = s.S ∧ At b s' (j + 1) k r l w' ∧ Kp b w w' :=
  (range_well fr til h.st h.st.n0 h.tree (by omega)).mono fun e w' ⟨lv, he, hi, hr⟩ => by
    obtain ⟨s', h1, h2, h3⟩ := h.read hj hr (by omega)
    obtain ⟨A, c, rfl, hr⟩ := hi.row
    exact ⟨A, c, s', he, hr, h1, h2, h3⟩
end
end Go.Proofs.Ytafeddjcomeniaa
end

/- What publicanlaw7.TreePages keeps: a tree of small pages, all leaves as deep; its keys along its pages. Conditions: none. -/
section
namespace Go.Proofs.Ytafeddjcomeniaa
open Go.RowKit
set_option linter.unusedVariables false
set_option linter.unusedSimpArgs false

def lkeys (S : List Pg) (n : Int) : List ByteArray := match pgAt S n with
  | some p => if p.leaf then p.keys else []
  | none => []
theorem pages_keys {Q : Pg → Prop} {S : List Pg} : ∀ {d : Nat} {n : Int} {lo hi : Option ByteArray}, OkN Q S d n lo hi → (pagesN S d n).flatMap (lkeys S) = (itemsN S d n).map Prod.fst
  | 0, _, _, _, h => h.elim
  | d + 1, n, lo, hi, ⟨p, h1, h2, h3⟩ => by
    have e1 : pagesN S (d + 1) n = n :: p.kids.flatMap (pagesN S d) := by rw [pagesN]; simp only [h1]
    have e2 : itemsN S (d + 1) n = itemsP (itemsN S d) p := by rw [itemsN]; simp only [h1]
    have e3 : lkeys S n = if p.leaf then p.keys else [] := by unfold lkeys; rw [h1]
    rw [e1, e2, List.flatMap_cons, e3]
    unfold itemsP
    cases hl : p.leaf with
    | true =>
      obtain ⟨a, b⟩ := h3.leaflen hl
      simp only [if_true]
      rw [b, List.flatMap_nil, List.flatMap_nil, List.append_nil, List.map_fst_zip (by omega)]
    | false =>
      simp only [Bool.false_eq_true, if_false, List.nil_append]
      rw [List.flatMap_assoc, List.map_flatMap]
      have hall : ∀ m ∈ p.kids, (pagesN S d m).flatMap (lkeys S) = (itemsN S d m).map Prod.fst := fun m hm => by
        obtain ⟨i, hi'⟩ := kids_mem hm
        exact pages_keys (h3.kids hl i m hi')
      generalize p.kids = ks at hall
      clear e1 e2 e3 h1 h2 h3 hl
      induction ks with
      | nil => rfl
      | cons m ks ih => rw [List.flatMap_cons, List.flatMap_cons, hall m List.mem_cons_self, ih fun m hm => hall m (List.mem_cons_of_mem _ hm)]
theorem pages_mem {Q : Pg → Prop} {S : List Pg} : ∀ {d : Nat} {n : Int} {lo hi : Option ByteArray}, OkN Q S d n lo hi → ∀ m ∈ pagesN S d n, ∃ p, pgAt S m = some p ∧ Q p ∧ ∃ d' lo' hi', OkPg (OkN Q S d') p lo' hi' ∧ (itemsP (itemsN S d') p).length ≤ (itemsN S d n).length
  | 0, _, _, _, h => h.elim
  | d + 1, n, lo, hi, ⟨p, h1, h2, h3⟩ => fun m hm => by
    have e1 : pagesN S (d + 1) n = n :: p.kids.flatMap (pagesN S d) := by rw [pagesN]; simp only [h1]
    have e2 : itemsN S (d + 1) n = itemsP (itemsN S d) p := by rw [itemsN]; simp only [h1]
    rw [e1] at hm
    rw [e2]
    rcases List.mem_cons.1 hm with rfl | hm
    · exact ⟨p, h1, h2, d, lo, hi, h3, Nat.le_refl _⟩
    · obtain ⟨k, hk, hm⟩ := List.mem_flatMap.1 hm
      obtain ⟨i, hi'⟩ := kids_mem hk
      have hl : p.leaf = false := by
        cases hl : p.leaf with
        | false => rfl
        | true => rw [(h3.leaflen hl).2] at hk; cases hk
      obtain ⟨q, a1, a2, d', lo', hi2, a3, a4⟩ := pages_mem (h3.kids hl i k hi') m hm
      exact ⟨q, a1, a2, d', lo', hi2, a3, Nat.le_trans a4 (kid_few hl hi')⟩
/-- Rising from last on. -/
def Ris (last : ByteArray) (K : List ByteArray) : Prop := (last :: K).Pairwise fun a b => lessB a b = true
theorem Ris.step {a b : ByteArray} {K : List ByteArray} (h : Ris a (b :: K)) : lessB a b = true ∧ Ris b K := ⟨(List.pairwise_cons.1 h).1 b List.mem_cons_self, (List.pairwise_cons.1 h).2⟩
theorem empty_less {k : ByteArray} (h : 1 ≤ k.size) : lessB ⟨#[]⟩ k = true := by
  cases c : lessB ⟨#[]⟩ k with
  | true => rfl
  | false =>
    have e : (⟨#[]⟩ : ByteArray) = k := lessB_tri c (less_empty k)
    rw [← e] at h
    simp [ByteArray.size] at h
/-- What a page of the tree is. -/
structure PgX (S : List Pg) (n : Int) (p : Pg) : Prop where
  at_ : pgAt S n = some p
  ok : Ok p
  fit : (encP p).length ≤ 900
  two : p.leaf = false → 2 ≤ p.kids.length
  ne : 1 ≤ p.keys.length
/-- The numbers of a tree's pages, and what is at them. -/
structure PgsX (S : List Pg) (P : List Int) : Prop where
  pg : ∀ (i : Nat) (n : Int), P[i]? = some n → ∃ p, PgX S n p
  ris : Ris ⟨#[]⟩ (P.flatMap (lkeys S))
theorem PgsX.of {S : List Pg} {d : Nat} {n : Int} (h : OkN fitP S d n none none) (hf : (itemsN S d n).length ≤ 1000) (hS : S.length ≤ 100000) : PgsX S (pagesN S d n) := by
  have hpg : ∀ m ∈ pagesN S d n, ∃ p, PgX S m p := fun m hm => by
    obtain ⟨p, h1, h2, d', lo', hi', h3, h4⟩ := pages_mem h m hm
    exact ⟨p, h1, pg_ok h3 (by omega) hS, h2, fun hl => by have := (h3.kidlen hl).2; have := h3.ne; omega, h3.ne⟩
  refine ⟨fun i m hm => hpg m (List.mem_of_getElem? hm), ?_⟩
  unfold Ris
  rw [List.pairwise_cons]
  constructor
  · intro k hk
    obtain ⟨m, hm, hk⟩ := List.mem_flatMap.1 hk
    obtain ⟨p, hp⟩ := hpg m hm
    unfold lkeys at hk
    rw [hp.at_] at hk
    dsimp only at hk
    split at hk
    · exact empty_less (good_key_size hp.ok.good k hk).1
    · cases hk
  · rw [pages_keys h, List.pairwise_map]
    exact items_sort h
theorem PgX.lkeys {S : List Pg} {n : Int} {p : Pg} (h : PgX S n p) : lkeys S n = if p.leaf then p.keys else [] := by unfold Go.Proofs.Ytafeddjcomeniaa.lkeys; rw [h.at_]
/-- Where TreePages stands. -/
structure AtX (b : Nat) (s : Sh) (j k : Nat) (r : Int) (l : List KV) (w : World) : Prop where
  st : St b b 0 s w
  tree : TreeX s.S k r l
  n1 : s.n ≤ 5000 * j
  len : s.S.length ≤ 100 * k
section
variable {b j k : Nat} {s s' : Sh} {r n : Int} {l l' : List KV} {w w' : World}
theorem AtX.skip (h : AtX b s j k r l w) : AtX b s (j + 1) (k + 1) r l w := ⟨h.st, h.tree.more, by have := h.n1; omega, by have := h.len; omega⟩
theorem AtX.later (h : AtX b s j k r l w) (q : Later w w') : AtX b s j k r l w' := ⟨h.st.later q, h.tree, h.n1, h.len⟩
theorem AtX.start (w : World) : AtX w.heap.size ⟨[], 0⟩ 0 0 0 [] (w.alloc (.cells #[.slice none 0 0, .int .i64 0, .int .i64 0] 26)) := ⟨shelf_new w, TreeX.none0 [], by decide, by decide⟩
theorem AtX.next (h : AtX b s j k r l w) (hk : k ≤ 125) (hj : j ≤ 10000) (hs : ∃ v', ShAt b w' b 0 s' v') (hp : Kp b w w') (h2 : Two s'.S) (hg : Grow s s') (ht : TreeX s'.S (k + 1) n l') : AtX b s' (j + 1) (k + 1) n l' w' := by
  obtain ⟨_, g1, g2, g3⟩ := hg
  have h1 := h.n1
  have h3 := h.len
  exact ⟨⟨hs, Nat.le_trans h.st.size hp.below.size, h2, by have := h.st.n0; omega, by omega, by omega⟩, ht, by omega, by omega⟩
theorem AtX.put (h : AtX b s j k r l w) (hk : k ≤ 124) (hj : j ≤ 10000) {key val : ByteArray} (hf : keyFit key) (hv : val.size ≤ 400) : Calls Try.prog 10 #[shV b, .int .u64 r, .string key, .string val] w fun e w' => ∃ s' n, e = .returned (.tuple #[.int .u64 n, .int .i64 0]) ∧ AtX b s' (j + 1) (k + 1) n (putL l key val) w' ∧ Kp b w w' := by
  obtain ⟨v, hs⟩ := h.st.sh
  have hn0 := h.st.n0
  have hn1 := h.st.n1
  have hlen := h.st.len
  by_cases h0 : r = 0
  · subst h0
    rw [h.tree.none_ rfl]
    refine (putT_none hs h.st.size hn0 (by omega) (by omega) h.st.two hf hv rfl rfl).mono ?_
    rintro e w' ⟨rfl, hw⟩
    have hC := putT_ok0 (k := k) 0 hf hv qput_fit h.st.two
    have hT := TreeX.first (S := s.S) (k := k) hf hv
    rcases addS_ok 0 s ⟨true, [key], [val], []⟩ with ⟨s2, e2, g2, hc2⟩ | ⟨s2, e2, g2, hc2⟩
    · have := g2.sick rfl; omega
    · rw [e2] at hC hw ⊢
      refine ⟨s2, _, rfl, h.next (by omega) hj hw.sh hw.kp hC.two (g2.grow hC.cost) ?_, hw.kp⟩
      dsimp only [Option.getD]
      rw [g2.S]
      exact hT
  · obtain ⟨d, hok, hit, hdp, hex⟩ := h.tree.some_ h0
    have hd : d ≤ 20 := by
      have : 1 ≤ rk s.S r := by
        match d, hok with
        | d + 1, ⟨p, h1, h2, h3⟩ =>
          unfold rk
          rw [h1]
          dsimp only
          have := h3.ne
          split <;> omega
      omega
    have hfew := h.tree.few
    obtain ⟨hR, hJ, hC⟩ := putT_ok 0 hf hv qput_fit h.tree.tree h.st.two h0 hok hit hdp (by omega) (by omega) hn0 (by omega)
    have hX := putT_x (ill := 0) hf hv hn0 hfew h0 hok hit hdp hex (by omega) (by omega)
    refine (putT_some hs h.st.size hn0 (by omega) (by omega) h.st.two hok (by rw [hit]; omega) hd hf hv hR hJ).mono ?_
    rintro e w' ⟨rfl, hw⟩
    rcases hC.res with ⟨_, _, X, g⟩ | ⟨e0, ⟨X, g⟩, _⟩
    · have := g.sick rfl; omega
    · rw [e0]
      exact ⟨_, _, rfl, h.next (by omega) hj hw.sh hw.kp hC.two (g.grow hC.cost) hX, hw.kp⟩
end
set_option maxRecDepth 100000 in
theorem level_none (b : Nat) (w : World) : Calls Try.prog 29 #[.pointer (some ⟨b, 0, none⟩), .int .u64 0, .int .i64 0] w fun e w' => e = .returned (.bool true) ∧ w' = w := by
  go_enter Try.func29, Try.ntmps29
  go_wp2_with fail
  go_ret
  exact ⟨rfl, rfl⟩
end Go.Proofs.Ytafeddjcomeniaa
end

/- publicanlaw7.TreeIll answers true. Conditions: the changes lie in memory. -/
section
namespace Go.Proofs.Ytafeddjcomeniaa
open Go.RowKit
set_option linter.unusedVariables false
set_option linter.unusedSimpArgs false

def putsL (l : List KV) (L : List Ac7) : List KV := L.foldl (fun l x => if x.drop then l else putL l x.k x.v) l
theorem puts_snoc {L : List Ac7} {i : Nat} {x : Ac7} (hx : L[i]? = some x) : putsL [] (L.take (i + 1)) = if x.drop then putsL [] (L.take i) else putL (putsL [] (L.take i)) x.k x.v := by
  obtain ⟨hi, rfl⟩ := List.getElem?_eq_some_iff.1 hx
  rw [List.take_add_one, List.getElem?_eq_getElem hi]
  unfold putsL
  rw [List.foldl_append]
  rfl
theorem At.skip {b j k : Nat} {s : Sh} {r : Int} {l : List KV} {w : World} (h : At b s j k r l w) : At b s (j + 1) (k + 1) r l w := ⟨h.st, h.tree.more (Nat.le_succ k), by have := h.n1; omega, by have := h.len; omega⟩
/-- How the one change ends. -/
structure Out (b : Nat) (ill : Int) (s1 s' : Sh) (n er : Int) (V w : World) : Prop where
  res : (er = 4 ∧ n = 0 ∧ s'.n = ill) ∨ ((er = 0 ∨ er = 5) ∧ s'.n < ill)
  grown : ∃ X, s'.S = s1.S ++ X
  n0 : 0 ≤ s'.n
  n1 : s'.n ≤ 100
  len : s'.S.length ≤ s1.S.length + 100
  two : Two s'.S
  sh : ∃ v', ShAt b w b ill s' v'
  kp : Kp b V w
end Go.Proofs.Ytafeddjcomeniaa
end

/- publicanlaw7.TreePages answers true. Conditions: the changes lie in memory. -/
section
namespace Go.Proofs.Ytafeddjcomeniaa
open Go.RowKit
set_option linter.unusedVariables false
set_option linter.unusedSimpArgs false

set_option maxRecDepth 100000 in
set_option maxHeartbeats 16000000 in
theorem treePages_all (W : World) (A : Option Addr) (n c : Nat) (L : List Ac7) (hnc : n ≤ c) (hc : c ≤ maxLen) (h : Acts7At W W.heap.size A n L) :
    Calls Try.prog 6 #[.slice A n c] W fun e w' => e = .returned (.bool true) ∧ Below W.heap.size W w' := by
  have hn : n ≤ 9223372036854775807 := by unfold maxLen at hc; omega
  have CA := Lib.hid (awake_any W)
  have H := Lib.hid h
  have HLL := Lib.hid h.1
  clear h
  go_enter Try.func6, Try.ntmps6
  go_wp2_with fail
  refine CA.out.mono ?_
  rintro e w1 ⟨rfl, hl1⟩
  have HL1 : Hid (Later W w1) := Lib.hid hl1
  have CS := Lib.hid (small_any (c := c) H.out (show Below _ _ _ from HL1.out) hn)
  clear CA hl1
  go_wp2_with fail
  refine CS.out.mono ?_
  rintro e w' ⟨rfl, rfl⟩
  clear CS
  cases hsm : smallB L with
  | false =>
    have FIN : Hid (Below W.heap.size W w1) := Lib.hid HL1.out
    clear hsm
    go_wp2_with fail
    go_ret
    exact ⟨rfl, FIN.out⟩
  | true =>
    obtain ⟨h120, hfit⟩ := small_yes hsm
    have HFIT := Lib.hid hfit
    have HN : Hid (n ≤ 120) := Lib.hid (by rw [← HLL.out]; exact h120)
    clear hsm hfit h120
    obtain ⟨W3, hW3⟩ : ∃ W3, W3 = w1.alloc (.cells #[.slice none 0 0, .int .i64 0, .int .i64 0] 26) := ⟨_, rfl⟩
    obtain ⟨b, hb⟩ : ∃ b, b = w1.heap.size := ⟨_, rfl⟩
    have hat := AtX.start w1
    rw [← hW3, ← hb] at hat
    have hl3 : Later w1 W3 := by rw [hW3]; exact below_new _ _
    have HAT := Lib.hid hat
    have HL3 : Hid (Later W W3) := Lib.hid (HL1.out.trans hl3)
    have HBW : Hid (W.heap.size ≤ b) := Lib.hid (by have := (show Below _ _ _ from HL1.out).size; rw [hb]; omega)
    have HB := Lib.hid hb
    have HW3 := Lib.hid hW3
    clear hat hl3 hb hW3
    go_upto_region 6 with fail
    rw [← HW3.out, ← HB.out]
    go_wp2_with fail
    go_loopg [4, 5] n (fun m rv iv wr => ∃ (i : Nat) (s : Sh) (r : Int), iv = .int .i64 (i : Int) ∧ rv = .int .u64 r ∧ i + m = n ∧ Hid (AtX b s i i r (putsL [] (L.take i)) wr) ∧ Hid (Kp b W3 wr))
    case atStart => exact ⟨0, ⟨[], 0⟩, 0, rfl, rfl, by omega, HAT, Lib.hid ⟨Below.refl _ _, fun _ _ _ _ h => h, Sm.refl _⟩⟩
    case round =>
      obtain ⟨i, s, r, rfl, rfl, him, HA, HP⟩ := hrel
      by_cases hlt : i < n
      · have hd3 : (i : Int) < (n : Int) := by omega
        have b1 : (0 : Int) ≤ (i : Int) := by omega
        have ewi : IntKind.i64.wrap ((i : Int) + 1) = (i : Int) + 1 := IntWalk.i64_in _ (by omega)
        obtain ⟨y, bb, oo, hy, rfl, hc⟩ := H.out.at_ hlt
        have HC : Hid (∀ V, Later wr V → V.cell? ⟨bb, oo + i * 3, none⟩ = some (.string y.k) ∧ V.cell? ⟨bb, oo + i * 3 + 1, none⟩ = some (.string y.v)) := Lib.hid fun V hV => by
          obtain ⟨a, b, _⟩ := hc V ((show Below W.heap.size W W3 from HL3.out).trans ((HP.out.below.mono HBW.out).trans ((show Below _ _ _ from hV).mono (by have := HBW.out; have := HA.out.st.size; omega))))
          exact ⟨a, b⟩
        have hc2 := (hc wr ((show Below W.heap.size W W3 from HL3.out).trans (HP.out.below.mono HBW.out))).2.2
        have hsn := puts_snoc hy
        have hf := HFIT.out i y hy
        cases hyd : y.drop with
        | true =>
          rw [hyd] at hsn hc2
          have HA2 : Hid (AtX b s (i + 1) (i + 1) r (putsL [] (L.take (i + 1))) wr) := Lib.hid (by rw [hsn]; exact HA.out.skip)
          clear hsn hf hyd hc hy
          go_wp2_with fail
          go_roundg (n - (i + 1))
          case measure => omega
          case rel => exact ⟨i + 1, s, r, by simp, rfl, by omega, HA2, HP⟩
        | false =>
          rw [hyd] at hsn hc2
          have CP : Hid (∀ V, Later wr V → Calls Try.prog 10 #[shV b, .int .u64 r, .string y.k, .string y.v] V fun e w' => ∃ s' n, e = .returned (.tuple #[.int .u64 n, .int .i64 0]) ∧ AtX b s' (i + 1) (i + 1) n (putL (putsL [] (L.take i)) y.k y.v) w' ∧ Kp b V w') := Lib.hid fun V hV => (HA.out.later hV).put (by have := HN.out; omega) (by have := HN.out; omega) hf.1 hf.2
          have HSN := Lib.hid hsn
          unfold shV at CP
          have HCB : Hid (∀ V, Kp b wr V → V.cell? ⟨bb, oo + i * 3, none⟩ = some (.string y.k) ∧ V.cell? ⟨bb, oo + i * 3 + 1, none⟩ = some (.string y.v)) := Lib.hid fun V hV => by
            obtain ⟨a, b, _⟩ := hc V ((show Below W.heap.size W W3 from HL3.out).trans ((HP.out.below.mono HBW.out).trans (hV.below.mono HBW.out)))
            exact ⟨a, b⟩
          clear hsn hf hyd hc hy
          go_upto_region 11 with fail
          go_region_held3 (fun w' => w'.cell? ⟨bb, oo + i * 3, none⟩ = some (.string y.k) ∧ w'.cell? ⟨bb, oo + i * 3 + 1, none⟩ = some (.string y.v))
            (first | exact HC.out _ (Later.refl wr).drew | exact hS3)
            (first | (go_simp; go_at_call 10; go_must (refine (CP.out _ (Later.refl wr).drew).mono ?_); rintro e w3 ⟨s', n', rfl, hat', hkp'⟩
                      have hkp3 : Kp b wr w3 := (Kp.later HA.out.st.size (Later.refl wr).drew).trans hkp'
                      have hS3 := HCB.out w3 hkp3))
          have HA2 : Hid (AtX b s' (i + 1) (i + 1) n' (putsL [] (L.take (i + 1))) w3) := Lib.hid (by rw [HSN.out]; exact hat')
          have HP2 := Lib.hid (HP.out.trans hkp3)
          clear hat' hkp' hkp3 hS3
          go_wp2_with fail
          go_roundg (n - (i + 1))
          case measure => omega
          case rel => exact ⟨i + 1, s', n', by simp, rfl, by omega, HA2, HP2⟩
      · have hd3 : ¬ ((i : Int) < (n : Int)) := by omega
        have hiN : Hid (i ≤ 120) := Lib.hid (by have := HN.out; omega)
        generalize putsL [] (L.take i) = l at HA
        have HBL : Hid (Below W.heap.size W wr) := Lib.hid ((show Below W.heap.size W W3 from HL3.out).trans (HP.out.below.mono HBW.out))
        clear HP
        by_cases h0 : r = 0
        · subst h0
          have CP := Lib.hid (pages_none HA.out.st)
          unfold shV at CP
          go_wp2_with fail
          refine CP.out.mono ?_
          rintro e w4 ⟨A1, c1, rfl, hr1⟩
          obtain ⟨n1, hn1, hn1', hst1, hkp1⟩ := hr1.st HA.out.st (by have := HA.out.n1; have := hiN.out; omega)
          have CD := Lib.hid (deep_none hst1)
          unfold shV at CD
          clear hr1 CP
          go_wp2_with fail
          refine CD.out.mono ?_
          rintro e w5 ⟨rfl, hr2⟩
          obtain ⟨n2, hn2, hn2', hst2, hkp2⟩ := hr2.st hst1 (by have := HA.out.n1; have := hiN.out; dsimp only; omega)
          have FIN : Hid (Below W.heap.size W w5) := Lib.hid (HBL.out.trans ((hkp1.trans hkp2).below.mono HBW.out))
          have CV := Lib.hid (level_none b w5)
          clear hr2 CD hkp1 hkp2 hst1 hst2
          go_wp2_with fail
          go_loopg [13] 1 (fun m iv wx => iv = .int .i64 0 ∧ wx = w5)
          case atStart => exact ⟨rfl, rfl⟩
          case round =>
            obtain ⟨rfl, rfl⟩ := hrel
            go_wp2_with fail
            refine CV.out.mono ?_
            rintro e w6 ⟨rfl, rfl⟩
            go_wp2_with fail
            go_ret
            exact ⟨rfl, FIN.out⟩
        · obtain ⟨d, hok, hit, hdp, hex⟩ := HA.out.tree.some_ h0
          have hfew := HA.out.tree.few
          have hi120 := hiN.out
          have hS := HA.out.st.len
          have hd1 : 1 ≤ d := by
            match d, hok with
            | d + 1, _ => omega
          have CP := pages_well HA.out.st HA.out.st.n0 hok (by rw [hit]; omega) (by omega)
          have hPX := PgsX.of hok (by rw [hit]; omega) (by omega)
          have hnd := nodes_le hok
          rw [hit] at hnd
          rw [← pages_len] at hnd
          generalize hP : pagesN s.S d r = P at CP hPX hnd
          obtain ⟨N, hN⟩ : ∃ N, N = P.length := ⟨_, rfl⟩
          rw [← hN] at CP
          have HNN := Lib.hid hN
          have HN2 : Hid (N ≤ 240) := Lib.hid (by omega)
          have HPX := Lib.hid hPX
          have HOK := Lib.hid hok
          have HEX := Lib.hid hex
          have HBD : Hid (1 ≤ d ∧ d ≤ 20 ∧ (itemsN s.S d r).length ≤ 120) := Lib.hid ⟨hd1, by omega, by rw [hit]; omega⟩
          have HND : Hid (nodesN s.S d r ≤ 240) := Lib.hid (by rw [← pages_len, hP]; omega)
          have CP := Lib.hid CP
          unfold shV at CP
          have h0' : ((r : Int) == 0) = false := beq_eq_false_iff_ne.2 h0
          have hdz : ((d : Int) == 0) = false := beq_eq_false_iff_ne.2 (by omega)
          clear hok hit hdp hex hfew hi120 hS hd1 hPX hnd hN hP
          go_wp2_with fail
          refine CP.out.mono ?_
          rintro e w4 ⟨A1, c1, rfl, hrow, hr1⟩
          obtain ⟨n1, hn1, hn1', hst1, hkp1⟩ := hr1.st HA.out.st (by have := HA.out.n1; have := hiN.out; omega)
          rw [HNN.out] at hrow
          obtain ⟨A1', c1', e1, hrow⟩ := Row.of_own hrow
          cases e1
          have CD := deep_well hst1 hst1.n0 HOK.out (by have := HBD.out; dsimp only; omega) (by have := HBD.out; omega)
          rw [deep_ex HEX.out HOK.out] at CD
          have CD := Lib.hid CD
          unfold shV at CD
          clear hr1 CP
          go_wp2_with fail
          refine CD.out.mono ?_
          rintro e w5 ⟨rfl, hr2⟩
          obtain ⟨n2, hn2, hn2', hst2, hkp2⟩ := hr2.st hst1 (by have := HA.out.n1; have := hiN.out; dsimp only; omega)
          dsimp only at hn2 hn2' hst2
          have HROW : Hid (Nrow w5 A1 c1 P) := Lib.hid (hrow.smN hkp2.sm)
          have HST : Hid (St b b 0 ⟨s.S, n2⟩ w5) := Lib.hid hst2
          have HN3 : Hid (n2 ≤ 700000) := Lib.hid (by have := HA.out.n1; have := hiN.out; omega)
          have HBL5 : Hid (Below W.heap.size W w5) := Lib.hid (HBL.out.trans ((hkp1.trans hkp2).below.mono HBW.out))
          obtain ⟨S, hS⟩ : ∃ S, S = s.S := ⟨_, rfl⟩
          have HS := Lib.hid hS
          rw [← hS] at HPX HST HOK HEX HND HBD
          clear hr2 CD hkp1 hkp2 hst1 hst2 hrow hS hn1 hn1' hn2 hn2' HA
          go_wp2_with fail
          clear h0' hdz
          go_loopg [12, 13] N (fun m lv iv wx => ∃ (j : Nat) (last : ByteArray) (n' : Int), iv = .int .i64 (j : Int) ∧ lv = .string last ∧ j + m = N ∧ Hid (St b b 0 ⟨S, n'⟩ wx) ∧ Hid (n' ≤ 700000 + j) ∧ Hid (Kp b w5 wx) ∧ Hid (Ris last ((P.drop j).flatMap (lkeys S))))
          case atStart => exact ⟨0, _, n2, rfl, rfl, by omega, HST, Lib.hid (by have := HN3.out; omega), Lib.hid ⟨Below.refl _ _, fun _ _ _ _ h => h, Sm.refl _⟩, Lib.hid HPX.out.ris⟩
          case round =>
            obtain ⟨j, last, n', rfl, rfl, hjm, HT, HJN, HK, HR⟩ := hrel
            by_cases hlt : j < N
            · have hd3 : (j : Int) < (N : Int) := by omega
              have b1 : (0 : Int) ≤ (j : Int) := by omega
              have ewj : IntKind.i64.wrap ((j : Int) + 1) = (j : Int) + 1 := IntWalk.i64_in _ (by have := HN2.out; omega)
              have hjP : j < P.length := by rw [← HNN.out]; exact hlt
              obtain ⟨m', hm'⟩ : ∃ m', m' = P.getD j 0 := ⟨_, rfl⟩
              have hkm : P[j]? = some m' := by rw [hm']; exact getD_some 0 hjP
              obtain ⟨ad, rfl, _, _, hcell⟩ := HROW.out.get hkm
              have hc0 := hcell wr (fun g cs => (HK.out.sm g cs).2)
              obtain ⟨p, hpx⟩ := HPX.out.pg j m' hkm
              have hdr : P.drop j = m' :: P.drop (j + 1) := by rw [List.drop_eq_getElem_cons hjP]; rw [List.getElem?_eq_getElem hjP] at hkm; rw [Option.some.inj hkm]
              obtain ⟨R, hR⟩ : ∃ R, R = (P.drop (j + 1)).flatMap (lkeys S) := ⟨_, rfl⟩
              have hris := HR.out
              rw [hdr, List.flatMap_cons, hpx.lkeys, ← hR] at hris
              obtain ⟨v, hs⟩ := HT.out.sh
              have CQ := Lib.hid (shPage_any hs HT.out.n0 (by have := HT.out.n1; omega) hpx.at_ (by have := HT.out.len; omega))
              have HSH := Lib.hid hs
              have HRIS := Lib.hid hris
              have HRR := Lib.hid hR
              have HPG := Lib.hid hpx
              clear hm' hkm hcell hpx hdr hris hR hs hjP HR
              go_wp2_with fail
              refine CQ.out.mono ?_
              rintro e w6 ⟨h1, h2, hk2, hm2, -⟩
              rcases h1 with ⟨hil, _⟩ | ⟨_, cc, rfl, hcc⟩
              · have := HT.out.n0
                dsimp only at this hil
                omega
              · obtain ⟨A2, c2, A3, c3, A4, c4, rfl, hpa⟩ := hcc
                unfold pgc
                obtain ⟨W7, hW7⟩ : ∃ W7, W7 = w6.alloc (.cells #[.bool p.leaf, .slice A2 p.keys.length c2, .slice A3 p.vals.length c3, .slice A4 p.kids.length c4] 54) := ⟨_, rfl⟩
                have hl7 : Later w6 W7 := by rw [hW7]; exact below_new _ _
                obtain ⟨q, hqq⟩ : ∃ q, q = w6.heap.size := ⟨_, rfl⟩
                have kp7 : Blk W7 q 54 #[.bool p.leaf, .slice A2 p.keys.length c2, .slice A3 p.vals.length c3, .slice A4 p.kids.length c4] := by rw [hW7, hqq]; exact Blk.new _ _ _
                have hpa7 := hpa.sm (Sm.later hl7)
                have hse : Seen b b 0 ⟨S, n'⟩ v 1 wr W7 := Seen.later ⟨n' + 1, by dsimp only; omega, by dsimp only; omega, h2, hk2, hm2⟩ hl7
                obtain ⟨n8, _, hn8, hst8, hkp8⟩ := (hse.read HT.out.size HSH.out).st HT.out (by have := HJN.out; have := HN2.out; dsimp only; omega)
                have CG : Hid (Calls Try.prog 27 #[.agg #[.bool p.leaf, .slice A2 p.keys.length c2, .slice A3 p.vals.length c3, .slice A4 p.kids.length c4]] W7 fun e w' => e = .returned (.bool true) ∧ Below W7.heap.size W7 w') := Lib.hid (good_yes hpa7 HPG.out.ok.good HPG.out.ok.few)
                have CB : Hid (∀ V, Later W7 V → Calls Try.prog 28 #[.agg #[.bool p.leaf, .slice A2 p.keys.length c2, .slice A3 p.vals.length c3, .slice A4 p.kids.length c4]] V fun e w' => e = .returned (.int .i64 ((encP p).length : Nat)) ∧ Below V.heap.size V w') := Lib.hid fun V hV => bytes_any ⟨_, _, _, _, _, _, rfl, hpa7.sm (Sm.later hV)⟩ HPG.out.ok
                have HPA := Lib.hid hpa7
                have HKP := Lib.hid kp7
                have HT7 := Lib.hid hst8
                have HJ7 : Hid (n8 ≤ 700000 + (j + 1 : Nat)) := Lib.hid (by have := HJN.out; dsimp only at hn8; omega)
                have HK7 := Lib.hid (HK.out.trans hkp8)
                have HW7 := Lib.hid hW7
                have HQ := Lib.hid hqq
                have hfit : ¬ ((900 : Int) < (((encP p).length : Nat) : Int)) := by have := HPG.out.fit; omega
                clear h2 hk2 hm2 hpa hl7 hqq kp7 hpa7 hse hn8 hst8 hkp8 hW7 CQ hc0
                generalize hk1 : p.keys.length = k1 at *
                generalize hk2 : p.vals.length = k2 at *
                generalize hk3 : p.kids.length = k3 at *
                generalize hnb : (encP p).length = nb at *
                have HE := Lib.hid (And.intro hk1 (And.intro hk2 hk3))
                clear hk1 hk2 hk3 hnb
                obtain ⟨z0, z1, z2, z3⟩ := cells4 HKP.out
                go_upto_region 24 with fail
                rw [← HW7.out, ← HQ.out]
                go_wp2_with fail
                refine CG.out.mono ?_
                rintro e w8 ⟨rfl, hl8⟩
                have CB8 := Lib.hid (CB.out w8 hl8)
                have HL8 : Hid (Later W7 w8) := Lib.hid hl8
                have HKP8 := Lib.hid (HKP.out.below hl8 HKP.out.lt)
                clear z0 z1 z2 z3 hl8 CG CB
                obtain ⟨z0, z1, z2, z3⟩ := cells4 HKP8.out
                go_wp2_with fail
                refine CB8.out.mono ?_
                rintro e w9 ⟨rfl, hl9⟩
                have HL9 : Hid (Later W7 w9) := Lib.hid (HL8.out.trans hl9)
                have HKP9 := Lib.hid (HKP8.out.below hl9 HKP8.out.lt)
                have HT9 := Lib.hid (HT7.out.later HL9.out)
                have HK9 : Hid (Kp b w5 w9) := Lib.hid (HK7.out.trans (Kp.later HT7.out.size HL9.out))
                have HPA9 := Lib.hid (HPA.out.sm (Sm.later HL9.out))
                clear z0 z1 z2 z3 hl9 CB8 HKP8 HT7 HK7 HKP HPA
                cases hl : p.leaf with
                | false =>
                  rw [hl] at HKP9
                  have hrs := HRIS.out
                  rw [hl] at hrs
                  simp only [Bool.false_eq_true, if_false, List.nil_append] at hrs
                  have HRS := Lib.hid hrs
                  have h2k : ¬ ((k3 : Int) < 2) := by have := HPG.out.two hl; have := HE.out.2.2; omega
                  have h1k : (0 : Int) < (k1 : Int) := by have := HPG.out.ne; have := HE.out.1; omega
                  obtain ⟨z0, z1, z2, z3⟩ := cells4 HKP9.out
                  clear hl hrs
                  go_wp2_with fail
                  go_loopg [12, 16] 1 (fun m lv iv wx => iv = .int .i64 0 ∧ lv = .string last ∧ wx = w9)
                  case atStart => exact ⟨rfl, rfl, rfl⟩
                  case round =>
                    obtain ⟨rfl, rfl, rfl⟩ := hrel
                    go_wp2_with fail
                    clear z0 z1 z2 z3
                    go_roundg (N - (j + 1))
                    case measure => omega
                    case rel => exact ⟨j + 1, last, n8, by simp, rfl, by omega, HT9, HJ7, HK9, Lib.hid (by rw [← HRR.out]; exact HRS.out)⟩
                | true =>
                  rw [hl] at HKP9
                  have hrs := HRIS.out
                  rw [hl] at hrs
                  simp only [if_true] at hrs
                  have HRS := Lib.hid hrs
                  obtain ⟨z0, z1, z2, z3⟩ := cells4 HKP9.out
                  have HK16 : Hid (k1 ≤ 1000) := Lib.hid (by have := HPG.out.ok.few; have := HE.out.1; omega)
                  clear hl hrs
                  go_wp2_with fail
                  clear h0
                  go_loopg [12, 16] k1 (fun m lv iv wx => ∃ (k : Nat) (la : ByteArray), iv = .int .i64 (k : Int) ∧ lv = .string la ∧ k + m = k1 ∧ wx = w9 ∧ Hid (Ris la (p.keys.drop k ++ R)))
                  case atStart => exact ⟨0, last, rfl, rfl, by omega, rfl, Lib.hid (by simpa using HRS.out)⟩
                  case round =>
                    obtain ⟨k, la, rfl, rfl, hkm, rfl, HRK⟩ := hrel
                    by_cases hk : k < k1
                    · have hd4 : (k : Int) < (k1 : Int) := by omega
                      have b2 : (0 : Int) ≤ (k : Int) := by omega
                      have ewk : IntKind.i64.wrap ((k : Int) + 1) = (k : Int) + 1 := IntWalk.i64_in _ (by have := HK16.out; omega)
                      have hkP : k < p.keys.length := by have := HE.out.1; omega
                      obtain ⟨x, hx⟩ : ∃ x, x = p.keys.getD k ⟨#[]⟩ := ⟨_, rfl⟩
                      have hkx : p.keys[k]? = some x := by rw [hx]; exact getD_some _ hkP
                      obtain ⟨ad2, rfl, _, _, hcell⟩ := HPA9.out.k.get hkx
                      have hc0 := hcell wr (fun g cs h => h)
                      have hris := HRK.out
                      rw [show p.keys.drop k = x :: p.keys.drop (k + 1) by rw [List.drop_eq_getElem_cons hkP]; rw [List.getElem?_eq_getElem hkP] at hkx; rw [Option.some.inj hkx], List.cons_append] at hris
                      obtain ⟨hle, hris⟩ := hris.step
                      have hd5 : Op.bytesLess la.toList x.toList = true := hle
                      have hd6 : (Op.bytesLess x.toList la.toList || x.toList == la.toList) = false := by rw [bytes_nle, hd5]; rfl
                      have HRN := Lib.hid hris
                      clear hx hkx hcell hle hris hkP
                      go_wp2_with fail
                      go_roundg (k1 - (k + 1))
                      case measure => omega
                      case rel => exact ⟨k + 1, x, by simp, rfl, by omega, rfl, HRN⟩
                    · have hd4 : ¬ ((k : Int) < (k1 : Int)) := by omega
                      go_wp2_with fail
                      clear z0 z1 z2 z3
                      go_roundg (N - (j + 1))
                      case measure => omega
                      case rel => exact ⟨j + 1, la, n8, by simp, rfl, by omega, HT9, HJ7, HK9, Lib.hid (by
                        rw [← HRR.out]
                        have := HRK.out
                        rw [List.drop_eq_nil_of_le (by have := HE.out.1; omega), List.nil_append] at this
                        exact this)⟩
            · have hd3 : ¬ ((j : Int) < (N : Int)) := by omega
              obtain ⟨v, hs⟩ := HT.out.sh
              have hb := HBD.out
              have hnd := HND.out
              have CV := Lib.hid (level_any d HEX.out HOK.out (by dsimp only; omega) (by have := HT.out.len; dsimp only at *; omega) HT.out.n0 (by have := HJN.out; have := HN2.out; dsimp only; omega) HT.out.n0 (by omega) hs)
              have HSH := Lib.hid hs
              clear hb hnd hs
              go_wp2_with fail
              refine CV.out.mono ?_
              rintro e w6 ⟨rfl, hse⟩
              have FIN : Hid (Below W.heap.size W w6) := Lib.hid ((HBL5.out.trans (HK.out.below.mono HBW.out)).trans ((hse.below HT.out.size (Nat.le_refl _)).mono HBW.out))
              clear hse CV
              go_wp2_with fail
              go_ret
              exact ⟨rfl, FIN.out⟩
end Go.Proofs.Ytafeddjcomeniaa
end
