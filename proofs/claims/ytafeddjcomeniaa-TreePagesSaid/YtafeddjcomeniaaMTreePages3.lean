/- The texts of this proof, joined: contracts of the functions that the law reaches, and what they come to in plain Lean. Conditions: those that each theorem names. -/
import Derived.Test.YtafeddjcomeniaaMTreePages0
import Derived.Test.YtafeddjcomeniaaMTreePages2
import Derived.Test.YtafeddjcomeniaaMTreePages1
import Derived.Deep.Slices
import Derived.Deep.Fields
import Derived.ChangeSame
import Derived.ProofKit
import Derived.Deep.Strs
import Derived.Deep.CutRange

/- An operation that looks at no memory may be taken at once in a region's walk, whether or not the store till which the condition stands waits for it. Conditions: none. -/
section
namespace Go.Proofs.Ytafeddjcomeniaa
open Go.RowKit
set_option linter.unusedVariables false

section
variable {P : Program} {ops : Array Oper} {Q : Exit → Act → World → Prop} {md : Region.Mode} {j0 : Nat}
theorem wpAnyJ_firstP {S : World → Prop} {i : Nat} {oi : Oper} {v : Value} (hi : ops[i]? = some oi) (hsel : ∀ (j : Nat) (o : Oper) cs b, ops[j]? = some o → o.op ≠ .select cs b)
    (hQ : ∀ c a w, Q (.panic c) (a.put oi.dst v) w → Q (.panic c) a w) (hij : i ≠ j0) :
    ∀ (fuel : Nat) (listed : Array Bool) (a : Act) (w : World),
      (∀ j oj, ops[j]? = some oj → j ≠ i → listed.getD j true = false → (∀ e ∈ oj.after, Region.binds md e = true → e.on ≠ i) → oi.apart ops oj = true) →
      i ∈ Region.ready md ops listed → Yields P ops oi v a → (listed.getD j0 false = false → S w) →
      wpAnyJ P md ops Q j0 S fuel (listed.setIfInBounds i true) (a.put oi.dst v) w → wpAnyJ P md ops Q j0 S (fuel + 1) listed a w := by
  intro fuel
  induction fuel with
  | zero =>
    intro listed a w _ hr hy hS H
    refine ⟨fun h => (by rw [h] at hr; cases hr), fun j hj => ?_⟩
    by_cases hji : j = i
    · subst hji; exact hy.wpOp hi ⟨fun _ => hS, H⟩
    · have := ready_mono hj hji
      rw [H.1] at this
      cases this
  | succ fuel ih =>
    intro listed a w hfree hr hy hS H
    refine ⟨fun h => (by rw [h] at hr; cases hr), fun j hj => ?_⟩
    by_cases hji : j = i
    · subst hji; exact hy.wpOp hi ⟨fun _ => hS, H⟩
    · have h1 := H.2 j (ready_mono hj hji)
      obtain ⟨hjun, oj, hoj, hall⟩ := mem_ready.1 hj
      have hnl : listed.getD i false = false := by
        have h0 := (mem_ready.1 hr).1
        rcases Nat.lt_or_ge i listed.size with h' | h'
        · simp [h'] at h0 ⊢; exact h0
        · simp [Array.getElem?_eq_none h'] at h0
      have hnot : ∀ e ∈ oj.after, Region.binds md e = true → e.on ≠ i := fun e he hb heq => by
        have h1 := hall e he hb
        rw [heq, hnl] at h1
        cases h1
      have h2 := wpOp_put hoj (hfree j oj hoj hji hjun hnot) (fun cs b => hsel i oi cs b hi) (fun cs b => hsel j oj cs b hoj) hQ hy h1
      have hfree' : ∀ k ok, ops[k]? = some ok → k ≠ i → (listed.setIfInBounds j true).getD k true = false →
          (∀ e ∈ ok.after, Region.binds md e = true → e.on ≠ i) → oi.apart ops ok = true := fun k ok hk hki hun hno => by
        refine hfree k ok hk hki ?_ hno
        by_cases hjk : j = k
        · subst hjk; exact hjun
        · rw [getD_set_ne true hjk] at hun; exact hun
      have hjs : j < listed.size := by
        rcases Nat.lt_or_ge j listed.size with h' | h'
        · exact h'
        · simp [Array.getElem?_eq_none h'] at hjun
      refine wpOp_mono (fun a' w' h3 => ⟨fun h4 h5 => h3.2.1 h4 (by rw [getD_set_ne false hij]; exact h5), ih (listed.setIfInBounds j true) a' w' hfree' (ready_mono hr (Ne.symm hji)) h3.1 (fun h5 => ?_) ?_⟩) h2
      · by_cases hjj : j = j0
        · subst hjj
          simp [hjs] at h5
        · rw [getD_set_ne false hjj] at h5
          exact h3.2.1 hjj (by rw [getD_set_ne false hij]; exact h5)
      · rw [Array.setIfInBounds_comm _ _ hji]
        exact h3.2.2
def takeP (md : Region.Mode) (ops : Array Oper) (pend : List Mk) (j0 : Nat) (l : Array Bool) (i : Nat) (oi : Oper) : Bool :=
  Region.noSelect ops && Region.free md ops l i && (Region.ready md ops l).contains i && freeOf ops pend i oi && i != j0
theorem walk_takeP {F : Nat → Prop} {f : Nat} {pend : List Mk} {l : Array Bool} {a : Act} {S T : World → Prop} {i : Nat} {oi : Oper} {d : Option Tmp} {v : Value} (hi : ops[i]? = some oi) (hd : oi.dst = d)
    (hok : takeP md ops pend j0 l i oi = true)
    (hQ : ∀ c a w, Q (.panic c) (a.put d v) w → Q (.panic c) a w) (hy : Yields P ops oi v a)
    (h : WalkS P md ops Q j0 F f pend (l.setIfInBounds i true) (a.put d v) S T) : WalkS P md ops Q j0 F (f + 1) pend l a S T := by
  subst hd
  have hok' := hok
  unfold takeP at hok'
  rw [Bool.and_eq_true, Bool.and_eq_true, Bool.and_eq_true, Bool.and_eq_true] at hok'
  obtain ⟨⟨⟨⟨hs, hf⟩, hr⟩, hp⟩, hw0⟩ := hok'
  rw [bne_iff_ne] at hw0
  intro hB hST hc hM Y X W hY hl hX
  have hap := freeOf_spec hp hY
  have hne : ∀ k ∈ nums X, k ≠ i := fun k hk => by
    obtain ⟨x, hx, rfl⟩ := List.mem_map.1 hk
    exact (apartOf_spec (hap x hx)).1
  have hM' : ∀ m ∈ pend, m.Makes P ops (a.put oi.dst v) := fun m hm => (hM m hm).put hs (List.all_eq_true.1 hp m hm)
  have h' := h hB hST hc hM' Y X W hY hl hX
  rw [marks_set _ hne, puts_put X (fun x hx => (apartOf_spec (hap x hx)).2.choose_spec.2.2.2.1)] at h'
  rw [show f + 1 + Y.length = f + Y.length + 1 by omega]
  have hy' : ∀ X : List (Mk × Nat), (∀ x ∈ X, apartOf ops x.1 i oi = true) → Yields P ops oi v (puts a X) := by
    intro X
    induction X with
    | nil => exact fun _ => hy
    | cons x X ih =>
      intro hx
      obtain ⟨_, om, _, _, hlk, _, _⟩ := apartOf_spec (hx x (List.mem_cons_self ..))
      have hl2 : ∀ d', some x.1.d = some d' → d' ∉ oi.looksAt ops := fun d' h => by injection h with h; subst h; exact hlk
      exact (ih fun y hy => hx y (List.mem_cons_of_mem _ hy)).of_same (execOp_put oi (fun cs b => Region.noSelect_spec hs _ _ cs b hi) _ _ _ hl2) (wanted_put oi _ _ _ hl2)
  refine wpAnyJ_firstP hi (Region.noSelect_spec hs) hQ hw0 _ _ _ W (fun j oj hoj hji hun hno => Region.free_spec hi hf j oj hoj hji ?_ hno) ?_ (hy' X hap) (fun _ => hST _ hl) h'
  · rw [getD_marks] at hun
    split at hun
    · cases hun
    · exact hun
  · have : i ∈ Region.ready md ops (marks l []) := by simpa [marks] using hr
    exact ready_marks (fun _ h => by cases h) (fun hk => hne i hk rfl) this
theorem wtp {F : Nat → Prop} {f : Nat} {pend : List Mk} {l : Array Bool} {a : Act} {S T : World → Prop} {oi : Oper} (i : Nat) (d : Tmp) (v : Value) (hr : ∀ V, (execOp a.eval oi).run P V = .ok (.value v) V) (h : WalkS P md ops Q j0 F f pend (l.setIfInBounds i true) (a.put (some d) v) S T)
    (hi : ops[i]? = some oi := by rfl) (hd : oi.dst = some d := by rfl) (hok : takeP md ops pend j0 l i oi = true := by kernel_rfl) (hQ : ∀ c a w, Q (.panic c) (a.put (some d) v) w → Q (.panic c) a w := by exact fun _ _ _ h => h) (hw : Region.wanted oi (yielded ops a.tmps) = true := by rfl) : WalkS P md ops Q j0 F (f + 1) pend l a S T :=
  walk_takeP hi hd hok hQ (.inl ⟨hw, hr⟩) h
end
end Go.Proofs.Ytafeddjcomeniaa
end

/- tree.counter's walk: the numbers of all pages, and how deep. Conditions: counter and shelf lie in memory; the shelf is well; the tree is good, not deep. -/
section
namespace Go.Proofs.Ytafeddjcomeniaa
open Go.RowKit
set_option linter.unusedVariables false
set_option linter.unusedSimpArgs false

theorem fold_max (deep : Int) (f : Int → Nat) : ∀ (ks : List Int) (a : Int), deep ≤ a → ks.foldl (fun a k => max a (deep + f k)) a = max a (deep + ((ks.map f).foldr max 0 : Nat))
  | [], a, h => by simp; omega
  | k :: ks, a, h => by
    rw [List.foldl_cons, fold_max deep f ks _ (by omega), List.map_cons, List.foldr_cons]
    omega
theorem take_snoc {α : Type} (l : List α) {i : Nat} (h : i < l.length) : l.take (i + 1) = l.take i ++ [l[i]] := by rw [List.take_add_one, List.getElem?_eq_getElem h]; rfl
theorem shelf_pg {B b : Nat} {w : World} {ill : Int} {s : Sh} {v : Value} {n : Int} {c : Array Value} {p : Pg} (h : ShAt B w b ill s v) (hr : RowPg w v n c) (hp : pgAt s.S n = some p) : PgV w c p := by
  obtain ⟨hn1, hnl⟩ := pgAt_le hp
  obtain ⟨m, rfl⟩ : ∃ m : Nat, n = (m : Int) + 1 := ⟨(n - 1).toNat, by omega⟩
  have hpi : s.S[m]? = some p := by
    unfold pgAt at hp
    rw [if_neg (by omega), show ((m : Int) + 1).toNat - 1 = m by omega] at hp
    exact hp
  obtain ⟨L, ho, hL, h4, hrd⟩ := h.four
  have hml : m < L.length := by rw [hL]; show m < s.S.length; omega
  have hfl := flat_get L h4 m L[m] (List.getElem?_eq_getElem hml)
  have hsz := h4 _ (List.getElem_mem hml)
  obtain ⟨hc, g, len, cap, rfl, hcell⟩ := hr
  rw [show ((m : Int) + 1 - 1).toNat = m by omega] at hcell
  rcases ho.2 with ⟨e, hz⟩ | ⟨g', cap', cur, e, hg, hb, h2, h3, h5, h6⟩
  · cases e
  · cases e
    have hb : Blk w g 54 cur := hb
    have e : c = L[m] := by
      refine Array.ext (by rw [hc, hsz]) fun j h1 h2 => ?_
      have hj : j < 4 := by omega
      have a := hcell j hj
      rw [hb.cell, ← Array.getElem?_toList] at a
      have b := hfl j hj
      rw [← h6, List.getElem?_take, if_pos (by omega)] at b
      have := a.symm.trans b
      rw [Array.getElem?_eq_getElem h1, Array.getElem?_eq_getElem h2] at this
      exact Option.some.inj this
    rw [e]
    exact hrd m _ p (List.getElem?_eq_getElem hml) hpi
theorem remN_snoc {S : List Pg} {d : Nat} {ns : List Int} {i : Nat} (h : i < ns.length) : remN S d (ns.take (i + 1)) = remN S d (ns.take i) + nodesN S d ns[i] := by
  unfold remN
  rw [take_snoc ns h, List.map_append, List.sum_append]
  simp
theorem remN_take {S : List Pg} {d : Nat} (ns : List Int) (i : Nat) : remN S d (ns.take i) ≤ remN S d ns := by
  have : remN S d ns = remN S d (ns.take i) + remN S d (ns.drop i) := by
    unfold remN
    rw [← List.sum_append, ← List.map_append, List.take_append_drop]
  omega
theorem pages_flat (S : List Pg) (d : Nat) : ∀ ns : List Int, (ns.flatMap (pagesN S d)).length = remN S d ns
  | [] => rfl
  | n :: ns => by
    rw [List.flatMap_cons, List.length_append, pages_flat S d ns, pages_len]
    unfold remN
    rw [List.map_cons, List.sum_cons]
/-- A counter in block g over the shelf in block b, all of its own made behind world w0; l : what it has counted. -/
structure CtAt (w0 : World) (b g : Nat) (ill : Int) (v : Value) (n r : Int) (l : List Int) (dp : Int) (w : World) : Prop where
  kd : DKept (fun k => k = b ∨ w0.heap.size ≤ k) w0 w
  sb : Blk w b 26 #[v, .int .i64 ill, .int .i64 n]
  blk : ∃ A c, Blk w g 123 #[shV b, .int .i64 r, .slice A l.length c, .int .i64 dp] ∧ w.ownsRow w0.heap.size 27 1 (.slice A l.length c) l.length (l.map (Value.int .u64))
  gG : w0.heap.size ≤ g
def CtK (b g : Nat) (w w' : World) : Prop := ∀ k t cs, t ≠ 27 → k ≠ b → k ≠ g → Blk w k t cs → Blk w' k t cs
section
variable {w0 w w' w2 : World} {B b g : Nat} {ill : Int} {v : Value} {s0 : Sh} {n r dp : Int} {l : List Int}
theorem CtAt.sm (h : CtAt w0 b g ill v n r l dp w) (h0 : ShAt B w0 b ill s0 v) : Sm w0 w := Sm.kept h.kd fun k hk => by
  rcases hk with rfl | hk
  · exact ⟨fun cs x => x.ne_ h0.blk (by decide) rfl, fun cs x => x.ne_ h0.blk (by decide) rfl⟩
  · exact ⟨fun cs x => by have := x.lt; omega, fun cs x => by have := x.lt; omega⟩
theorem CtAt.row (h : CtAt w0 b g ill v n r l dp w) (h0 : ShAt B w0 b ill s0 v) : ∀ k, v.ownBlock = some k → w.heap[k]? = w0.heap[k]? := fun k hk =>
  h.kd.block k (h0.rowlt k hk).2 fun e => by
    rcases e with rfl | e
    · exact h0.ne hk
    · have := (h0.rowlt k hk).2; omega
theorem CtAt.sh (h : CtAt w0 b g ill v n r l dp w) (h0 : ShAt B w0 b ill s0 v) : ShAt B w b ill ⟨s0.S, n⟩ v := by
  obtain ⟨L, h1, h2, h3⟩ := h0.row
  exact ⟨h.sb, h0.hb, L, own_heap' h1 (h.row h0), h2, fun i cs p hi hp => (h3 i cs p hi hp).sm (h.sm h0)⟩
theorem CtAt.later (h : CtAt w0 b g ill v n r l dp w) (k : Later w w') : CtAt w0 b g ill v n r l dp w' := by
  obtain ⟨A, c, h1, h2⟩ := h.blk
  exact ⟨h.kd.later k, h.sb.below k h.sb.lt, ⟨A, c, h1.below k h1.lt, own_later h2 k⟩, h.gG⟩
theorem CtK.trans (h : CtK b g w w') (k : CtK b g w' w2) : CtK b g w w2 := fun i t cs ht h1 h2 hb => k i t cs ht h1 h2 (h i t cs ht h1 h2 hb)
theorem CtK.later (k : Later w w') : CtK b g w w' := fun i t cs _ _ _ hb => hb.below k hb.lt
end
theorem far_counter : Far 123 := ⟨by decide, by decide, by decide, by decide⟩
/-- What the walk asks. -/
structure CtPre (Q : Pg → Prop) (S : List Pg) (ill : Int) (d : Nat) (nn : Int) (lo hi : Option ByteArray) (deep n r : Int) (l : List Int) : Prop where
  ok : OkN Q S d nn lo hi
  few : (itemsN S d nn).length ≤ 1000
  len : S.length ≤ 100000
  well : ill ≤ n
  n0 : 0 ≤ n
  n1 : n + nodesN S d nn ≤ 1000000000
  r0 : 0 ≤ r
  r1 : r + nodesN S d nn ≤ 4096
  d0 : 1 ≤ deep
  d1 : deep + d ≤ 21
  room : l.length + nodesN S d nn ≤ 1000000
def CtPost (w0 : World) (b g : Nat) (ill : Int) (v : Value) (n r : Int) (l : List Int) (dp : Int) (w : World) (e : Ending) (w' : World) : Prop :=
  e = .returned (.int .i64 0) ∧ CtAt w0 b g ill v n r l dp w' ∧ CtK b g w w'
set_option maxRecDepth 100000 in
set_option maxHeartbeats 16000000 in
theorem cwalk_any {Q : Pg → Prop} {w0 : World} {B b g : Nat} {ill : Int} {v : Value} {s0 : Sh} (h0 : ShAt B w0 b ill s0 v) : ∀ (d : Nat) {nn : Int} {lo hi : Option ByteArray} {deep n r : Int} {l : List Int} {dp : Int} {w : World}, CtPre Q s0.S ill d nn lo hi deep n r l → CtAt w0 b g ill v n r l dp w →
    Calls Try.prog 74 #[.pointer (some ⟨g, 0, none⟩), .int .u64 nn, .int .i64 deep] w (CtPost w0 b g ill v (n + nodesN s0.S d nn) (r + nodesN s0.S d nn) (l ++ pagesN s0.S d nn) (max dp (deep - 1 + deepN s0.S d nn)) w) := by
  have H0 := Lib.hid h0
  clear h0
  obtain ⟨S, hS⟩ : ∃ S, S = s0.S := ⟨_, rfl⟩
  rw [← hS]
  have HSS := Lib.hid hS
  clear hS
  intro d
  induction d with
  | zero => intro nn lo hi deep n r l dp w hp; exact hp.ok.elim
  | succ d ih =>
    intro nn lo hi deep n r l dp w hp hr
    obtain ⟨p, hpg, hq, hok⟩ := hp.ok
    have eit : itemsN S (d + 1) nn = itemsP (itemsN S d) p := by rw [itemsN]; simp only [hpg]
    have eno : nodesN S (d + 1) nn = 1 + remN S d p.kids := by rw [nodesN]; simp only [hpg]; rfl
    have epg : pagesN S (d + 1) nn = nn :: p.kids.flatMap (pagesN S d) := by rw [pagesN]; simp only [hpg]
    have edp : deepN S (d + 1) nn = 1 + (p.kids.map (deepN S d)).foldr max 0 := by rw [deepN]; simp only [hpg]
    obtain ⟨_, hfew, hlen, hwell, hn0, hn1, hr0, hr1, hd0, hd1, hroom⟩ := hp
    rw [eit] at hfew
    rw [eno] at hn1 hr1 hroom ⊢
    rw [epg, edp]
    have hpo := pg_ok hok hfew hlen
    obtain ⟨A0, c0, hbk, hown⟩ := hr.blk
    have hsh := hr.sh H0.out
    rw [← HSS.out] at hsh
    have CR := Lib.hid (rdPage_any (d := deep) hsh hn0 (by show n < _; omega) hpg hlen hpo hbk far_counter rfl rfl hr0 (by omega) (by omega))
    have IH := @Lib.hid _ @ih
    have HR := Lib.hid hr
    have HPG := Lib.hid hpg
    have HB := Lib.hid hbk
    have HOK := Lib.hid hok
    have HPO := Lib.hid hpo
    have HOWN := Lib.hid hown
    have HBND : Hid ((itemsP (itemsN S d) p).length ≤ 1000 ∧ S.length ≤ 100000 ∧ ill ≤ n ∧ 0 ≤ n ∧ n + (1 + remN S d p.kids : Nat) ≤ 1000000000 ∧ 0 ≤ r ∧ r + (1 + remN S d p.kids : Nat) ≤ 4096 ∧ 1 ≤ deep ∧ deep + (d + 1 : Nat) ≤ 21 ∧ l.length + (1 + remN S d p.kids) ≤ 1000000) := Lib.hid ⟨hfew, hlen, hwell, hn0, hn1, hr0, hr1, hd0, hd1, hroom⟩
    obtain ⟨N1, hN1⟩ : ∃ T, T = n + (1 + remN S d p.kids : Nat) := ⟨_, rfl⟩
    obtain ⟨R1, hR1⟩ : ∃ T, T = r + (1 + remN S d p.kids : Nat) := ⟨_, rfl⟩
    obtain ⟨L1, hL1⟩ : ∃ T, T = l ++ nn :: p.kids.flatMap (pagesN S d) := ⟨_, rfl⟩
    obtain ⟨D1, hD1⟩ : ∃ T, T = max dp (deep - 1 + (1 + (p.kids.map (deepN S d)).foldr max 0 : Nat)) := ⟨_, rfl⟩
    rw [← hN1, ← hR1, ← hL1, ← hD1]
    have HN1 := Lib.hid hN1
    have HR1 := Lib.hid hR1
    have HLX := Lib.hid hL1
    have HD1 := Lib.hid hD1
    have HWELL : Hid (n + 1 ≠ ill) := Lib.hid (by omega)
    clear ih hr hpg hq hok eit eno epg edp hfew hlen hwell hn0 hn1 hr0 hr1 hd1 hroom hpo hbk hown hN1 hR1 hL1 hD1 hd0 hsh
    go_enter Try.func74, Try.ntmps74
    go_wp2_with fail
    refine CR.out.mono ?_
    rintro e w2 ⟨hd2, h2, hg2, hk2, hm2, hrp⟩
    rcases hd2 with ⟨hil, _⟩ | ⟨_, cc, rfl, hcc⟩
    · exact absurd hil HWELL.out
    · have hG := HR.out.gG
      have hkb : w0.heap.size ≤ w.heap.size := HR.out.kd.size
      have hr2 : CtAt w0 b g ill v (n + 1) (r + 1) l dp w2 := ⟨HR.out.kd.trans hk2 fun k hk e => (by rcases e with e | e; exact .inl e; exact .inr (by omega)), h2.blk, ⟨A0, c0, by simpa using hg2, own_heap HOWN.out fun i hi => hk2.block i (HOWN.out.lt i hi).2 (fun e => by
        rcases e with rfl | rfl
        · exact own_blk HOWN.out HR.out.sb (by decide) hi
        · exact own_blk HOWN.out HB.out (by decide) hi)⟩, hG⟩
      have hck2 : CtK b g w w2 := fun k t cs ht h1 h2 hb => hk2.blk hb fun e => by rcases e with e | e; exact h1 e; exact h2 e
      have hpa0 := shelf_pg H0.out ((hrp cc rfl).kept fun k hk => (hr2.row H0.out k hk).symm) (by rw [← HSS.out]; exact HPG.out)
      obtain ⟨A1, c1, A2, c2, A3, c3, rfl, hpa⟩ := hpa0
      unfold pgc
      obtain ⟨W3, hW3⟩ : ∃ W3, W3 = w2.alloc (.cells #[.bool p.leaf, .slice A1 p.keys.length c1, .slice A2 p.vals.length c2, .slice A3 p.kids.length c3] 54) := ⟨_, rfl⟩
      have hl3 : Later w2 W3 := by rw [hW3]; exact below_new _ _
      obtain ⟨q, hqq⟩ : ∃ q, q = w2.heap.size := ⟨_, rfl⟩
      have kp3 : Blk W3 q 54 #[.bool p.leaf, .slice A1 p.keys.length c1, .slice A2 p.vals.length c2, .slice A3 p.kids.length c3] := by rw [hW3, hqq]; exact Blk.new _ _ _
      have HQ := Lib.hid hqq
      have HW3 := Lib.hid hW3
      have HPA := Lib.hid hpa
      have HKP := Lib.hid kp3
      have HR3 := Lib.hid (hr2.later hl3)
      have HK3 := Lib.hid (hck2.trans (CtK.later hl3))
      have HQN : Hid (q ≠ b ∧ q ≠ g) := Lib.hid ⟨by have := h2.blk.lt; omega, by have := hg2.lt; omega⟩
      clear h2 hg2 hk2 hm2 hpa hG hkb hr2 hl3 hqq hW3 CR hrp hcc hck2
      clear kp3
      generalize hk1 : p.keys.length = k1 at *
      generalize hk2 : p.vals.length = k2 at *
      generalize hk3 : p.kids.length = k3 at *
      generalize hlf : p.leaf = lf at *
      have HE := Lib.hid (And.intro hk1 (And.intro hk2 (And.intro hk3 hlf)))
      clear hk1 hk2 hk3 hlf
      go_upto_region 4 with fail
      rw [← HW3.out, ← HQ.out]
      obtain ⟨A9, c9, hb9, ho9⟩ := HR3.out.blk
      have HB9 := Lib.hid hb9
      have HO9 := Lib.hid ho9
      have HLIM : Hid (l.length + 1 ≤ 1000000) := Lib.hid (by have := HBND.out; omega)
      obtain ⟨i0, hi0, hz0, hz1, hz2⟩ := info_parts cinfo_u64
      clear hb9 ho9
      have HL0 := Lib.hid (Later.refl W3)
      have ZF0 : Hid (∀ s, W3.heap.size ≤ s → W3.heap.size ≤ s) := Lib.hid (fun _ h => h)
      have ZS0 : Hid (∀ V, Later W3 V → ((fun V => V.cell? ⟨g, 2, none⟩ = some (.slice A9 l.length c9) ∧ V.cell? ⟨g, 3, none⟩ = some (.int .i64 dp))) V) := Lib.hid (fun V hV => ⟨((HB9.out.below hV HB9.out.lt).cell 2).trans rfl, ((HB9.out.below hV HB9.out.lt).cell 3).trans rfl⟩)
      refine walk_start 17 (S := (fun V => V.cell? ⟨g, 2, none⟩ = some (.slice A9 l.length c9) ∧ V.cell? ⟨g, 3, none⟩ = some (.int .i64 dp))) (T := Later W3) (by kernel_rfl) (fun r => W3.heap.size ≤ r) (fun _ h => h.size) ZS0.out (closed_later _) (Later.refl _).drew ?_
      refine wt 0 24 ?_ (fun V hV => ?_) ?_
      rotate_left 1
      · (clear hV; go_simp; (try with_reducible rfl))
      try simp only [pa, List.set]
      refine wtp 1 25 ?_ (fun V => ?_) ?_
      rotate_left 1
      · (go_simp; (try with_reducible rfl))
      try simp only [pa, List.set]
      refine wt 2 26 ?_ (fun V hV => ?_) ?_
      rotate_left 1
      · (clear hV; go_simp; (try with_reducible rfl))
      try simp only [pa, List.set]
      refine wt 3 27 ?_ (fun V hV => ?_) ?_
      rotate_left 1
      · (clear hV; go_simp; (try with_reducible rfl))
      try simp only [pa, List.set]
      refine wt 4 28 ?_ (fun V hV => ?_) ?_
      rotate_left 1
      · (clear hV; go_simp; (try with_reducible rfl))
      try simp only [pa, List.set]
      refine wt 5 29 ?_ (fun V hV => ?_) ?_
      rotate_left 1
      · (obtain ⟨y2, y3⟩ := id hV; clear hV; go_simp; (try with_reducible rfl))
      try simp only [pa, List.set]
      refine wt 6 30 ?_ (fun V hV => ?_) ?_
      rotate_left 1
      · (clear hV; go_simp; (try with_reducible rfl))
      try simp only [pa, List.set]
      refine wt 9 33 ?_ (fun V hV => ?_) ?_
      rotate_left 1
      · (clear hV; go_simp; (try with_reducible rfl))
      try simp only [pa, List.set]
      refine wt 10 34 ?_ (fun V hV => ?_) ?_
      rotate_left 1
      · (clear hV; go_simp; (try with_reducible rfl))
      try simp only [pa, List.set]
      refine wt 11 35 ?_ (fun V hV => ?_) ?_
      rotate_left 1
      · (clear hV; go_simp; (try with_reducible rfl))
      try simp only [pa, List.set]
      refine wt 12 36 ?_ (fun V hV => ?_) ?_
      rotate_left 1
      · (obtain ⟨y2, y3⟩ := id hV; clear hV; go_simp; (try with_reducible rfl))
      try simp only [pa, List.set]
      refine wtp 13 37 ?_ (fun V => ?_) ?_
      rotate_left 1
      · (go_simp; (try with_reducible rfl))
      try simp only [pa, List.set]
      refine wtp 14 38 ?_ (fun V => ?_) ?_
      rotate_left 1
      · (go_simp; (try with_reducible rfl))
      try simp only [pa, List.set]
      refine walk_pend ⟨7, 31, (.cells #[.int .u64 nn] 27), fun r => .slice (some ⟨r, 0, none⟩) 1 1⟩ ⟨_, rfl, rfl, rfl, fun W => ?_⟩ ?_
      · (go_simp; (try with_reducible rfl))
      refine walk_force (by kernel_rfl) (by kernel_rfl) (by kernel_rfl) (by kernel_rfl) (fun r7 x7 hV hr7 hB7 => ?_)
      have lt7 : r7 < x7.heap.size := (Array.getElem?_eq_some_iff.1 hr7).1
      have HL1 := Lib.hid (HL0.out.trans hV)
      have ZF1 : Hid (∀ s, x7.heap.size ≤ s → _ ∧ s ≠ r7) := Lib.hid (fun s h => ⟨ZF0.out s (Nat.le_trans hV.size h), Nat.ne_of_gt (Nat.lt_of_lt_of_le lt7 h)⟩)
      have ZS1 : Hid (∀ V, Later x7 V → ((fun V => V.cell? ⟨g, 2, none⟩ = some (.slice A9 l.length c9) ∧ V.cell? ⟨g, 3, none⟩ = some (.int .i64 dp))) V) := Lib.hid (fun V' h => ZS0.out V' (hV.trans h))
      refine ⟨(fun V => V.cell? ⟨g, 2, none⟩ = some (.slice A9 l.length c9) ∧ V.cell? ⟨g, 3, none⟩ = some (.int .i64 dp)), Later x7, Later.refl _, fun _ h => h, ZS1.out, fun V' h => ZF0.out _ (Nat.le_trans hV.size h.size), fun V' h => Nat.lt_of_lt_of_le lt7 h.size, closed_later _, ?_⟩
      try simp only [pa, List.set]
      have HT7 := Lib.hid hV
      clear hV
      refine walk_core 8 rfl (by kernel_rfl) (fun _ _ _ _ _ h => h) (fun V hV K hK => ?_)
      have hV0 := HL1.out.trans hV
      have hSV := ZS1.out V hV
      try simp only [List.getElem_toArray, List.getElem_cons_succ, List.getElem_cons_zero]
      have hlt8 := HO9.out.lt
      have ho8 := own_later HO9.out hV0
      have k7 : Blk V r7 27 #[.int .u64 nn] := Blk.below (show Blk x7 r7 _ _ from hr7) hV lt7
      have hGv : w0.heap.size ≤ V.heap.size := by have := HR3.out.kd.size; have := (show Below _ _ _ from hV0).size; omega
      have hrd7 : Reads V V.heap.size 1 (some ⟨r7, 0, none⟩) 1 [.int .u64 nn] := ⟨rfl, fun _ => ⟨_, rfl, k7.lt, fun j u hu => by
        rw [show (⟨r7, 0, none⟩ : Addr).add j = ⟨r7, j, none⟩ by unfold Addr.add; by_cases e : j = 0 <;> simp [e], k7.cell, ← Array.getElem?_toList]
        exact hu⟩⟩
      have hone7 : ∀ u ∈ [Value.int .u64 nn], u.oneCell' = true := by
        intro u hu
        simp only [List.mem_cons, List.not_mem_nil, or_false] at hu
        subst hu; rfl
      refine wp_append_any V (.tmp 29) (.tmp 31) _ rfl w0.heap.size 27 i0 _ 1 8 Try.underlying39 hi0 hz0 hz1 hz2 rfl (by omega) (.slice A9 l.length c9) l.length (l.map (Value.int .u64)) rfl ho8 V.heap.size _ 1 1 _ rfl hrd7 hone7 (by have := HLIM.out; unfold maxLen; omega) (by have := HLIM.out; omega) hGv ?_
      intro v8 x8 hown8 hg8 hat8
      obtain ⟨A8, c8, rfl⟩ := own_shape hown8
      have hsize := hg8.size
      have hkeep := fun (r : Nat) (hF : W3.heap.size ≤ r ∧ r ≠ r7) (hl : r < V.heap.size) => hg8.block r hl (fun e => by have := (hlt8 r e.symm).2; omega)
      have hnq : some q ≠ (Value.slice A9 l.length c9).ownBlock := fun e => own_blk HO9.out HKP.out (by decide) e.symm
      have hng : some g ≠ (Value.slice A9 l.length c9).ownBlock := fun e => own_blk HO9.out HB9.out (by decide) e.symm
      have hnb : some b ≠ (Value.slice A9 l.length c9).ownBlock := fun e => own_blk HO9.out HR3.out.sb (by decide) e.symm
      have kp8 := (HKP.out.below hV0 HKP.out.lt).grown hg8 hnq
      have kg8 := (HB9.out.below hV0 HB9.out.lt).grown hg8 hng
      have kb8 := (HR3.out.sb.below hV0 HR3.out.sb.lt).grown hg8 hnb
      have hS := fun V' (h : Later x8 V') => (show (fun V => V.cell? ⟨g, 2, none⟩ = some (.slice A9 l.length c9) ∧ V.cell? ⟨g, 3, none⟩ = some (.int .i64 dp)) V' from ⟨((kg8.below h kg8.lt).cell 2).trans rfl, ((kg8.below h kg8.lt).cell 3).trans rfl⟩)
      have hdk : DKept (fun k => (Value.slice A9 l.length c9).ownBlock = some k) W3 x8 := (DKept.of_below (show Below _ _ _ from hV0)).grown hg8 (fun k e => .inl e)
      have HKD8 : Hid (DKept (fun k => k = b ∨ w0.heap.size ≤ k) w0 x8) := Lib.hid (HR3.out.kd.trans hdk fun k _ e => .inr (HO9.out.lt k e).1)
      have HCK8 : Hid (CtK b g W3 x8) := Lib.hid fun k t cs ht _ _ hb => hdk.blk hb fun e => own_blk HO9.out hb ht.symm e
      have HKP8 := Lib.hid kp8
      have HKG8 := Lib.hid kg8
      have HKB8 := Lib.hid kb8
      have HO8 : Hid (x8.ownsRow w0.heap.size 27 1 (.slice A8 (l.length + 1) c8) (l.length + 1) ((l ++ [nn]).map (Value.int .u64))) := Lib.hid (by
        rw [List.map_append]
        exact hown8)
      clear hlt8 ho8 k7 hGv hrd7 hone7 hown8 hg8 hat8 hnq hng hnb kp8 kg8 kb8 hdk
      have ZF2 : Hid (∀ s, x8.heap.size ≤ s → _) := Lib.hid (fun s h => ZF1.out s (Nat.le_trans hV.size (Nat.le_trans hsize h)))
      have ZS2 : Hid (∀ V, Later x8 V → ((fun V => V.cell? ⟨g, 2, none⟩ = some (.slice A9 l.length c9) ∧ V.cell? ⟨g, 3, none⟩ = some (.int .i64 dp))) V) := Lib.hid hS
      refine hK.out _ _ ((fun V => V.cell? ⟨g, 2, none⟩ = some (.slice A9 l.length c9) ∧ V.cell? ⟨g, 3, none⟩ = some (.int .i64 dp))) (Later x8) _ hkeep (fun _ h _ => h) (fun _ h => h) ZS2.out (fun V' h => ZF2.out _ h.size) (Later.refl _) (closed_later _) ?_
      clear hK K hV hsize hkeep hV0 hSV hS
      try simp only [Act.put]
      try simp only [pa, List.set]
      refine wt 15 39 ?_ (fun V hV => ?_) ?_
      rotate_left 1
      · (clear hV; go_simp; (try with_reducible rfl))
      try simp only [pa, List.set]
      refine wt 16 40 ?_ (fun V hV => ?_) ?_
      rotate_left 1
      · (clear hV; go_simp; (try with_reducible rfl))
      try simp only [pa, List.set]
      refine walk_exit (fun V hV => ?_)
      have hSV := ZS2.out V hV
      try simp only [pa, List.set]
      have kg := HKG8.out.below hV HKG8.out.lt
      obtain ⟨g0, g1, g2, g3⟩ := cells4 kg
      obtain ⟨f0, f1, f2, f3⟩ := frozen4 kg
      have u1 := upd1 kg 2 (.slice A8 (l.length + 1) c8)
      obtain ⟨V1, hV1⟩ : ∃ V1, V1 = V.setCell ⟨g, 2, none⟩ (.slice A8 (l.length + 1) c8) := ⟨_, rfl⟩
      rw [← hV1] at u1
      have u2 := upd1 u1.blk 3 (.int .i64 (max dp deep))
      obtain ⟨V2, hV2⟩ : ∃ V2, V2 = V1.setCell ⟨g, 3, none⟩ (.int .i64 (max dp deep)) := ⟨_, rfl⟩
      rw [← hV2] at u2
      have kg1 : Blk V1 g 123 #[shV b, .int .i64 (r + 1), .slice A8 (l.length + 1) c8, .int .i64 dp] := by simpa using u1.blk
      have kg2 : Blk V2 g 123 #[shV b, .int .i64 (r + 1), .slice A8 (l.length + 1) c8, .int .i64 (max dp deep)] := by simpa using u2.blk
      have hG := HR3.out.gG
      have ho9 := own_later HO8.out hV
      have hr9 : CtAt w0 b g ill v (n + 1) (r + 1) (l ++ [nn]) (max dp deep) V2 := by
        have hll : (l ++ [nn]).length = l.length + 1 := by rw [List.length_append]; rfl
        have ho1 := own_upd ho9 u1 (own_blk ho9 kg (by decide))
        have ho2 := own_upd ho1 u2 (own_blk ho1 kg1 (by decide))
        have hne : b ≠ g := fun e => HR3.out.sb.ne_ HB9.out (by decide) e
        refine ⟨((HKD8.out.later hV).trans u1.kept fun k _ e => .inr (by omega)).trans u2.kept fun k _ e => .inr (by omega), u2.far (u1.far (HKB8.out.below hV HKB8.out.lt) hne) hne, ⟨A8, c8, by rw [hll]; exact kg2, by rw [hll]; exact ho2⟩, hG⟩
      have HR9 := Lib.hid hr9
      have HCK9 : Hid (CtK b g w V2) := Lib.hid (((HK3.out.trans HCK8.out).trans (CtK.later hV)).trans fun k t cs ht h1 h2 hb => u2.far (u1.far hb h2) h2)
      have HKP9 := Lib.hid (u2.far (u1.far (HKP8.out.below hV HKP8.out.lt) HQN.out.2) HQN.out.2)
      have HV1 := Lib.hid hV1
      have HV2 := Lib.hid hV2
      have HKG1 := Lib.hid kg1
      clear hSV hG ho9 hr9 u1 u2 kg1 kg2 hV1 hV2 kg hV
      refine wpAnyJ_one (i := 17) (by kernel_rfl) rfl (fun K hK => ?_)
      simp only [List.getElem_toArray, List.getElem_cons_succ, List.getElem_cons_zero]
      go_simp
      refine hK.out _ _ (fun h _ => absurd rfl h) ?_
      clear hK K
      try simp only [pa, List.set]
      rw [← HV1.out]
      refine wpAnyJ_pure (i := 18) (d := some 41) (v := ?_) (by kernel_rfl) rfl rfl (Or.inl ⟨by rfl, ?_⟩) (fun _ h => absurd ((show _ = true by kernel_rfl).symm.trans h) (by decide)) ?_
      rotate_left 1
      · (intro V; go_simp; (try with_reducible rfl))
      try simp only [pa, List.set]
      refine wpAnyJ_pure (i := 19) (d := some 42) (v := ?_) (by kernel_rfl) rfl rfl (Or.inl ⟨by rfl, ?_⟩) (fun _ h => absurd ((show _ = true by kernel_rfl).symm.trans h) (by decide)) ?_
      rotate_left 1
      · (intro V; go_simp; (try with_reducible rfl))
      try simp only [pa, List.set]
      have y13 : V1.cell? ⟨g, 3, none⟩ = some (.int .i64 dp) := (HKG1.out.cell 3).trans rfl
      have y14 := HKG1.out.frozen 3
      clear g0 g1 g2 g3 f0 f1 f2 f3
      refine wpAnyJ_one (i := 20) (by kernel_rfl) rfl (fun K hK => ?_)
      simp only [List.getElem_toArray, List.getElem_cons_succ, List.getElem_cons_zero]
      go_simp
      refine hK.out _ _ (fun _ h => absurd ((show _ = true by kernel_rfl).symm.trans h) (by decide)) ?_
      clear hK K
      try simp only [pa, List.set]
      rw [← HV2.out]
      refine wpAnyJ_done (by kernel_rfl) ?_ _
      obtain ⟨z0, z1, z2, z3⟩ := cells4 HKP9.out
      go_wp2_with fail
      clear z0 z1 z2 z3 y13 y14
      go_loopg [46] k3 (fun m iv wr => ∃ i : Nat, iv = .int .i64 (i : Int) ∧ i + m = k3 ∧ Hid (CtAt w0 b g ill v (n + 1 + remN S d (p.kids.take i)) (r + 1 + remN S d (p.kids.take i)) (l ++ [nn] ++ (p.kids.take i).flatMap (pagesN S d)) ((p.kids.take i).foldl (fun a k => max a (deep + deepN S d k)) (max dp deep)) wr) ∧ Hid (CtK b g w wr) ∧ Hid (Blk wr q 54 #[.bool lf, .slice A1 k1 c1, .slice A2 k2 c2, .slice A3 k3 c3]))
      case atStart => exact ⟨0, rfl, by omega, Lib.hid (by simpa [remN] using HR9.out), HCK9, HKP9⟩
      case round =>
        obtain ⟨i, rfl, him, HC, HK, HP⟩ := hrel
        by_cases hlt : i < k3
        · have hd3 : (i : Int) < (k3 : Int) := by omega
          have b1 : (0 : Int) ≤ (i : Int) := by omega
          obtain ⟨m, hm⟩ : ∃ m, m = p.kids.getD i 0 := ⟨_, rfl⟩
          have hki : i < p.kids.length := by have := HE.out.2.2.1; omega
          have hkm : p.kids[i]? = some m := by rw [hm]; exact getD_some 0 hki
          have hkg : p.kids[i] = m := by rw [List.getElem?_eq_getElem hki] at hkm; exact Option.some.inj hkm
          have hlf : p.leaf = false := by
            cases h : p.leaf with
            | false => rfl
            | true => rw [(HOK.out.leaflen h).2] at hki; simp at hki
          obtain ⟨ad, rfl, _, _, hcell⟩ := HPA.out.n.get hkm
          have hc0 := hcell wr (fun g cs => (HC.out.sm H0.out g cs).2)
          obtain ⟨z0, z1, z2, z3⟩ := cells4 HP.out
          have hok := HOK.out.kids hlf i m hkm
          have hrem := remN_snoc (S := S) (d := d) hki
          have hrt := remN_take (S := S) (d := d) p.kids (i + 1)
          have hpl := pages_flat S d (p.kids.take i)
          have hsn := take_snoc p.kids hki
          rw [hkg] at hrem hsn
          have hfk := kid_few (f := itemsN S d) hlf hkm
          have hb := HBND.out
          have CW := Lib.hid (IH.out (deep := deep + 1) ⟨hok, by omega, hb.2.1, by omega, by omega, by omega, by omega, by omega, by omega, by omega, by rw [List.length_append, List.length_append, hpl, List.length_singleton]; omega⟩ HC.out)
          have HNX : Hid (∀ V, CtAt w0 b g ill v (n + 1 + remN S d (p.kids.take i) + nodesN S d m) (r + 1 + remN S d (p.kids.take i) + nodesN S d m) (l ++ [nn] ++ (p.kids.take i).flatMap (pagesN S d) ++ pagesN S d m) (max ((p.kids.take i).foldl (fun a k => max a (deep + deepN S d k)) (max dp deep)) (deep + 1 - 1 + deepN S d m)) V → CtAt w0 b g ill v (n + 1 + remN S d (p.kids.take (i + 1))) (r + 1 + remN S d (p.kids.take (i + 1))) (l ++ [nn] ++ (p.kids.take (i + 1)).flatMap (pagesN S d)) ((p.kids.take (i + 1)).foldl (fun a k => max a (deep + deepN S d k)) (max dp deep)) V) := Lib.hid fun V h => by
            rw [hrem, hsn, List.flatMap_append, List.foldl_append, Int.natCast_add, ← Int.add_assoc, ← Int.add_assoc, ← List.append_assoc]
            simpa [Int.add_sub_cancel] using h
          have ewd : IntKind.i64.wrap (deep + 1) = deep + 1 := IntWalk.i64_in _ (by omega)
          have ewi : IntKind.i64.wrap ((i : Int) + 1) = (i : Int) + 1 := IntWalk.i64_in _ (by have := HPO.out.few; have := (HOK.out.kidlen hlf).2; omega)
          clear hm hki hkm hkg hcell hok hrem hrt hpl hsn hfk hb hlf
          go_wp2_with fail
          refine CW.out.mono ?_
          rintro e w6 ⟨rfl, hat, hck⟩
          have HC6 := Lib.hid (HNX.out w6 hat)
          have HK6 := Lib.hid (HK.out.trans hck)
          have HP6 := Lib.hid (hck q _ _ (by decide) HQN.out.1 HQN.out.2 HP.out)
          clear hat hck CW hc0 z0 z1 z2 z3
          go_wp2_with fail
          go_roundg (k3 - (i + 1))
          case measure => omega
          case rel => exact ⟨i + 1, by simp, by omega, HC6, HK6, HP6⟩
        · have hd3 : ¬ ((i : Int) < (k3 : Int)) := by omega
          have FIN : Hid (CtPost w0 b g ill v N1 R1 L1 D1 w (.returned (.int .i64 0)) wr) := Lib.hid (by
            have hc := HC.out
            rw [List.take_of_length_le (by have := HE.out.2.2.1; omega), fold_max deep (deepN S d) _ _ (by omega)] at hc
            refine ⟨rfl, ?_, HK.out⟩
            rw [HN1.out, HR1.out, HLX.out, HD1.out]
            rw [show n + 1 + (remN S d p.kids : Int) = n + ((1 + remN S d p.kids : Nat) : Int) by omega, show r + 1 + (remN S d p.kids : Int) = r + ((1 + remN S d p.kids : Nat) : Int) by omega, show l ++ [nn] ++ p.kids.flatMap (pagesN S d) = l ++ nn :: p.kids.flatMap (pagesN S d) by simp, show max (max dp deep) (deep + (((p.kids.map (deepN S d)).foldr max 0 : Nat) : Int)) = max dp (deep - 1 + ((1 + (p.kids.map (deepN S d)).foldr max 0 : Nat) : Int)) by omega] at hc
            exact hc)
          go_wp2_with fail
          go_ret
          exact FIN.out
end Go.Proofs.Ytafeddjcomeniaa
end

/- publicanlaw7's level. Conditions: the shelf lies in memory; the tree is good, all its leaves as deep. -/
section
namespace Go.Proofs.Ytafeddjcomeniaa
open Go.RowKit
set_option linter.unusedVariables false
set_option linter.unusedSimpArgs false

theorem Seen.mono {B b : Nat} {ill : Int} {s : Sh} {v : Value} {K K' : Nat} {w w' : World} (h : Seen B b ill s v K w w') (hK : K ≤ K') : Seen B b ill s v K' w w' := by
  obtain ⟨n', h1, h2, h3⟩ := h
  exact ⟨n', h1, by omega, h3⟩
set_option maxRecDepth 100000 in
set_option maxHeartbeats 16000000 in
theorem level_any {Q : Pg → Prop} {B b : Nat} {ill : Int} {v : Value} : ∀ (d : Nat) {nn : Int} {lo hi : Option ByteArray} {s : Sh} {w : World}, ExN s.S d nn → OkN Q s.S d nn lo hi → (itemsN s.S d nn).length ≤ 1000 → s.S.length ≤ 100000 → 0 ≤ s.n → s.n + nodesN s.S d nn < 1000000000 → ill ≤ s.n → d ≤ 1000 → ShAt B w b ill s v →
    Calls Try.prog 29 #[.pointer (some ⟨b, 0, none⟩), .int .u64 nn, .int .i64 d] w fun e w' => e = .returned (.bool true) ∧ Seen B b ill s v (nodesN s.S d nn) w w' := by
  intro d
  induction d with
  | zero => intro nn lo hi s w h; exact h.elim
  | succ d ih =>
    intro nn lo hi s w hex hok hfew hlen hn0 hn1 hwell hd hsh
    obtain ⟨p, hpg, hlf, hkx⟩ := hex
    obtain ⟨p', hpg', hq, hok⟩ := hok
    rw [hpg] at hpg'
    cases hpg'
    have hnn := (pgAt_le hpg).1
    have hnz : ((nn : Int) == 0) = false := beq_eq_false_iff_ne.2 (by omega)
    have eit : itemsN s.S (d + 1) nn = itemsP (itemsN s.S d) p := by rw [itemsN]; simp only [hpg]
    have eno : nodesN s.S (d + 1) nn = 1 + remN s.S d p.kids := by rw [nodesN]; simp only [hpg]; rfl
    rw [eit] at hfew
    rw [eno] at hn1 ⊢
    have CR := Lib.hid (shPage_any hsh hn0 (by omega) hpg hlen)
    have IH := @Lib.hid _ @ih
    have HSH := Lib.hid hsh
    have HOK := Lib.hid hok
    have HKX := Lib.hid hkx
    have HLF := Lib.hid hlf
    have HPO := Lib.hid (pg_ok hok hfew hlen)
    have HBND : Hid ((itemsP (itemsN s.S d) p).length ≤ 1000 ∧ s.S.length ≤ 100000 ∧ ill ≤ s.n ∧ 0 ≤ s.n ∧ s.n + (1 + remN s.S d p.kids : Nat) < 1000000000) := Lib.hid ⟨hfew, hlen, hwell, hn0, hn1⟩
    obtain ⟨N1, hN1⟩ : ∃ T, T = 1 + remN s.S d p.kids := ⟨_, rfl⟩
    rw [← hN1]
    have HN1 := Lib.hid hN1
    clear ih hsh hok hkx hlf hfew hlen hwell hn0 hn1 hN1 eit eno hq hpg hnn
    go_enter Try.func29, Try.ntmps29
    go_wp2_with fail
    refine CR.out.mono ?_
    rintro e w2 ⟨h1, h2, hk2, hm2, -⟩
    rcases h1 with ⟨hil, _⟩ | ⟨_, cc, rfl, hcc⟩
    · have := HBND.out
      omega
    · obtain ⟨A1, c1, A2, c2, A3, c3, rfl, hpa⟩ := hcc
      unfold pgc
      obtain ⟨W3, hW3⟩ : ∃ W3, W3 = w2.alloc (.cells #[.bool p.leaf, .slice A1 p.keys.length c1, .slice A2 p.vals.length c2, .slice A3 p.kids.length c3] 54) := ⟨_, rfl⟩
      have hl3 : Later w2 W3 := by rw [hW3]; exact below_new _ _
      obtain ⟨q, hqq⟩ : ∃ q, q = w2.heap.size := ⟨_, rfl⟩
      have kp3 : Blk W3 q 54 #[.bool p.leaf, .slice A1 p.keys.length c1, .slice A2 p.vals.length c2, .slice A3 p.kids.length c3] := by rw [hW3, hqq]; exact Blk.new _ _ _
      have hse : Seen B b ill s v 1 w W3 := Seen.later ⟨s.n + 1, by omega, by omega, h2, hk2, hm2⟩ hl3
      have HQN : Hid (q ≠ b) := Lib.hid (by have := h2.blk.lt; omega)
      have HQ := Lib.hid hqq
      have HW3 := Lib.hid hW3
      have HPA := Lib.hid (hpa.sm (Sm.later hl3))
      have HKP := Lib.hid kp3
      have HSE := Lib.hid hse
      clear h2 hk2 hm2 hpa hl3 hqq hW3 CR hse kp3
      generalize hk1 : p.keys.length = k1 at *
      generalize hk2 : p.vals.length = k2 at *
      generalize hk3 : p.kids.length = k3 at *
      have HE := Lib.hid (And.intro hk1 (And.intro hk2 hk3))
      clear hk1 hk2 hk3
      go_upto_region 4 with fail
      rw [← HW3.out, ← HQ.out]
      cases hl : p.leaf with
      | true =>
        obtain rfl : d = 0 := HLF.out.1 hl
        rw [hl] at HKP
        obtain ⟨z0, z1, z2, z3⟩ := cells4 HKP.out
        have FIN : Hid (Seen B b ill s v N1 w W3) := Lib.hid (HSE.out.mono (by have := HN1.out; omega))
        go_wp2_with fail
        go_ret
        exact ⟨rfl, FIN.out⟩
      | false =>
        rw [hl] at HKP
        have HL := Lib.hid hl
        clear hl
        obtain ⟨z0, z1, z2, z3⟩ := cells4 HKP.out
        go_wp2_with fail
        clear z0 z1 z2 z3
        go_loopg [9] k3 (fun m iv wr => ∃ i : Nat, iv = .int .i64 (i : Int) ∧ i + m = k3 ∧ Hid (Seen B b ill s v (1 + remN s.S d (p.kids.take i)) w wr) ∧ Hid (Sm W3 wr) ∧ Hid (Blk wr q 54 #[.bool false, .slice A1 k1 c1, .slice A2 k2 c2, .slice A3 k3 c3]))
        case atStart => exact ⟨0, rfl, by omega, Lib.hid (by simpa [remN] using HSE.out), Lib.hid (Sm.refl _), HKP⟩
        case round =>
          obtain ⟨i, rfl, him, HC, HM, HP⟩ := hrel
          obtain ⟨z0, z1, z2, z3⟩ := cells4 HP.out
          by_cases hlt : i < k3
          · have hd3 : (i : Int) < (k3 : Int) := by omega
            have b1 : (0 : Int) ≤ (i : Int) := by omega
            obtain ⟨m, hm⟩ : ∃ m, m = p.kids.getD i 0 := ⟨_, rfl⟩
            have hki : i < p.kids.length := by have := HE.out.2.2; omega
            have hkm : p.kids[i]? = some m := by rw [hm]; exact getD_some 0 hki
            have hkg : p.kids[i] = m := by rw [List.getElem?_eq_getElem hki] at hkm; exact Option.some.inj hkm
            obtain ⟨ad, rfl, _, _, hcell⟩ := HPA.out.n.get hkm
            have hc0 := hcell wr (fun g cs => (HM.out g cs).2)
            have hok := HOK.out.kids HL.out i m hkm
            have hrem := remN_snoc (S := s.S) (d := d) hki
            have hrt := remN_take (S := s.S) (d := d) p.kids (i + 1)
            rw [hkg] at hrem
            have hfk := kid_few (f := itemsN s.S d) HL.out hkm
            have hb := HBND.out
            obtain ⟨n', hn1', hn2', hs', hk', hm'⟩ := HC.out
            have CW := Lib.hid (IH.out (s := ⟨s.S, n'⟩) (HKX.out m (List.mem_of_getElem? hkm)) hok (by dsimp only; omega) hb.2.1 (by dsimp only; omega) (by dsimp only; omega) (by dsimp only; omega) (by omega) hs')
            have HNX : Hid (∀ V, Seen B b ill ⟨s.S, n'⟩ v (nodesN s.S d m) wr V → Seen B b ill s v (1 + remN s.S d (p.kids.take (i + 1))) w V) := Lib.hid fun V h => by
              obtain ⟨n2, a1, a2, a3, a4, a5⟩ := h
              dsimp only at a1 a2
              exact ⟨n2, by omega, by rw [hrem]; omega, a3, hk'.trans a4 fun _ _ h => h, hm'.trans a5⟩
            have ewd : IntKind.i64.wrap (((d + 1 : Nat) : Int) - 1) = (d : Int) := by rw [show (((d + 1 : Nat) : Int) - 1) = (d : Int) by omega]; exact IntWalk.i64_in _ (by omega)
            have ewi : IntKind.i64.wrap ((i : Int) + 1) = (i : Int) + 1 := IntWalk.i64_in _ (by have := HPO.out.few; have := (HOK.out.kidlen HL.out).2; have := HE.out; omega)
            clear hm hki hkm hkg hcell hok hrem hrt hfk hb hs' hk' hm' hn1' hn2'
            go_wp2_with fail
            refine CW.out.mono ?_
            rintro e w6 ⟨rfl, hse⟩
            have HC6 := Lib.hid (HNX.out w6 hse)
            have HM6 : Hid (Sm W3 w6) := Lib.hid (by
              obtain ⟨_, _, _, _, _, h5⟩ := hse
              exact HM.out.trans h5)
            obtain ⟨_, _, _, _, h4, _⟩ := hse
            have HP6 := Lib.hid (h4.blk HP.out HQN.out)
            clear h4 CW hc0 z0 z1 z2 z3
            go_wp2_with fail
            go_roundg (k3 - (i + 1))
            case measure => omega
            case rel => exact ⟨i + 1, by simp, by omega, HC6, HM6, HP6⟩
          · have hd3 : ¬ ((i : Int) < (k3 : Int)) := by omega
            have FIN : Hid (Seen B b ill s v N1 w wr) := Lib.hid (by
              have hc := HC.out
              rw [List.take_of_length_le (by have := HE.out; omega)] at hc
              rw [HN1.out]
              exact hc)
            go_wp2_with fail
            go_ret
            exact ⟨rfl, FIN.out⟩
end Go.Proofs.Ytafeddjcomeniaa
end


section
namespace Go.Proofs.Ytafeddjcomeniaa
open Go.RowKit

section
variable {b a n c : Nat} {off odd : Bool} {cut writes lives : Int} {w : World}

end
end Go.Proofs.Ytafeddjcomeniaa
end

/- A slice of structs that came in: opened to the cells of its fields. Conditions: none. -/
section
namespace Go.Proofs.Ytafeddjcomeniaa
open Go.ChangeShapes Go.WideShapes Go.Deep Go.RowKit

section
variable {H : Type} {enc : TypeId × Value → H} {P : Program} {w : World} {base : Nat} {spare : Nat → Bool} {held : Bool}
theorem open_slice_fields {t e : TypeId} {fs : Array Field} {fuel : Nat} {cs : List Value} {x : DataW H × List MemPlace} (ht : P.underlying t = some (.slice e)) (he : P.underlying e = some (.struct fs))
    (hone : oneCellFields P fs = true) (hC : P.cellsOf e = fs.size) (h : DataW.trod enc P w base spare held fuel t cs = some x) :
    (cs = [.slice none 0 0] ∧ x = (.nil, [])) ∨
    ∃ (a : Addr) (len cap m : Nat) (D : Nat → DataW H) (Pl : Nat → List MemPlace), cs = [.slice (some a) len cap] ∧ base ≤ a.block ∧ len ≤ cap ∧ cap ≤ maxLen ∧ m = (if spare a.block then cap else len) ∧
      x = (.slice ((List.range len).map D) ((List.range (m - len)).map fun j => D (len + j)), MemPlace.row a (m * fs.size) ++ (List.range m).flatMap Pl) ∧
      ∀ i, i < m → ∃ (ys : List (DataW H × List MemPlace)) (n : Nat), D i = .agg (ys.map (·.1)) ∧ Pl i = ys.flatMap (·.2) ∧ ys.length = fs.size ∧
        ∀ (j : Nat) (f : Field), fs[j]? = some f → ∃ (v : Value) (y : DataW H × List MemPlace), w.cell? (a.add (i * fs.size + j)) = some v ∧ ys[j]? = some y ∧ DataW.trod enc P w base spare held n f.type [v] = some y := by
  rcases open_slice ht h with h0 | ⟨a, len, cap, m, n, D, Pl, hcs, hb, hl, hm, hmm, hx, hi⟩
  · exact .inl h0
  · refine .inr ⟨a, len, cap, m, D, Pl, hcs, hb, hl, hm, hmm, by rw [hC] at hx; exact hx, fun i him => ?_⟩
    obtain ⟨cs', hc, ht'⟩ := hi i him
    rw [hC] at hc
    obtain ⟨ys, n', hn', hy, hlen, hyl, hf⟩ := DataW.trod_struct he ht'
    obtain ⟨_, hcl, hat⟩ := World.cells?_some hc
    simp only [Prod.mk.injEq] at hy
    refine ⟨ys, n', hy.1, hy.2, hyl, fun j f hj => ?_⟩
    obtain ⟨ho, hk⟩ := hone_of hone j f hj
    have hjl : j < fs.size := (Array.getElem?_eq_some_iff.1 hj).1
    have hcell := hat j hjl
    have hv : cs'[j]? = some (cs'[j]'(by omega)) := List.getElem?_eq_getElem (by omega)
    have h1 := hf j f hj
    rw [ho, hk] at h1
    have hone' : (cs'.drop j).take 1 = [cs'[j]'(by omega)] := by
      rw [List.drop_eq_getElem_cons (by omega)]
      rfl
    rw [hone'] at h1
    have hys : ys[j]? = some (ys[j]'(by omega)) := List.getElem?_eq_getElem (by omega)
    refine ⟨_, _, ?_, hys, h1.trans hys⟩
    rw [← Go.Deep.add_add, hcell, hv]
end


theorem plain_of_cell {w : World} {a : Addr} {v : Value} (h : w.cell? a = some v) : a = ⟨a.block, a.off, none⟩ := by
  obtain ⟨b, o, sp⟩ := a
  cases sp with
  | none => rfl
  | some x =>
    simp only [World.cell?] at h
    split at h <;> simp at h

theorem add_plain (b o j : Nat) : (⟨b, o, none⟩ : Addr).add j = ⟨b, o + j, none⟩ := by unfold Addr.add; by_cases e : j = 0 <;> simp [e]

section
variable {H : Type} {enc : TypeId × Value → H} {W : World} {base : Nat} {spare : Nat → Bool} {held : Bool}

end
end Go.Proofs.Ytafeddjcomeniaa
end

/- publicanlaw7's changes that came in, opened. Conditions: none. -/
section
namespace Go.Proofs.Ytafeddjcomeniaa
open Go.ChangeShapes Go.WideShapes Go.Deep Go.RowKit

/-- A change: of a key by a value, or dropped. -/
structure Ac7 where
  k : ByteArray
  v : ByteArray
  drop : Bool
/-- The changes, below block B0: three cells each. -/
def Acts7At (w : World) (B0 : Nat) (A : Option Addr) (len : Nat) (L : List Ac7) : Prop :=
  L.length = len ∧ ∀ (i : Nat) (x : Ac7), L[i]? = some x → ∃ bb oo, A = some ⟨bb, oo, none⟩ ∧ bb < B0 ∧
    w.cell? ⟨bb, oo + i * 3, none⟩ = some (.string x.k) ∧ w.cell? ⟨bb, oo + i * 3 + 1, none⟩ = some (.string x.v) ∧ w.cell? ⟨bb, oo + i * 3 + 2, none⟩ = some (.bool x.drop)

section
variable {H : Type} {enc : TypeId × Value → H} {W : World} {base : Nat} {spare : Nat → Bool} {held : Bool}
theorem open_str_field {fuel : Nat} {v : Value} {x : DataW H × List MemPlace} (h : DataW.trod enc Try.prog W base spare held fuel 9 [v] = some x) :
    ∃ s : ByteArray, v = .string s ∧ s.size ≤ maxLen := by
  obtain ⟨n, hcs, _, hw⟩ := DataW.trod_string Try.underlying9 h
  exact ⟨n, by simpa using hcs, hw⟩
theorem open_bool_field {fuel : Nat} {v : Value} {x : DataW H × List MemPlace} (h : DataW.trod enc Try.prog W base spare held fuel 4 [v] = some x) : ∃ s : Bool, v = .bool s := by
  obtain ⟨n, hcs, _⟩ := DataW.trod_bool Try.underlying4 h
  exact ⟨n, by simpa using hcs⟩
set_option maxHeartbeats 400000 in
theorem open_acts7 {fuel : Nat} {v : Value} {x : DataW H × List MemPlace} (hs : ∀ b, spare b = true) (h : DataW.trod enc Try.prog W base spare held fuel 36 [v] = some x) :
    ∃ A n c L, v = .slice A n c ∧ n ≤ c ∧ c ≤ maxLen ∧ Acts7At W W.heap.size A n L := by
  rcases open_slice_fields Try.underlying36 Try.underlying46 (by kernel_rfl) (by kernel_rfl) h with ⟨hcs, _⟩ | ⟨a, len, cap, m, D, Pl, hcs, _, hl, hm, hmm, _, hi⟩
  · obtain rfl : v = .slice none 0 0 := by simpa using hcs
    exact ⟨none, 0, 0, [], rfl, Nat.le_refl _, Nat.zero_le _, rfl, fun i x hx => by simp at hx⟩
  · obtain rfl : v = .slice (some a) len cap := by simpa using hcs
    rw [hs, if_pos rfl] at hmm
    subst hmm
    have each : ∀ i, i < len → ∃ x : Ac7, ∃ bb oo, (some a : Option Addr) = some ⟨bb, oo, none⟩ ∧ bb < W.heap.size ∧
        W.cell? ⟨bb, oo + i * 3, none⟩ = some (.string x.k) ∧ W.cell? ⟨bb, oo + i * 3 + 1, none⟩ = some (.string x.v) ∧ W.cell? ⟨bb, oo + i * 3 + 2, none⟩ = some (.bool x.drop) := by
      intro i hil
      obtain ⟨ys0, n0, _, _, _, hf0⟩ := hi 0 (by omega)
      obtain ⟨v00, _, h00, _, _⟩ := hf0 0 _ rfl
      have ha : a = ⟨a.block, a.off, none⟩ := by
        have e : a.add (0 * 3 + 0) = a := by simp [Addr.add]
        exact plain_of_cell (by rw [← e]; exact h00)
      obtain ⟨ys, n, _, _, _, hf⟩ := hi i (by omega)
      obtain ⟨v0, y0, c0, _, t0⟩ := hf 0 _ rfl
      obtain ⟨v1, y1, c1, _, t1⟩ := hf 1 _ rfl
      obtain ⟨v2, y2, c2, _, t2⟩ := hf 2 _ rfl
      obtain ⟨x0, rfl, _⟩ := open_str_field t0
      obtain ⟨x1, rfl, _⟩ := open_str_field t1
      obtain ⟨x2, rfl⟩ := open_bool_field t2
      rw [ha] at c0 c1 c2
      simp only [add_plain, List.size_toArray, List.length_cons, List.length_nil, Nat.reduceAdd, Nat.add_zero, ← Nat.add_assoc] at c0 c1 c2
      exact ⟨⟨x0, x1, x2⟩, a.block, a.off, by rw [← ha], World.block_lt_of_cell? W ⟨a.block, a.off + i * 3, none⟩ c0, c0, c1, c2⟩
    have list : ∀ k, k ≤ len → ∃ L : List Ac7, L.length = k ∧ ∀ (i : Nat) (x : Ac7), L[i]? = some x → ∃ bb oo, (some a : Option Addr) = some ⟨bb, oo, none⟩ ∧ bb < W.heap.size ∧
        W.cell? ⟨bb, oo + i * 3, none⟩ = some (.string x.k) ∧ W.cell? ⟨bb, oo + i * 3 + 1, none⟩ = some (.string x.v) ∧ W.cell? ⟨bb, oo + i * 3 + 2, none⟩ = some (.bool x.drop) := by
      intro k
      induction k with
      | zero => exact fun _ => ⟨[], rfl, fun i x hx => by simp at hx⟩
      | succ k ih =>
        intro hk
        obtain ⟨L, hL, hall⟩ := ih (by omega)
        obtain ⟨x, hx⟩ := each k (by omega)
        refine ⟨L ++ [x], by simp [hL], fun i y hy => ?_⟩
        by_cases e : i < k
        · rw [List.getElem?_append_left (by omega)] at hy
          exact hall i y hy
        · have hik : i = k := by
            have := (List.getElem?_eq_some_iff.1 hy).1
            simp at this
            omega
          subst hik
          rw [List.getElem?_append_right (by omega), hL, Nat.sub_self] at hy
          simp at hy
          subst hy
          exact hx
    obtain ⟨L, hL, hall⟩ := list len (Nat.le_refl _)
    exact ⟨some a, len, m, L, rfl, hl, hm, hL, hall⟩
end
theorem Acts7At.at_ {w : World} {B0 len : Nat} {A : Option Addr} {L : List Ac7} (h : Acts7At w B0 A len L) {i : Nat} (hi : i < len) :
    ∃ (x : Ac7) (bb oo : Nat), L[i]? = some x ∧ A = some ⟨bb, oo, none⟩ ∧ ∀ w', Below B0 w w' → w'.cell? ⟨bb, oo + i * 3, none⟩ = some (.string x.k) ∧ w'.cell? ⟨bb, oo + i * 3 + 1, none⟩ = some (.string x.v) ∧ w'.cell? ⟨bb, oo + i * 3 + 2, none⟩ = some (.bool x.drop) := by
  obtain ⟨x, hx⟩ : ∃ x, L[i]? = some x := ⟨_, List.getElem?_eq_getElem (by rw [h.1]; exact hi)⟩
  obtain ⟨bb, oo, e, hB, h0, h1, h2⟩ := h.2 i x hx
  refine ⟨x, bb, oo, hx, e, fun w' hb => ?_⟩
  have k : ∀ j, w'.cell? ⟨bb, j, none⟩ = w.cell? ⟨bb, j, none⟩ := fun j => hb.cell hB
  exact ⟨(k _).trans h0, (k _).trans h1, (k _).trans h2⟩
end Go.Proofs.Ytafeddjcomeniaa
end

/- tree.Put, walked. Conditions: the shelf lies in memory; the tree is good, at most 20 deep, with few items; what each step wants. -/
section
namespace Go.Proofs.Ytafeddjcomeniaa
open Go.RowKit
set_option linter.unusedVariables false
set_option linter.unusedSimpArgs false
attribute [local go_sem] Oper.semAt_some

theorem own_setN {w : World} {B n : Nat} {A : Option Addr} {c i : Nat} {l : List Int} (h : w.ownsRow B 27 1 (.slice A n c) n (l.map (Value.int .u64))) (hi : i < n) (v : Int) :
    ∃ g cs, A = some ⟨g, 0, none⟩ ∧ B ≤ g ∧ Blk w g 27 cs ∧ (∃ u, w.cell? ⟨g, i, none⟩ = some u) ∧ (w.setCell ⟨g, i, none⟩ (.int .u64 v)).ownsRow B 27 1 (.slice A n c) n ((l.set i v).map (Value.int .u64)) := by
  rcases h.2 with ⟨e1, e2⟩ | ⟨g, cap, cur, e1, hg, hb, h2, h3, h4, h5⟩
  · omega
  · injection e1 with e1 _ e3
    subst e1 e3
    have hb : Blk w g 27 cur := hb
    rw [Nat.mul_one] at h4 h5
    have hl := h.1
    rw [Nat.mul_one] at hl
    refine ⟨g, cur, rfl, hg, hb, ⟨cur[i], by rw [hb.cell, Array.getElem?_eq_getElem (by omega)]⟩, by rw [List.length_map, List.length_set]; simpa using hl, .inr ⟨g, c, _, rfl, hg, hb.set_ i (.int .u64 v), h2, h3, by simp [h4], ?_⟩⟩
    rw [Nat.mul_one, Array.toList_setIfInBounds, List.take_set, h5, List.map_set]
theorem results_put (tmps : Array Value) (W : World) (g1 g2 : Nat) (x y : Int) (h6 : tmps.getD 8 undef = .pointer (some ⟨g1, 0, none⟩)) (h7 : tmps.getD 9 undef = .pointer (some ⟨g2, 0, none⟩))
    (c1 : W.cell? ⟨g1, 0, none⟩ = some (.int .u64 x)) (c2 : W.cell? ⟨g2, 0, none⟩ = some (.int .i64 y)) : (results Try.f10 tmps).run Try.prog W = .ok (.tuple #[.int .u64 x, .int .i64 y]) W := by
  have h6' : tmps[8]?.getD undef = .pointer (some ⟨g1, 0, none⟩) := by simpa using h6
  have h7' : tmps[9]?.getD undef = .pointer (some ⟨g2, 0, none⟩) := by simpa using h7
  simp [results, Try.f10, go_sem, h6', h7', c1, c2]
set_option maxRecDepth 100000 in
set_option maxHeartbeats 8000000 in
theorem putT_some {Q : Pg → Prop} {B b : Nat} {w : World} {ill : Int} {s : Sh} {v : Value} {root : Int} {d : Nat} {key val : ByteArray} (h : ShAt B w b ill s v) (hB : B ≤ w.heap.size) (hn : 0 ≤ s.n) (hn2 : s.n < 100000000) (hl : s.S.length ≤ 90000)
    (h2 : Two s.S) (ht : OkN Q s.S d root none none) (hi' : (itemsN s.S d root).length ≤ 1000) (hd : d ≤ 20) (hk : keyFit key) (hv : val.size ≤ 400)
    (hR : Runs ill key val (wayN s.S d root key) ⟨s.S, s.n + (wayN s.S d root key).length⟩)
    (hJ : ∀ s1 a, putW ill key val (wayN s.S d root key) ⟨s.S, s.n + (wayN s.S d root key).length⟩ = (s1, some a) → 0 ≤ s1.n ∧ s1.n < 1000000000 ∧ s1.S.length ≤ 99990) :
    Calls Try.prog 10 #[shV b, .int .u64 root, .string key, .string val] w fun e w' => TPost B b ill (putT ill key val root (wayN s.S d root key) s).1 (putT ill key val root (wayN s.S d root key) s).2.1 (putT ill key val root (wayN s.S d root key) s).2.2 w e w' := by
  have hroot : root ≠ 0 := by have := (ok_le ht).1; omega
  have hroot' : ((root : Int) == 0) = false := beq_eq_false_iff_ne.2 hroot
  have hwl := way_len (S := s.S) (key := key) d root
  obtain ⟨p, i, hlast, hlf, hgood, hget⟩ := find_way ht (inB_all key)
  obtain ⟨FULL, hF⟩ : ∃ F, F = wayN s.S d root key := ⟨_, rfl⟩
  obtain ⟨W0, hW0⟩ : ∃ W0, W0 = ((w.alloc (.cells #[.iface 23 (.pointer (some ⟨b, 0, none⟩))] 79)).alloc (.cells #[.int .u64 0] 27)).alloc (.cells #[.int .i64 0] 28) := ⟨_, rfl⟩
  have hb0 : Later w W0 := by rw [hW0]; exact ((below_new _ _).alloc (by simp) _).alloc (by rw [World.size_alloc, World.size_alloc]; omega) _
  have hs0 : W0.heap.size = w.heap.size + 3 := by rw [hW0]; simp
  have kb : Blk W0 w.heap.size 79 #[.iface 23 (.pointer (some ⟨b, 0, none⟩))] := by rw [hW0]; exact ((Blk.new _ _ _).alloc _).alloc _
  have k1 : Blk W0 (w.heap.size + 1) 27 #[.int .u64 0] := by
    rw [hW0]
    have := Blk.new (w.alloc (.cells #[.iface 23 (.pointer (some ⟨b, 0, none⟩))] 79)) 27 #[.int .u64 0]
    rw [World.size_alloc] at this
    exact this.alloc _
  have k2 : Blk W0 (w.heap.size + 1 + 1) 28 #[.int .i64 0] := by
    rw [hW0]
    have := Blk.new ((w.alloc (.cells #[.iface 23 (.pointer (some ⟨b, 0, none⟩))] 79)).alloc (.cells #[.int .u64 0] 27)) 28 #[.int .i64 0]
    rwa [World.size_alloc, World.size_alloc] at this
  have h0 := h.later hb0
  have CW := Lib.hid (way_any h0 hn (by omega) (by omega) ht (inB_all key) hi' hd)
  rw [← hF] at CW hlast hwl hR hJ ⊢
  have hne : 1 ≤ FULL.length := by
    cases FULL with
    | nil => simp at hlast
    | cons => simp
  have hx : FULL[FULL.length - 1]? = some (p, i) := by rw [List.getLast?_eq_getElem?] at hlast; exact hlast
  have HX := Lib.hid hx
  have HR := Lib.hid hR
  have HJ := Lib.hid hJ
  have HB := Lib.hid hB
  have H2 := Lib.hid h2
  have HN := Lib.hid hn
  have HN2 := Lib.hid hn2
  have HL := Lib.hid hl
  have HWL : Hid (FULL.length ≤ 20) := Lib.hid (by omega)
  have HNE := Lib.hid hne
  have HKB := Lib.hid kb
  have HK1 := Lib.hid k1
  have HK2 := Lib.hid k2
  have HB0 := Lib.hid hb0
  have HS0 := Lib.hid hs0
  have HW0 := Lib.hid hW0
  have HROOT := Lib.hid hroot
  have c0 := kb.c0
  have c1 := k1.c0
  have c2 := k2.c0
  have e1 : ¬ ((key.size : Int) < 1) := by have := hk.1; omega
  have e2 : ¬ ((40 : Int) < (key.size : Int)) := by have := hk.2; omega
  have e3 : ¬ ((400 : Int) < (val.size : Int)) := by omega
  clear h hB hn hn2 hl h2 ht hi' hd hk hv hR hJ hwl hlast hgood hget hF hx hne hb0 hs0 hW0 kb k1 k2 hroot hlf
  unfold shV at CW ⊢
  refine (callsIn_wide (n := 5)).1 ?_
  refine callsIn_of_wp_marks Try.func10 rfl trivial ?_ rfl
  refine wpIn_wide.2 ?_
  simp only [Try.ntmps10, List.size_toArray, List.length_cons, List.length_nil, Nat.reduceAdd, Nat.reduceSub, Array.replicate_succ, Array.replicate_zero, List.push_toArray, List.append_toArray, List.nil_append, List.cons_append]
  go_upto_region 1 with fail
  rw [← HW0.out]
  go_upto_region 5 with fail
  have H0 := Lib.hid h0
  obtain ⟨r2, hr2⟩ : ∃ r2, r2 = w.heap.size + 1 + 1 := ⟨_, rfl⟩
  obtain ⟨r1, hr1⟩ : ∃ r1, r1 = w.heap.size + 1 := ⟨_, rfl⟩
  obtain ⟨rb, hrb⟩ : ∃ rb, rb = w.heap.size := ⟨_, rfl⟩
  rw [← hr2] at HK2 ⊢
  rw [← hr1] at HK1 ⊢
  rw [← hrb] at HKB ⊢
  have HR1 : Hid (w.heap.size ≤ r1 ∧ w.heap.size ≤ r2 ∧ w.heap.size ≤ rb ∧ r1 < W0.heap.size ∧ r2 < W0.heap.size ∧ rb < W0.heap.size) := Lib.hid (by have := HS0.out; omega)
  have n12 : r1 ≠ r2 := by omega
  have n1b : r1 ≠ rb := by omega
  have n2b : r2 ≠ rb := by omega
  clear c0 c1 c2 e1 e2 e3 hroot' h0 hr1 hr2 hrb
  have c0 := HKB.out.c0
  go_wp2_with fail
  refine CW.out.mono ?_
  rintro e w1 ⟨hd1, hk1, hm1⟩
  rcases hd1 with ⟨a1, a2, rfl, a4⟩ | ⟨a1, lv, rfl, hst, hs1⟩
  · have hw0 := Wr.of_kept H0.out hk1 hm1 a4 (by have := HB.out; have := HS0.out; omega)
    have k1 := (hw0.sm _ _).2 HK1.out
    have k2 := hw0.far _ _ _ far_err HK2.out
    obtain ⟨W2, hW2⟩ : ∃ W2, W2 = w1.alloc (.cells #[.int .i64 4] 28) := ⟨_, rfl⟩
    have hl2 : Later w1 W2 := by rw [hW2]; exact below_new _ _
    have hw2 := (hw0.from_ HB.out HB0.out).later HB.out hl2
    have HW2 := Lib.hid hW2
    have ke : Blk W2 w1.heap.size 28 #[.int .i64 4] := by rw [hW2]; exact Blk.new _ _ _
    have k1 := k1.below hl2 k1.lt
    have k2 := k2.below hl2 k2.lt
    have ce := ke.c0
    have fe := ke.frozen 0
    have FIN : Hid (∀ V, Later W2 V → Wr B b ill ⟨s.S, ill⟩ w ((V.setCell ⟨r1, 0, none⟩ (.int .u64 0)).setCell ⟨r2, 0, none⟩ (.int .i64 4)) ∧ ((V.setCell ⟨r1, 0, none⟩ (.int .u64 0)).setCell ⟨r2, 0, none⟩ (.int .i64 4)).cell? ⟨r1, 0, none⟩ = some (.int .u64 0) ∧ ((V.setCell ⟨r1, 0, none⟩ (.int .u64 0)).setCell ⟨r2, 0, none⟩ (.int .i64 4)).cell? ⟨r2, 0, none⟩ = some (.int .i64 4)) := Lib.hid fun V hV =>
      exit_two (hw2.later HB.out hV) H2.out (k1.below hV k1.lt) (k2.below hV k2.lt) HR1.out.1 HR1.out.2.1 HB.out
    have hput : putT ill key val root FULL s = (⟨s.S, ill⟩, 0, 4) := by
      unfold putT; rw [if_neg HROOT.out, if_pos ⟨a1, a2⟩]
    have HPUT := Lib.hid hput
    obtain ⟨c1, f1⟩ : W2.cell? ⟨r1, 0, none⟩ = some (.int .u64 0) ∧ W2.frozen? ⟨r1, 0, none⟩ = false := ⟨k1.c0, k1.frozen 0⟩
    obtain ⟨c2, f2⟩ : W2.cell? ⟨r2, 0, none⟩ = some (.int .i64 0) ∧ W2.frozen? ⟨r2, 0, none⟩ = false := ⟨k2.c0, k2.frozen 0⟩
    obtain ⟨q, hq⟩ : ∃ q, q = w1.heap.size := ⟨_, rfl⟩
    have nq1 : q ≠ r1 := by have := HR1.out; have := hw0.size; omega
    have nq2 : q ≠ r2 := by have := HR1.out; have := hw0.size; omega
    rw [← hq] at ce fe
    have HQ := Lib.hid hq
    clear hq hk1 hm1 a1 a2 a4 hw0 hw2 hW2 hl2 ke k1 k2 hput c0
    go_upto_region 6 with fail
    rw [← HW2.out, ← HQ.out]
    go_wp2_with fail
    go_region
    go_wp2_with fail
    obtain ⟨hw, x1, x2⟩ := FIN.out W2 (Below.refl _ _)
    refine ⟨_, results_put _ _ r1 r2 0 4 rfl rfl x1 x2, ?_⟩
    rw [HPUT.out]
    exact ⟨rfl, hw.later HB.out (later_drewN _ 1)⟩
  · obtain ⟨g, cap, c, rfl, hg, hcap, ⟨cur, hcur⟩, ⟨A1, cc1, A2, cc2, A3, cc3, rfl, hpa⟩, hcell⟩ := hst.get HX.out
    obtain ⟨ploff, hpok, hputs, hpw⟩ := runs_last HR.out HX.out (by have := HNE.out; omega)
    have hlen := HNE.out
    have hl20 := HWL.out
    obtain ⟨N, hN⟩ : ∃ N, N = FULL.length - 1 := ⟨_, rfl⟩
    have hNl : FULL.length = N + 1 := by omega
    have hw0 := Wr.of_kept H0.out hk1 hm1 hs1 (by have := HB.out; have := HS0.out; omega)
    have k1 := (hw0.sm _ _).2 HK1.out
    have k2 := hw0.far _ _ _ far_err HK2.out
    have kb := hw0.far _ _ _ far_shelf HKB.out
    obtain ⟨W2, hW2⟩ : ∃ W2, W2 = w1.alloc (.cells #[.int .i64 0] 28) := ⟨_, rfl⟩
    have hl2 : Later w1 W2 := by rw [hW2]; exact below_new _ _
    have hw2 := (hw0.from_ HB.out HB0.out).later HB.out hl2
    obtain ⟨q, hq⟩ : ∃ q, q = w1.heap.size := ⟨_, rfl⟩
    have ke : Blk W2 q 28 #[.int .i64 0] := by rw [hW2, hq]; exact Blk.new _ _ _
    have nq1 : q ≠ r1 := by have := HR1.out; have := hw0.size; omega
    have nq2 : q ≠ r2 := by have := HR1.out; have := hw0.size; omega
    have HK1 := Lib.hid (k1.below hl2 k1.lt)
    have HK2 := Lib.hid (k2.below hl2 k2.lt)
    have HKB := Lib.hid (kb.below hl2 kb.lt)
    have HKE := Lib.hid ke
    have HST := Lib.hid (hst.later hl2)
    have HKG := Lib.hid (hcur.below hl2 hcur.lt)
    have HW := Lib.hid hw2
    have HS2 := Lib.hid (hs1.later hl2)
    have hpv : PgV W2 #[.bool p.leaf, .slice A1 p.keys.length cc1, .slice A2 p.vals.length cc2, .slice A3 p.kids.length cc3] p := ⟨_, _, _, _, _, _, rfl, hpa.sm (Sm.later hl2)⟩
    have hVS : ∀ k, v.ownBlock = some k → k < W2.heap.size := fun k e => ((hs1.later hl2).rowlt k e).2
    have HVS := Lib.hid hVS
    rw [← hN] at hcell
    have y0 : w1.cell? ⟨g, N * 5, none⟩ = some (.bool p.leaf) := hcell 0 (by omega)
    have y1 : w1.cell? ⟨g, N * 5 + 1, none⟩ = some (.slice A1 p.keys.length cc1) := hcell 1 (by omega)
    have y2 : w1.cell? ⟨g, N * 5 + 2, none⟩ = some (.slice A2 p.vals.length cc2) := hcell 2 (by omega)
    have y3 : w1.cell? ⟨g, N * 5 + 3, none⟩ = some (.slice A3 p.kids.length cc3) := hcell 3 (by omega)
    have y0 := (World.cell?_of_block ((show Below _ _ _ from hl2).block g hcur.lt)).trans y0
    have y1 := (World.cell?_of_block ((show Below _ _ _ from hl2).block g hcur.lt)).trans y1
    have y2 := (World.cell?_of_block ((show Below _ _ _ from hl2).block g hcur.lt)).trans y2
    have y3 := (World.cell?_of_block ((show Below _ _ _ from hl2).block g hcur.lt)).trans y3
    have hN20 : N ≤ 19 := by omega
    have CP : Hid (∀ V, Later W2 V → Calls Try.prog 32 #[.agg #[.bool p.leaf, .slice A1 p.keys.length cc1, .slice A2 p.vals.length cc2, .slice A3 p.kids.length cc3], .string key, .string val] V (PgPost V (putP p key val))) := Lib.hid fun V hV => put_v key val (hpv.below hV) hpok ploff
    have CA : Hid (∀ V, Later W2 V → ∀ cs, PgV V cs (putP p key val) → Calls Try.prog 31 #[shV b, .agg cs] V (AddPost B b ill ⟨s.S, s.n + FULL.length⟩ v (putP p key val) V)) := Lib.hid fun V hV cs hcs => add_any (HS2.out.later hV) (by have := HB.out; have := hw2.size; have := (show Below _ _ _ from hV).size; omega) hputs.n0 hputs.n1 hputs.len hcs hputs.ok
    rw [hNl] at hcap ⊢
    have HNL := Lib.hid hNl
    have HCAP : Hid (N + 1 ≤ cap) := Lib.hid hcap
    have HQW : Hid (w.heap.size ≤ q ∧ w.heap.size ≤ r1 ∧ w.heap.size ≤ r2) := Lib.hid (by have := hw0.size; have := HR1.out; have := HS0.out; omega)
    have HPW := Lib.hid hpw
    have HQ := Lib.hid hq
    have HW2 := Lib.hid hW2
    have HA1 := Lib.hid a1
    clear hst hs1 hk1 hm1 hcur hpa hcell hputs hpok ploff hpw hN hNl hw0 k1 k2 kb hW2 hl2 hw2 hq ke hpv hVS hlen hl20 a1 hcap c0 hg
    go_upto_region 6 with fail
    rw [← HW2.out, ← HQ.out]
    have ce := HKE.out.c0
    go_upto_region 8 with fail
    clear ce
    have ew : IntKind.i64.wrap ((N : Nat) : Int) = (N : Int) := IntWalk.i64_in _ (by omega)
    have i1 : (0 : Int) ≤ (N : Int) := by omega
    have i2 : (N : Int) < (N : Int) + 1 := by omega
    generalize p.keys.length = m1 at *
    generalize p.vals.length = m2 at *
    generalize p.kids.length = m3 at *
    generalize p.leaf = lf at *
    have SX : Hid (∀ V, Later W2 V → V.cell? ⟨rb, 0, none⟩ = some (.iface 23 (.pointer (some ⟨b, 0, none⟩))) ∧ V.cell? ⟨g, N * 5, none⟩ = some (.bool lf) ∧ V.cell? ⟨g, N * 5 + 1, none⟩ = some (.slice A1 m1 cc1) ∧ V.cell? ⟨g, N * 5 + 2, none⟩ = some (.slice A2 m2 cc2) ∧ V.cell? ⟨g, N * 5 + 3, none⟩ = some (.slice A3 m3 cc3)) := Lib.hid fun V hV => by
      have kb := HKB.out.below hV HKB.out.lt
      exact ⟨kb.c0, (World.cell?_of_block ((show Below _ _ _ from hV).block g HKG.out.lt)).trans y0, (World.cell?_of_block ((show Below _ _ _ from hV).block g HKG.out.lt)).trans y1, (World.cell?_of_block ((show Below _ _ _ from hV).block g HKG.out.lt)).trans y2, (World.cell?_of_block ((show Below _ _ _ from hV).block g HKG.out.lt)).trans y3⟩
    obtain ⟨SP, hSP⟩ : ∃ SP : World → Prop, ∀ V, SP V ↔ (V.cell? ⟨rb, 0, none⟩ = some (.iface 23 (.pointer (some ⟨b, 0, none⟩))) ∧ V.cell? ⟨g, N * 5, none⟩ = some (.bool lf) ∧ V.cell? ⟨g, N * 5 + 1, none⟩ = some (.slice A1 m1 cc1) ∧ V.cell? ⟨g, N * 5 + 2, none⟩ = some (.slice A2 m2 cc2) ∧ V.cell? ⟨g, N * 5 + 3, none⟩ = some (.slice A3 m3 cc3)) := ⟨_, fun _ => Iff.rfl⟩
    have HSP := Lib.hid hSP
    clear hSP y0 y1 y2 y3
    refine wp_mono (h := ?_) (calm_le _)
    have HL0 := Lib.hid (Later.refl W2)
    have ZF0 : Hid (∀ s, W2.heap.size ≤ s → W2.heap.size ≤ s) := Lib.hid (fun _ h => h)
    have ZS0 : Hid (∀ V, Later W2 V → (SP) V) := Lib.hid (fun V hV => (HSP.out V).2 (SX.out V hV))
    refine walk_start 17 (S := SP) (T := Later W2) (by kernel_rfl) (fun r => W2.heap.size ≤ r) (fun _ h => h.size) ZS0.out (closed_later _) (Later.refl _).drew ?_
    refine wt 0 51 ?_ (fun V hV => ?_) ?_
    rotate_left 1
    · (obtain ⟨c3, y0, y1, y2, y3⟩ := (HSP.out _).1 hV; clear hV; go_simp; (try with_reducible rfl))
    try simp only [pa, List.set]
    refine wt 1 52 ?_ (fun V hV => ?_) ?_
    rotate_left 1
    · (clear hV; go_simp; (try with_reducible rfl))
    try simp only [pa, List.set]
    refine wt 2 53 ?_ (fun V hV => ?_) ?_
    rotate_left 1
    · (clear hV; go_simp; (try with_reducible rfl))
    try simp only [pa, List.set]
    refine wt 3 54 ?_ (fun V hV => ?_) ?_
    rotate_left 1
    · (clear hV; go_simp; (try with_reducible rfl))
    try simp only [pa, List.set]
    refine wt 4 55 ?_ (fun V hV => ?_) ?_
    rotate_left 1
    · (clear hV; go_simp; (try with_reducible rfl))
    try simp only [pa, List.set]
    refine wt 5 56 ?_ (fun V hV => ?_) ?_
    rotate_left 1
    · (clear hV; go_simp; (try with_reducible rfl))
    try simp only [pa, List.set]
    refine wt 6 57 ?_ (fun V hV => ?_) ?_
    rotate_left 1
    · (clear hV; go_simp; (try with_reducible rfl))
    try simp only [pa, List.set]
    refine wt 7 58 ?_ (fun V hV => ?_) ?_
    rotate_left 1
    · (obtain ⟨c3, y0, y1, y2, y3⟩ := (HSP.out _).1 hV; clear hV; go_simp; (try with_reducible rfl))
    try simp only [pa, List.set]
    refine wt 8 59 ?_ (fun V hV => ?_) ?_
    rotate_left 1
    · (clear hV; go_simp; (try with_reducible rfl))
    try simp only [pa, List.set]
    refine wt 9 60 ?_ (fun V hV => ?_) ?_
    rotate_left 1
    · (clear hV; go_simp; (try with_reducible rfl))
    try simp only [pa, List.set]
    refine walk_pend ⟨15, 12, (.cells #[.int .u64 0, .bool false, .string ⟨#[]⟩, .int .u64 0] 85), fun r => .pointer (some ⟨r, 0, none⟩)⟩ ⟨_, rfl, rfl, rfl, fun W => ?_⟩ ?_
    · (go_simp; (try with_reducible rfl))
    refine walk_core 10 rfl (by kernel_rfl) (fun _ _ _ _ _ h => h) (fun V hV K hK => ?_)
    have hV0 := HL0.out.trans hV
    have hSV := ZS0.out V hV
    go_simp
    go_at_call 32
    refine (CP.out V hV0).mono ?_
    rintro e x10 ⟨hb, cs10, rfl, hp10⟩
    have HP10 := Lib.hid hp10
    clear hp10
    have HT10 := Lib.hid (hV.of hb)
    have HL1 := Lib.hid (hV0.of hb)
    have hsize := hb.size
    have hkeep := fun (r : Nat) (_ : True) (h : r < V.heap.size) => hb.block r h
    have ZF1 : Hid (∀ s, x10.heap.size ≤ s → _) := Lib.hid (fun s h => ZF0.out s (Nat.le_trans hV.size (Nat.le_trans hsize h)))
    have ZS1 : Hid (∀ V, Later x10 V → (SP) V) := Lib.hid (fun V' h => ZS0.out V' ((hV.of hb).trans h))
    refine hK.out _ _ (SP) (Later x10) _ (fun r _ h => hkeep r trivial h) (fun _ h _ => h) (fun _ h => h) ZS1.out (fun V' h => ZF1.out _ h.size) (Later.refl _) (closed_later _) ?_
    clear hK K hV hsize hkeep hV0 hSV hb
    try simp only [pa, List.set]
    refine walk_core 11 rfl (by kernel_rfl) (fun _ _ _ _ _ h => h) (fun V hV K hK => ?_)
    have hV0 := HL1.out.trans hV
    have hSV := ZS1.out V hV
    go_simp
    go_at_call 31
    refine (CA.out V hV0 cs10 (HP10.out.below hV)).mono ?_
    rintro e x11 ⟨⟨ax, ay, az, au, rfl, ha⟩, hw11, hk11⟩
    have hsize := hk11.size
    have hkeep := fun (r : Nat) (hF : W2.heap.size ≤ r) (hl : r < V.heap.size) => hk11.block r hl (fun hs => by
      rcases hs with hs | hs
      · have := HS2.out.blk.lt; omega
      · have := HVS.out r hs; omega)
    have kb11 := hw11.far _ _ _ far_shelf (HKB.out.below hV0 HKB.out.lt)
    have eg11 : x11.heap[g]? = W2.heap[g]? := (hw11.far _ _ _ far_step (HKG.out.below hV0 HKG.out.lt)).trans HKG.out.symm
    have HKB11 := Lib.hid kb11
    have HEG11 := Lib.hid eg11
    have HKG11 := Lib.hid (show g < x11.heap.size by have := HKG.out.lt; have := (show Below _ _ _ from hV0).size; have := hsize; omega)
    have hS := fun V' (h : Later x11 V') => (HSP.out V').2 (by
      obtain ⟨z0, z1, z2, z3, z4⟩ := SX.out W2 (Below.refl _ _)
      have eg : V'.heap[g]? = W2.heap[g]? := ((show Below _ _ _ from h).block g HKG11.out).trans HEG11.out
      exact ⟨(HKB11.out.below h HKB11.out.lt).c0, (World.cell?_of_block eg).trans z1, (World.cell?_of_block eg).trans z2, (World.cell?_of_block eg).trans z3, (World.cell?_of_block eg).trans z4⟩)
    have HW11 : Hid (Wr B b ill (halves ill ⟨s.S, s.n + FULL.length⟩ (putP p key val)).1 w x11) := Lib.hid ((HW.out.later HB.out hV0).trans hw11)
    have HK111 : Hid (Blk x11 r1 27 #[.int .u64 0]) := Lib.hid ((hw11.sm _ _).2 (HK1.out.below hV0 HK1.out.lt))
    have HK211 := Lib.hid (hw11.far _ _ _ far_err (HK2.out.below hV0 HK2.out.lt))
    have HKE11 := Lib.hid (hw11.far _ _ _ far_err (HKE.out.below hV0 HKE.out.lt))
    have HSM11 : Hid (Sm W2 x11) := Lib.hid ((Sm.later hV0).trans hw11.sm)
    have HA := Lib.hid ha
    clear hw11 ha hk11 kb11 eg11
    have ZF2 : Hid (∀ s, x11.heap.size ≤ s → _) := Lib.hid (fun s h => ZF1.out s (Nat.le_trans hV.size (Nat.le_trans hsize h)))
    have ZS2 : Hid (∀ V, Later x11 V → (SP) V) := Lib.hid hS
    refine hK.out _ _ (SP) (Later x11) _ hkeep (fun _ h _ => h) (fun _ h => h) ZS2.out (fun V' h => ZF2.out _ h.size) (Later.refl _) (closed_later _) ?_
    clear hK K hV hsize hkeep hV0 hSV hS
    try simp only [pa, List.set]
    refine wt 12 50 ?_ (fun V hV => ?_) ?_
    rotate_left 1
    · (clear hV; go_simp; (try with_reducible rfl))
    try simp only [pa, List.set]
    refine wt 13 63 ?_ (fun V hV => ?_) ?_
    rotate_left 1
    · (clear hV; go_simp; (try with_reducible rfl))
    try simp only [pa, List.set]
    refine wt 14 64 ?_ (fun V hV => ?_) ?_
    rotate_left 1
    · (clear hV; go_simp; (try with_reducible rfl))
    try simp only [pa, List.set]
    refine walk_force (by kernel_rfl) (by kernel_rfl) (by kernel_rfl) (by kernel_rfl) (fun r15 x15 hV hr15 hB15 => ?_)
    have lt15 : r15 < x15.heap.size := (Array.getElem?_eq_some_iff.1 hr15).1
    have ZF3 : Hid (∀ s, x15.heap.size ≤ s → _ ∧ s ≠ r15) := Lib.hid (fun s h => ⟨ZF2.out s (Nat.le_trans hV.size h), Nat.ne_of_gt (Nat.lt_of_lt_of_le lt15 h)⟩)
    have ZS3 : Hid (∀ V, Later x15 V → (SP) V) := Lib.hid (fun V' h => ZS2.out V' (hV.trans h))
    refine ⟨SP, Later x15, Later.refl _, fun _ h => h, ZS3.out, fun V' h => ZF2.out _ (Nat.le_trans hV.size h.size), fun V' h => Nat.lt_of_lt_of_le lt15 h.size, closed_later _, ?_⟩
    try simp only [pa, List.set]
    have HT15 := Lib.hid hV
    clear hV
    refine walk_core 16 rfl (by kernel_rfl) (fun _ _ _ _ _ h => h) (fun V hV K hK => ?_)
    have hSV := ZS3.out V hV
    try simp only [List.getElem_toArray, List.getElem_cons_succ, List.getElem_cons_zero]
    have kr : Blk V r15 85 #[.int .u64 0, .bool false, .string ⟨#[]⟩, .int .u64 0] := Blk.below (show Blk x15 r15 _ _ from hr15) hV lt15
    have h11V : Later x11 V := HT15.out.trans hV
    obtain ⟨z0, z1, z2, z3⟩ := cells4 kr
    obtain ⟨f0, f1, f2, f3⟩ := frozen4 kr
    have u := upd4 kr (.int .u64 ax) (.bool ay) (.string az) (.int .u64 au)
    obtain ⟨x16, hx16⟩ : ∃ x16, x16 = ((((V.setCell ⟨r15, 0, none⟩ (.int .u64 ax)).setCell ⟨r15, 1, none⟩ (.bool ay)).setCell ⟨r15, 2, none⟩ (.string az)).setCell ⟨r15, 3, none⟩ (.int .u64 au)) := ⟨_, rfl⟩
    rw [← hx16] at u
    go_simp
    rw [← hx16]
    have hr2 : W2.heap.size ≤ r15 := hB15
    have hsize : V.heap.size ≤ x16.heap.size := by rw [u.size]; exact Nat.le_refl _
    have hkeep := fun (r : Nat) (hF : W2.heap.size ≤ r ∧ r ≠ r15) (hl : r < V.heap.size) => u.kept.block r hl hF.2
    have HKB16 := Lib.hid (u.far (HKB11.out.below h11V HKB11.out.lt) (by have := HKB.out.lt; omega))
    have HEG16 : Hid (x16.heap[g]? = W2.heap[g]?) := Lib.hid ((u.kept.block g (by have := HKG11.out; have := (show Below _ _ _ from h11V).size; omega) (by have := HKG.out.lt; omega)).trans (((show Below _ _ _ from h11V).block g HKG11.out).trans HEG11.out))
    have HKG16 : Hid (g < x16.heap.size) := Lib.hid (by have := HKG11.out; have := (show Below _ _ _ from h11V).size; omega)
    have hS := fun V' (h : Later x16 V') => (HSP.out V').2 (by
      obtain ⟨z0, z1, z2, z3, z4⟩ := SX.out W2 (Below.refl _ _)
      have eg : V'.heap[g]? = W2.heap[g]? := ((show Below _ _ _ from h).block g HKG16.out).trans HEG16.out
      exact ⟨(HKB16.out.below h HKB16.out.lt).c0, (World.cell?_of_block eg).trans z1, (World.cell?_of_block eg).trans z2, (World.cell?_of_block eg).trans z3, (World.cell?_of_block eg).trans z4⟩)
    have HW16 := Lib.hid ((HW11.out.later HB.out h11V).upd u kr far_added (by have := HW.out.size; omega) HB.out)
    have HK116 := Lib.hid (u.far (HK111.out.below h11V HK111.out.lt) (by have := HK1.out.lt; omega))
    have HK216 := Lib.hid (u.far (HK211.out.below h11V HK211.out.lt) (by have := HK2.out.lt; omega))
    have HKE16 := Lib.hid (u.far (HKE11.out.below h11V HKE11.out.lt) (by have := HKE.out.lt; omega))
    have HKA16 := Lib.hid u.blk
    have HSM16 : Hid (Sm W2 x16) := Lib.hid ((HSM11.out.trans (Sm.later h11V)).trans (u.sm kr (by decide) (by decide)))
    have HR16 := Lib.hid hr2
    clear kr h11V z0 z1 z2 z3 f0 f1 f2 f3 u hx16 hr2
    have ZF4 : Hid (∀ s, x16.heap.size ≤ s → _) := Lib.hid (fun s h => ZF3.out s (Nat.le_trans hV.size (Nat.le_trans hsize h)))
    have ZS4 : Hid (∀ V, Later x16 V → (SP) V) := Lib.hid hS
    refine hK.out _ _ (SP) (Later x16) _ hkeep (fun _ h _ => h) (fun _ h => h) ZS4.out (fun V' h => ZF4.out _ h.size) (Later.refl _) (closed_later _) ?_
    clear hK K hV hsize hkeep hSV hS
    try simp only [Act.put]
    try simp only [pa, List.set]
    refine walk_exit (fun V hV => ?_)
    have hSV := ZS4.out V hV
    try simp only [pa, List.set]
    have ke := HKE16.out.below hV HKE16.out.lt
    have c0 := ke.c0
    have f0 := ke.frozen 0
    have u := upd1 ke 0 (.int .i64 (if (halves ill ⟨s.S, s.n + FULL.length⟩ (putP p key val)).2.isSome then 0 else 4))
    have hrn : Rnd B b ill w W2 r1 r2 rb q r15 g 85 (halves ill ⟨s.S, s.n + FULL.length⟩ (putP p key val)).1 0 #[.int .u64 ax, .bool ay, .string az, .int .u64 au] x16 := ⟨HW16.out, HK116.out, HK216.out, HKB16.out, HKE16.out, HKA16.out, HEG16.out, HSM16.out⟩
    have hqb := HKE.out.lt
    have hbb := HKB.out.lt
    have HN6 : Hid (q ≠ r1 ∧ q ≠ r2 ∧ q ≠ rb ∧ q ≠ r15 ∧ q ≠ g) := Lib.hid ⟨nq1, nq2, fun e => HKE.out.ne_ HKB.out (by decide) e, by have := HR16.out; omega, fun e => HKE.out.ne_ HKG.out (by decide) e⟩
    have hrn := ((hrn.later HB.out HKG.out.lt hV).updE HB.out HKG.out u HQW.out.1 HN6.out)
    obtain ⟨W3, hW3⟩ : ∃ W3, W3 = V.setCell ⟨q, 0, none⟩ (.int .i64 (if (halves ill ⟨s.S, s.n + FULL.length⟩ (putP p key val)).2.isSome then 0 else 4)) := ⟨_, rfl⟩
    rw [← hW3] at hrn
    have HW3 := Lib.hid hW3
    have HRN := Lib.hid hrn
    clear hSV hW3 hrn u ke hqb hbb
    refine wpAnyJ_one (i := 17) (by kernel_rfl) rfl (fun K hK => ?_)
    simp only [List.getElem_toArray, List.getElem_cons_succ, List.getElem_cons_zero]
    go_simp
    refine hK.out _ _ (fun h _ => absurd rfl h) ?_
    clear hK K
    try simp only [pa, List.set]
    refine wpAnyJ_done (by kernel_rfl) ?_ _
    refine calm_n ?_
    rw [← HW3.out]
    have HHV := HPW.out
    obtain ⟨L, hrow, hLl, hLs⟩ := HST.out
    have hL5 : ∀ c ∈ L, c.size = 5 := fun c hc => by
      obtain ⟨i, hi, rfl⟩ := List.getElem_of_mem hc
      exact (hLs i _ _ (List.getElem?_eq_getElem hi) (List.getElem?_eq_getElem (hLl ▸ hi))).size
    have HRL : Hid (RowC W2 g N (L.take N)) := Lib.hid ((steps_row (by rw [HNL.out] at hrow; exact hrow) (by rw [hLl, HNL.out]) hL5).take (Nat.le_succ N))
    have HRA : Hid (w.heap.size ≤ r15 ∧ (r15 ≠ r1 ∧ r15 ≠ r2 ∧ r15 ≠ rb ∧ r15 ≠ q ∧ r15 ≠ g)) := Lib.hid (by have := HR16.out; have := HW.out.size; have := HK1.out.lt; have := HK2.out.lt; have := HKB.out.lt; have := HKE.out.lt; have := HKG.out.lt; omega)
    have HRX : Hid (∀ (i : Nat) c x, L[i]? = some c → FULL[i]? = some x → StepC W2 x c) := Lib.hid hLs
    obtain ⟨D, hD⟩ : ∃ D, D = halves ill ⟨s.S, s.n + FULL.length⟩ (putP p key val) := ⟨_, rfl⟩
    rw [← hD] at HRN HA HHV ⊢
    have HNS : Hid (¬ (s.n < ill ∧ ill ≤ s.n + (FULL.length : Int))) := Lib.hid (by have := HA1.out; omega)
    have HPD : Hid (putW ill key val (FULL.drop N) ⟨s.S, s.n + FULL.length⟩ = D) := Lib.hid (by rw [show N = FULL.length - 1 by have := HNL.out; omega]; exact HHV)
    clear hL5 HHV ZS0 ZS1 ZS2 ZS3 ZS4 HW16 HK116 HK216 HKB16 HKE16 HKA16 HEG16 HSM16 HW11 HK111 HK211 HKB11 HKE11 HEG11 HSM11 HKG11 HKG16 HT15 hr15 lt15 hD hrow hLl hLs SX HSP SP CP CA HP10 ew i1 i2 HK1 HK2 HKB HKE HPW HS2 HST HW HVS
    obtain ⟨er, her⟩ : ∃ er : Int, er = (if D.2.isSome then 0 else 4) := ⟨_, rfl⟩
    rw [← her] at HRN ⊢
    have HER := Lib.hid her
    clear her hrn c0 f0 HW3 hV
    have j1 : (0 : Int) ≤ (N : Int) := by omega
    have j2 : (N : Int) ≤ (cap : Int) := by have := HCAP.out; omega
    have j3 : N ≤ cap := by have := HCAP.out; omega
    have j4 : ¬ cap = 0 := by have := HCAP.out; omega
    go_wp2_with fail
    refine (back_in W3 _ N cap).mono ?_
    rintro e w4 ⟨rfl, hw4⟩
    have hl4 : Later W3 w4 := by rw [hw4]; exact below_new _ _
    have kbs : Blk w4 W3.heap.size 81 #[.slice (some ⟨g, 0, none⟩) N cap] := by rw [hw4]; exact Blk.new _ _ _
    have hs4 : w4.heap.size = W3.heap.size + 1 := by rw [hw4, World.size_alloc]
    obtain ⟨bs, hbs⟩ : ∃ bs, bs = W3.heap.size := ⟨_, rfl⟩
    rw [← hbs] at kbs ⊢
    have hrn4 := HRN.out.later HB.out HKG.out.lt hl4
    have hgb : g < w4.heap.size := by
      have e : Blk w4 g 89 cur := hrn4.row.trans HKG.out
      exact e.lt
    have HBS := Lib.hid hbs
    have HKBS := Lib.hid kbs
    have HRN4 := Lib.hid hrn4
    have HGB := Lib.hid hgb
    have HS4 := Lib.hid hs4
    have HL4 := Lib.hid hl4
    have hrow4 := HRL.out.keep hrn4.row
    have HROW4 := Lib.hid hrow4
    obtain ⟨LN, hLN⟩ : ∃ LN, LN = L.take N := ⟨_, rfl⟩
    rw [← hLN] at HROW4
    have HLN := Lib.hid hLN
    have hn17 : N ≤ 4096 := by omega
    have HSTEP : Hid (∀ x, x < N → ∃ (pp : Pg) (pi : Nat) (A1 : Option Addr) (c1 : Nat) (A2 : Option Addr) (c2 : Nat) (A3 : Option Addr) (c3 : Nat), LN[x]? = some #[.bool pp.leaf, .slice A1 pp.keys.length c1, .slice A2 pp.vals.length c2, .slice A3 pp.kids.length c3, .int .i64 (pi : Nat)] ∧ FULL[x]? = some (pp, pi) ∧ PgA W2 A1 c1 A2 c2 A3 c3 pp) := Lib.hid fun x hx => by
      obtain ⟨y, hy⟩ : ∃ y, FULL[x]? = some y := ⟨_, List.getElem?_eq_getElem (by have := HNL.out; omega)⟩
      obtain ⟨pp, pi⟩ := y
      obtain ⟨c, hc⟩ : ∃ c, LN[x]? = some c := ⟨_, List.getElem?_eq_getElem (by have := HROW4.out.1; omega)⟩
      have hcL : L[x]? = some c := by rw [hLN, List.getElem?_take, if_pos hx] at hc; exact hc
      obtain ⟨A1, c1, A2, c2, A3, c3, rfl, hpa⟩ := HRX.out x c _ hcL hy
      exact ⟨pp, pi, A1, c1, A2, c2, A3, c3, hc, hy, hpa⟩
    have hws4 : w.heap.size ≤ w4.heap.size := hrn4.wr.size
    have HWS4 := Lib.hid hws4
    clear hl4 kbs hs4 hbs hrn4 hgb hw4 hrow4 hLN hws4
    go_wp2_with fail
    refine (wpIn_wide (n := 5)).1 ?_
    refine rangeFunc_down (F := Fence.wide) (fun a' k h => { tmps := ((a'.tmps.setIfInBounds 71 (.int .i64 ((N - 1 - k : Nat) : Int))).setIfInBounds 72 (.agg (LN[N - 1 - k]?.getD #[]))).setIfInBounds 14 (.pointer (some ⟨h, 0, none⟩)), defers := [] })
      (fun k h W => w4.heap.size ≤ h ∧ Blk W h 89 (LN[N - 1 - k]?.getD #[])) rfl (by omega)
      (gf := 63) (lb := #[.pointer (some ⟨bs, 0, none⟩)]) rfl trivial (enters_of Try.func63 (by kernel_rfl) rfl)
      (encs := fun k => #[.int .i64 ((N - 1 - k : Nat) : Int), .agg (LN[N - 1 - k]?.getD #[])]) (Kp := KpB bs g) (N := N)
      (fun l J Jx W hW hY h0 => back1_in Fence.wide (5 - 1) trivial rfl (by omega) l bs g N cap LN hn17 J Jx hY W (HKBS.out.below hW HKBS.out.lt) (HROW4.out.keep ((show Below _ _ _ from hW).block g HGB.out)) h0)
      (fun h k => ⟨k.1.trans h.1, k.2.trans h.2⟩)
      (fun W l o' hl => ⟨World.putObj_heap_other (by have := HKBS.out.lt; omega), World.putObj_heap_other (by have := HGB.out; omega)⟩)
      (fun _ => rfl)
      (fun k W => ∃ s' o er ax ay az au, putW ill key val (FULL.drop (N - k)) ⟨s.S, s.n + FULL.length⟩ = (s', o) ∧ er = (if o.isSome then 0 else 4) ∧ (∀ a, o = some a → #[Value.int .u64 ax, .bool ay, .string az, .int .u64 au] = addedC a) ∧ Rnd B b ill w W2 r1 r2 rb q r15 g 85 s' er #[.int .u64 ax, .bool ay, .string az, .int .u64 au] W ∧ Blk W bs 81 #[.slice (some ⟨g, 0, none⟩) N cap])
      (fun W => ∃ s', putW ill key val FULL ⟨s.S, s.n + FULL.length⟩ = (s', none) ∧ Wr B b ill s' w W ∧ W.cell? ⟨r1, 0, none⟩ = some (.int .u64 0) ∧ W.cell? ⟨r2, 0, none⟩ = some (.int .i64 4))
      ?hI ?hIx ?h0 ?hR ?assign ?body ?done ?stop
    case hI =>
      rintro k X Y row ⟨s', o, er, ax, ay, az, au, h1, h2, h3, h4, h5⟩ hg hr
      exact ⟨s', o, er, ax, ay, az, au, h1, h2, h3, h4.grown HB.out HKG.out hg (fun r e => ⟨by have := (hr r e).1; have := HWS4.out; omega, (hr r e).2⟩), h5.grown hg (blk_row h5 fun r e => (hr r e).2)⟩
    case hIx =>
      rintro X Y row ⟨s', h2, h3, h4, h5⟩ hg hr
      exact ⟨s', h2, h3.grown HB.out hg (fun r e => ⟨by have := (hr r e).1; have := HWS4.out; omega, (hr r e).2⟩), cell_kept h4 hg (fun r e => (hr r e).2), cell_kept h5 hg (fun r e => (hr r e).2)⟩
    case h0 =>
      exact ⟨D.1, D.2, er, ax, ay, az, au, HPD.out, HER.out, HA.out, HRN4.out, HKBS.out⟩
    case hR =>
      intro k h X Y row hs hg hr
      exact ⟨hs.1, hs.2.grown hg (blk_row hs.2 fun r e => (hr r e).2)⟩
    case assign =>
      rintro l k W K hI hkN hK
      obtain ⟨x, hx⟩ : ∃ x, x = N - 1 - k := ⟨_, rfl⟩
      rw [← hx] at hK ⊢
      obtain ⟨pp, pi, A1, c1, A2, c2, A3, c3, hc, hpx, hpa⟩ := HSTEP.out x (by omega)
      rw [hc, Option.getD_some] at hK ⊢
      obtain ⟨s', o, er, ax, ay, az, au, h1, h2, h3, h4, h5⟩ := hI
      have hlY : Later W (W.alloc (.cells #[.bool pp.leaf, .slice A1 pp.keys.length c1, .slice A2 pp.vals.length c2, .slice A3 pp.kids.length c3, .int .i64 (pi : Nat)] 89)) := below_new _ _
      have kg : Blk W g 89 cur := h4.row.trans HKG.out
      have hK' := hK W.heap.size _ ((KeepsOthers.alloc W _).from _) ⟨(show Below _ _ _ from hlY).block bs h5.lt, (show Below _ _ _ from hlY).block g kg.lt⟩
        ⟨s', o, er, ax, ay, az, au, h1, h2, h3, h4.later HB.out HKG.out.lt hlY, h5.below hlY h5.lt⟩ ⟨by have := h5.lt; have := HS4.out; have := HBS.out; omega, Blk.new W 89 #[.bool pp.leaf, .slice A1 pp.keys.length c1, .slice A2 pp.vals.length c2, .slice A3 pp.kids.length c3, .int .i64 (pi : Nat)]⟩
      dsimp only at hK' ⊢
      clear hc hpx hpa hK h1 h2 h3 h4 h5 hlY hx kg
      gi_wp2
      exact hK'
    case body =>
      rintro l k h W ⟨s', o, er, ax, ay, az, au, h1, h2, h3, h4, h5⟩ ⟨hh1, hh2⟩ hkN
      simp only [List.setIfInBounds_toArray, List.set_cons_succ, List.set_cons_zero]
      refine wpIn_block ?_
      have HI4 := Lib.hid h4
      have HI5 := Lib.hid h5
      have HI1 := Lib.hid h1
      have HH1 := Lib.hid hh1
      have HH2 := Lib.hid hh2
      have ce := h4.ke.c0
      cases o with
      | none =>
        replace h2 : er = 4 := h2
        subst h2
        have hpn := putW_none (N - k) (by have := HNL.out; omega) h1
        have HPN := Lib.hid hpn
        have HTW : Hid (Two s'.S) := Lib.hid (by have := Runs.two (s := ⟨s.S, s.n + FULL.length⟩) H2.out HR.out; rw [hpn] at this; exact this)
        clear h1 h3 h4 h5 hh1 hh2 hpn
        gi_wp2
        clear ce
        have HL0 := Lib.hid (Later.refl W)
        have ZF0 : Hid (∀ s, W.heap.size ≤ s → W.heap.size ≤ s) := Lib.hid (fun _ h => h)
        have ZS0 : Hid (∀ V, Later W V → ((fun V => V.cell? ⟨q, 0, none⟩ = some (.int .i64 4))) V) := Lib.hid (fun V hV => (HI4.out.ke.below hV HI4.out.ke.lt).c0)
        refine walk_startR 2 (S := (fun V => V.cell? ⟨q, 0, none⟩ = some (.int .i64 4))) (T := Later W) (by kernel_rfl) (fun r => W.heap.size ≤ r) (fun _ h => h.size) ZS0.out (closed_later _) (Later.refl _).drew (by kernel_rfl) (by rintro ⟨_, _, h⟩; exact h) ?_
        refine wt 0 75 ?_ (fun V hV => ?_) ?_
        rotate_left 1
        · (have ce := id hV; clear hV; go_simp; (try with_reducible rfl))
        try simp only [pa, List.set]
        refine walk_core 1 rfl (by kernel_rfl) (fun _ _ _ _ _ h => h) (fun V hV K hK => ?_)
        have hV0 := HL0.out.trans hV
        have hSV := ZS0.out V hV
        try simp only [List.getElem_toArray, List.getElem_cons_succ, List.getElem_cons_zero]
        have k1 := HI4.out.k1.below hV0 HI4.out.k1.lt
        have c1 := k1.c0
        have f1 := k1.frozen 0
        obtain ⟨x1, hx1⟩ : ∃ x1, x1 = V.setCell ⟨r1, 0, none⟩ (.int .u64 0) := ⟨_, rfl⟩
        go_simp
        rw [← hx1]
        have hsize : V.heap.size ≤ x1.heap.size := by rw [hx1]; simp [World.setCell]
        have hd1 : DKept (fun k => k = r1) V x1 := by rw [hx1]; exact (DKept.refl (S := fun k => k = r1)).set rfl
        have hkeep := fun (r : Nat) (hF : W.heap.size ≤ r) (hl : r < V.heap.size) => hd1.block r hl (fun e => by have := HI4.out.k1.lt; omega)
        have hS := fun V' (h : Later x1 V') => (show V'.cell? ⟨q, 0, none⟩ = some (.int .i64 4) from (((hd1.blk (HI4.out.ke.below hV0 HI4.out.ke.lt) nq1).below h (hd1.blk (HI4.out.ke.below hV0 HI4.out.ke.lt) nq1).lt)).c0)
        have HVX : Hid (∃ V, Later W V ∧ x1 = V.setCell ⟨r1, 0, none⟩ (.int .u64 0)) := Lib.hid ⟨V, hV0, hx1⟩
        clear k1 c1 f1 hx1 hd1
        have ZF1 : Hid (∀ s, x1.heap.size ≤ s → _) := Lib.hid (fun s h => ZF0.out s (Nat.le_trans hV.size (Nat.le_trans hsize h)))
        have ZS1 : Hid (∀ V, Later x1 V → ((fun V => V.cell? ⟨q, 0, none⟩ = some (.int .i64 4))) V) := Lib.hid hS
        refine hK.out _ _ ((fun V => V.cell? ⟨q, 0, none⟩ = some (.int .i64 4))) (Later x1) _ hkeep (fun _ h _ => h) (fun _ h => h) ZS1.out (fun V' h => ZF1.out _ h.size) (Later.refl _) (closed_later _) ?_
        clear hK K hV hsize hkeep hV0 hSV hS
        try simp only [Act.put]
        try simp only [pa, List.set]
        refine walk_exit (fun V hV => ?_)
        have hSV := ZS1.out V hV
        try simp only [pa, List.set]
        obtain ⟨V0, hV0, rfl⟩ := HVX.out
        have hw := (HI4.out.wr.later HB.out hV0).box HTW.out (HI4.out.k1.below hV0 HI4.out.k1.lt) (w' := V0.setCell ⟨r1, 0, none⟩ (.int .u64 0)) ((DKept.refl (S := fun k => k = r1)).set rfl) HQW.out.2.1 HB.out
        have q1 : Blk (V0.setCell ⟨r1, 0, none⟩ (.int .u64 0)) r1 27 #[.int .u64 0] := by have := (HI4.out.k1.below hV0 HI4.out.k1.lt).set_ 0 (.int .u64 0); simpa using this
        have q2 := (HI4.out.k2.below hV0 HI4.out.k2.lt).far (p := ⟨r1, 0, none⟩) n12.symm (.int .u64 0)
        have p1 := q1.below hV q1.lt
        have p2 := q2.below hV q2.lt
        have u := upd1 p2 0 (.int .i64 4)
        have hwV := (hw.later HB.out hV).upd u p2 far_err HQW.out.2.2 HB.out
        have hko : KeepsOthers W (V.setCell ⟨r2, 0, none⟩ (.int .i64 4)) := (((later_others hV0).trans (KeepsOthers.setCell V0 ⟨r1, 0, none⟩ (.int .u64 0))).trans (later_others hV)).trans (KeepsOthers.setCell V ⟨r2, 0, none⟩ (.int .i64 4))
        have c2 := p2.c0
        have f2 := p2.frozen 0
        have x1 := (u.far p1 n12).c0
        have x2 : (V.setCell ⟨r2, 0, none⟩ (.int .i64 4)).cell? ⟨r2, 0, none⟩ = some (.int .i64 4) := by
          have := u.blk
          have this : Blk (V.setCell ⟨r2, 0, none⟩ (.int .i64 4)) r2 28 #[.int .i64 4] := by simpa using this
          exact this.c0
        have FIN : Hid (KeepsOthers W (V.setCell ⟨r2, 0, none⟩ (.int .i64 4)) ∧ Wr B b ill s' w (V.setCell ⟨r2, 0, none⟩ (.int .i64 4)) ∧ (V.setCell ⟨r2, 0, none⟩ (.int .i64 4)).cell? ⟨r1, 0, none⟩ = some (.int .u64 0) ∧ (V.setCell ⟨r2, 0, none⟩ (.int .i64 4)).cell? ⟨r2, 0, none⟩ = some (.int .i64 4)) := Lib.hid ⟨hko, hwV, x1, x2⟩
        clear hw q1 q2 p1 p2 u hwV hko x1 x2 hV hV0 hSV
        refine wpAnyJ_one (i := 2) (by kernel_rfl) rfl (fun K hK => ?_)
        simp only [List.getElem_toArray, List.getElem_cons_succ, List.getElem_cons_zero]
        go_simp
        refine hK.out _ _ (fun h _ => absurd rfl h) ?_
        clear hK K
        try simp only [pa, List.set]
        refine wpAnyJ_done (by kernel_rfl) ?_ _
        gi_wp2
        exact ⟨FIN.out.1.from _, rfl, s', HPN.out, FIN.out.2⟩
      | some a =>
        replace h2 : er = 0 := h2
        subst h2
        obtain ⟨x, hx⟩ : ∃ x, x = N - 1 - k := ⟨_, rfl⟩
        rw [← hx] at HH2 ⊢
        obtain ⟨pp, pi, A1, pc1, A2, pc2, A3, pc3, hc, hpx, hpa⟩ := HSTEP.out x (by omega)
        rw [hc, Option.getD_some] at HH2 ⊢
        have hxk : N - k = x + 1 := by omega
        rw [hxk] at HI1
        obtain ⟨hplf, hpok, hpi, hputs, hpw⟩ := runs_at HR.out hpx (by have := HNL.out; omega) HI1.out
        have hfew := good_few hpok
        obtain ⟨hsv, hsk⟩ : pp.vals = [] ∧ pp.kids.length = pp.keys.length + 1 := by
          rcases good_shape hpok.good with ⟨e, _⟩ | ⟨_, e1, e2⟩
          · rw [hplf] at e; cases e
          · exact ⟨e1, e2⟩
        have hac := h3 _ rfl
        have hpaW := hpa.sm HI4.out.sm
        have HPA := Lib.hid hpaW
        have HPU := Lib.hid hputs
        have HPI : Hid (pi ≤ pp.keys.length ∧ pp.kids.length = pp.keys.length + 1 ∧ pp.keys.length ≤ 1000) := Lib.hid ⟨hpi, hsk, hfew.1⟩
        have HPW := Lib.hid hpw
        have HXK := Lib.hid hxk
        have HAC := Lib.hid hac
        have HXE := Lib.hid hx
        have SF : Hid (∀ V, Later W V → V.cell? ⟨h, 1, none⟩ = some (.slice A1 pp.keys.length pc1) ∧ V.cell? ⟨h, 3, none⟩ = some (.slice A3 pp.kids.length pc3)) := Lib.hid fun V hV => by
          have := HH2.out.below hV HH2.out.lt
          exact ⟨(this.cell 1).trans rfl, (this.cell 3).trans rfl⟩
        clear h1 h3 h4 h5 hh1 hh2 hc hpx hpa hxk hplf hpok hpi hputs hpw hfew hsv hsk hac hpaW hx
        generalize hm1 : pp.keys.length = m1 at *
        generalize hm3 : pp.kids.length = m3 at *
        have HM1 := Lib.hid hm1
        have HM3 := Lib.hid hm3
        clear hm1 hm3
        gi_wp2
        clear ce
        have HL0 := Lib.hid (Later.refl W)
        have ZF0 : Hid (∀ s, W.heap.size ≤ s → W.heap.size ≤ s) := Lib.hid (fun _ h => h)
        have ZS0 : Hid (∀ V, Later W V → (Later W) V) := Lib.hid (fun _ h => h)
        refine walk_startR 10 (S := Later W) (T := Later W) (by kernel_rfl) (fun r => W.heap.size ≤ r) (fun _ h => h.size) ZS0.out (closed_later _) (Later.refl _).drew (by kernel_rfl) (by rintro ⟨_, _, h⟩; exact h) ?_
        refine wt 0 76 ?_ (fun V hV => ?_) ?_
        rotate_left 1
        · (clear hV; go_simp; (try with_reducible rfl))
        try simp only [pa, List.set]
        refine wt 1 77 ?_ (fun V hV => ?_) ?_
        rotate_left 1
        · (clear hV; go_simp; (try with_reducible rfl))
        try simp only [pa, List.set]
        refine wt 2 78 ?_ (fun V hV => ?_) ?_
        rotate_left 1
        · (obtain ⟨z1, z3⟩ := SF.out V (HL0.out.trans hV); clear hV; go_simp; (try with_reducible rfl))
        try simp only [pa, List.set]
        refine wt 4 80 ?_ (fun V hV => ?_) ?_
        rotate_left 1
        · (clear hV; go_simp; (try with_reducible rfl))
        try simp only [pa, List.set]
        refine wt 5 81 ?_ (fun V hV => ?_) ?_
        rotate_left 1
        · (clear hV; go_simp; (try with_reducible rfl))
        try simp only [pa, List.set]
        refine wt 6 82 ?_ (fun V hV => ?_) ?_
        rotate_left 1
        · (obtain ⟨z1, z3⟩ := SF.out V (HL0.out.trans hV); clear hV; go_simp; (try with_reducible rfl))
        try simp only [pa, List.set]
        refine walk_pend ⟨9, 15, (.cells #[.bool false, .slice none 0 0, .slice none 0 0, .slice none 0 0] 54), fun r => .pointer (some ⟨r, 0, none⟩)⟩ ⟨_, rfl, rfl, rfl, fun W => ?_⟩ ?_
        · (go_simp; (try with_reducible rfl))
        refine walk_core 3 rfl (by kernel_rfl) (fun _ _ _ _ _ h => h) (fun V hV K hK => ?_)
        have hV0 := HL0.out.trans hV
        go_simp
        go_at_call 34
        rw [← HM1.out]
        refine (cloneS (HPA.out.k.smS (Sm.later hV0)) (by have := HPI.out; have := HM1.out; omega)).mono ?_
        rintro e x3 ⟨v3, rfl, ho3, hb⟩
        obtain ⟨E1, e1, rfl⟩ := own_shape ho3
        have HO3 : Hid (x3.ownsRow W.heap.size 9 1 (.slice E1 pp.keys.length e1) pp.keys.length (pp.keys.map Value.string)) := Lib.hid (own_base ho3 (show Below _ _ _ from hV0).size)
        clear ho3
        have HT3 := Lib.hid (hV.of hb)
        have HL1 := Lib.hid (hV0.of hb)
        have hsize := hb.size
        have hkeep := fun (r : Nat) (_ : True) (h : r < V.heap.size) => hb.block r h
        have ZF1 : Hid (∀ s, x3.heap.size ≤ s → _) := Lib.hid (fun s h => ZF0.out s (Nat.le_trans hV.size (Nat.le_trans hsize h)))
        refine hK.out _ _ (Later x3) (Later x3) _ (fun r _ h => hkeep r trivial h) (fun _ h _ => h) (fun V' h => (hV.of hb).trans h) (fun _ h => h) (fun V' h => ZF1.out _ h.size) (Later.refl _) (closed_later _) ?_
        clear hK K hV hsize hkeep hV0 hb
        try simp only [pa, List.set]
        refine walk_core 7 rfl (by kernel_rfl) (fun _ _ _ _ _ h => h) (fun V hV K hK => ?_)
        have hV0 := HL1.out.trans hV
        go_simp
        go_at_call 35
        rw [← HM3.out]
        refine (cloneN (HPA.out.n.smN (Sm.later hV0)) (by have := HPI.out; have := HM3.out; omega)).mono ?_
        rintro e x7 ⟨v7, rfl, ho7, hb⟩
        obtain ⟨E3, e3, rfl⟩ := own_shape ho7
        have HO7 : Hid (x7.ownsRow W.heap.size 27 1 (.slice E3 pp.kids.length e3) pp.kids.length (pp.kids.map (Value.int .u64))) := Lib.hid (own_base ho7 (show Below _ _ _ from hV0).size)
        clear ho7
        have HT7 := Lib.hid (hV.of hb)
        have HL2 := Lib.hid (hV0.of hb)
        have hsize := hb.size
        have hkeep := fun (r : Nat) (_ : True) (h : r < V.heap.size) => hb.block r h
        have ZF2 : Hid (∀ s, x7.heap.size ≤ s → _) := Lib.hid (fun s h => ZF1.out s (Nat.le_trans hV.size (Nat.le_trans hsize h)))
        refine hK.out _ _ (Later x7) (Later x7) _ (fun r _ h => hkeep r trivial h) (fun _ h _ => h) (fun V' h => (hV.of hb).trans h) (fun _ h => h) (fun V' h => ZF2.out _ h.size) (Later.refl _) (closed_later _) ?_
        clear hK K hV hsize hkeep hV0 hb
        try simp only [pa, List.set]
        refine wt 8 84 ?_ (fun V hV => ?_) ?_
        rotate_left 1
        · (clear hV; go_simp; (try with_reducible rfl))
        try simp only [pa, List.set]
        refine walk_force (by kernel_rfl) (by kernel_rfl) (by kernel_rfl) (by kernel_rfl) (fun r9 x9 hV hr9 hB9 => ?_)
        have lt9 : r9 < x9.heap.size := (Array.getElem?_eq_some_iff.1 hr9).1
        have HL3 := Lib.hid (HL2.out.trans hV)
        have ZF3 : Hid (∀ s, x9.heap.size ≤ s → _ ∧ s ≠ r9) := Lib.hid (fun s h => ⟨ZF2.out s (Nat.le_trans hV.size h), Nat.ne_of_gt (Nat.lt_of_lt_of_le lt9 h)⟩)
        refine ⟨Later x9, Later x9, Later.refl _, fun V' h => hV.trans h, fun _ h => h, fun V' h => ZF2.out _ (Nat.le_trans hV.size h.size), fun V' h => Nat.lt_of_lt_of_le lt9 h.size, closed_later _, ?_⟩
        try simp only [pa, List.set]
        have HT9 := Lib.hid hV
        clear hV
        refine walk_exit (fun V hV => ?_)
        have hV0 := HL3.out.trans hV
        try simp only [pa, List.set]
        have kr : Blk V r9 54 #[.bool false, .slice none 0 0, .slice none 0 0, .slice none 0 0] := Blk.below (show Blk x9 r9 _ _ from hr9) hV lt9
        have h7V : Later x7 V := HT9.out.trans hV
        have o1 := own_later HO3.out (HT7.out.trans h7V)
        have o3 := own_later HO7.out h7V
        obtain ⟨z0, z1, z2, z3⟩ := cells4 kr
        obtain ⟨f0, f1, f2, f3⟩ := frozen4 kr
        have u := upd4 kr (.bool false) (.slice E1 pp.keys.length e1) (.slice none 0 0) (.slice E3 pp.kids.length e3)
        obtain ⟨W5, hW5⟩ : ∃ W5, W5 = ((((V.setCell ⟨r9, 0, none⟩ (.bool false)).setCell ⟨r9, 1, none⟩ (.slice E1 pp.keys.length e1)).setCell ⟨r9, 2, none⟩ (.slice none 0 0)).setCell ⟨r9, 3, none⟩ (.slice E3 pp.kids.length e3)) := ⟨_, rfl⟩
        rw [← hW5] at u
        have hl5 : Later W W5 := u.below hV0 hB9 (Nat.le_refl _)
        have HP5 := Lib.hid u.blk
        have HO1 := Lib.hid (own_upd o1 u (own_blk o1 kr (by decide)))
        have o35 := own_upd o3 u (own_blk o3 kr (by decide))
        obtain ⟨g3, cs3, hE3, hg3, kg3, ⟨u3, hu3⟩, ho36⟩ := own_setN o35 (i := pi) (by have := HPI.out; have := HM3.out; omega) a.n
        subst hE3
        have HR9 : Hid (W.heap.size ≤ r9) := Lib.hid hB9
        have HL5 := Lib.hid hl5
        have HW5 := Lib.hid hW5
        have HO36 := Lib.hid ho36
        have HG3 := Lib.hid (And.intro hg3 kg3)
        have HU3 := Lib.hid hu3
        rw [HM1.out, HM3.out] at hW5 HW5 HP5
        clear hV hV0 kr h7V o1 o3 u hW5 hl5 o35 hg3 kg3 hu3 ho36
        rw [HM1.out, HM3.out]
        refine wpAnyJ_one (i := 10) (by kernel_rfl) rfl (fun K hK => ?_)
        simp only [List.getElem_toArray, List.getElem_cons_succ, List.getElem_cons_zero]
        go_simp
        refine hK.out _ _ (fun h _ => absurd rfl h) ?_
        clear hK K
        try simp only [pa, List.set]
        refine wpAnyJ_done (by kernel_rfl) ?_ _
        rw [← HW5.out]
        clear z0 z1 z2 z3 f0 f1 f2 f3
        obtain ⟨z0, z1, z2, z3⟩ := cells4 HP5.out
        have kh := HH2.out.below HL5.out HH2.out.lt
        have y4 : W5.cell? ⟨h, 4, none⟩ = some (.int .i64 (pi : Nat)) := (kh.cell 4).trans rfl
        have ka := HI4.out.ka.below HL5.out HI4.out.ka.lt
        rw [HAC.out] at ka
        unfold addedC at ka
        have a0 : W5.cell? ⟨r15, 0, none⟩ = some (.int .u64 a.n) := (ka.cell 0).trans rfl
        have fg := HG3.out.2.frozen pi
        have hu3 := HU3.out
        have b1 : (0 : Int) ≤ (pi : Int) := by omega
        have b2 : (pi : Int) < (m3 : Int) := by have := HPI.out; omega
        obtain ⟨W6, hW6⟩ : ∃ W6, W6 = W5.setCell ⟨g3, pi, none⟩ (.int .u64 a.n) := ⟨_, rfl⟩
        have HO36b : Hid (W6.ownsRow W.heap.size 27 1 (.slice (some ⟨g3, 0, none⟩) m3 e3) m3 ((pp.kids.set pi a.n).map (Value.int .u64))) := Lib.hid (by
          have := HO36.out
          rw [HM3.out, ← hW6] at this
          exact this)
        have hl6 : Later W W6 := by rw [hW6]; exact (HL5.out).setCell (p := ⟨g3, pi, none⟩) HG3.out.1 _
        have HL6 := Lib.hid hl6
        have n93 : r9 ≠ g3 := fun e => HP5.out.ne_ HG3.out.2 (by decide) e
        have HP6 : Hid (Blk W6 r9 54 #[.bool false, .slice E1 m1 e1, .slice none 0 0, .slice (some ⟨g3, 0, none⟩) m3 e3]) := Lib.hid (by rw [hW6]; exact HP5.out.far (p := ⟨g3, pi, none⟩) n93 _)
        have HO16 : Hid (W6.ownsRow W.heap.size 9 1 (.slice E1 m1 e1) m1 (pp.keys.map Value.string)) := Lib.hid (by
          have := own_far (p := ⟨g3, pi, none⟩) HO1.out (own_blk HO1.out HG3.out.2 (by decide)) (.int .u64 a.n)
          rw [HM1.out, ← hW6] at this
          exact this)
        have HW6 := Lib.hid hW6
        have a1 : W5.cell? ⟨r15, 1, none⟩ = some (.bool a.sp.isSome) := (ka.cell 1).trans rfl
        have a2 : W5.cell? ⟨r15, 2, none⟩ = some (.string (match a.sp with | some (k, _) => k | none => ⟨#[]⟩)) := (ka.cell 2).trans rfl
        have a3 : W5.cell? ⟨r15, 3, none⟩ = some (.int .u64 (match a.sp with | some (_, o) => o | none => 0)) := (ka.cell 3).trans rfl
        have kb5 := HI4.out.kb.below HL5.out HI4.out.kb.lt
        have crb := kb5.c0
        have nr3 : r15 ≠ g3 := fun e => ka.ne_ HG3.out.2 (by decide) e
        have nb3 : rb ≠ g3 := fun e => kb5.ne_ HG3.out.2 (by decide) e
        have nh3 : h ≠ g3 := fun e => kh.ne_ HG3.out.2 (by decide) e
        clear kh ka hW6 hl6 kb5
        obtain ⟨vW, hshW⟩ := HI4.out.wr.sh
        have HSHW := Lib.hid hshW
        clear hshW
        obtain ⟨an, asp⟩ := a
        dsimp only at *
        cases asp with
        | none =>
          have hupd : updP pp pi ⟨an, none⟩ = ⟨false, pp.keys, [], pp.kids.set pi an⟩ := rfl
          have CAD : Hid (Calls Try.prog 31 #[shV b, .agg #[.bool false, .slice E1 m1 e1, .slice none 0 0, .slice (some ⟨g3, 0, none⟩) m3 e3]] W6 (AddPost B b ill s' vW (updP pp pi ⟨an, none⟩) W6)) := Lib.hid (by
            have hp := HPU.out
            refine add_any (HSHW.out.later HL6.out) (by have := HB.out; have := HI4.out.wr.size; have := (show Below _ _ _ from HL6.out).size; omega) hp.n0 hp.n1 hp.len ?_ hp.ok
            rw [hupd]
            obtain ⟨X1, y1, e1', r1⟩ := Row.of_own (by have := HO16.out; rw [← HM1.out] at this; exact this)
            obtain ⟨X3, y3, e3', r3⟩ := Row.of_own (l := pp.kids.set pi an) (by have := HO36b.out; rw [List.length_set, HM3.out]; exact this)
            refine ⟨E1, e1, none, 0, some ⟨g3, 0, none⟩, e3, ?_, ?_, Row.nil _ _ (by unfold maxLen; omega), ?_⟩
            · unfold pgc; rw [List.length_set, HM1.out, HM3.out]; rfl
            · cases e1'; exact r1
            · rw [List.length_set, HM3.out] at e3'; cases e3'; exact r3)
          unfold shV at CAD
          gi_wp2
          rw [← HW6.out]
          refine ⟨trivial, (CallsIn.inRound l (callsIn_wide.2 CAD.out)).mono ?_⟩
          rintro e w7 ⟨⟨bx, bY, bz, bu, rfl, hb7⟩, hw7, _⟩
          have h7 := (HI4.out.later HB.out HKG.out.lt HL6.out).wrote HKG.out far_added hw7
          have ka7 := h7.ka
          obtain ⟨c0, c1, c2, c3⟩ := cells4 ka7
          obtain ⟨f0, f1, f2, f3⟩ := frozen4 ka7
          obtain ⟨D7, hD7⟩ : ∃ D7, D7 = halves ill s' (updP pp pi ⟨an, none⟩) := ⟨_, rfl⟩
          rw [← hD7] at hb7 hw7 ⊢
          obtain ⟨er7, her7⟩ : ∃ er7 : Int, er7 = (if D7.2.isSome then 0 else 4) := ⟨_, rfl⟩
          rw [← her7]
          have u8 := upd4 ka7 (.int .u64 bx) (.bool bY) (.string bz) (.int .u64 bu)
          obtain ⟨W8, hW8⟩ : ∃ W8, W8 = ((((w7.setCell ⟨r15, 0, none⟩ (.int .u64 bx)).setCell ⟨r15, 1, none⟩ (.bool bY)).setCell ⟨r15, 2, none⟩ (.string bz)).setCell ⟨r15, 3, none⟩ (.int .u64 bu)) := ⟨_, rfl⟩
          rw [← hW8] at u8
          have hq8 := u8.far h7.ke HN6.out.2.2.2.1
          have u9 := upd1 hq8 0 (.int .i64 er7)
          obtain ⟨W9, hW9⟩ : ∃ W9, W9 = W8.setCell ⟨q, 0, none⟩ (.int .i64 er7) := ⟨_, rfl⟩
          rw [← hW9] at u9
          have HT := Lib.hid (HI4.out.tail HB.out HKG.out far_added (by decide) HL6.out hw7 HI5.out u8 (er' := er7) (by simpa using u9) HRA.out.1 HQW.out.1 HRA.out.2 HN6.out)
          have cq := h7.ke.c0
          have fq := h7.ke.frozen 0
          have nqr := HN6.out.2.2.2.1
          have HB7 := Lib.hid hb7
          have HE7 := Lib.hid her7
          have HD7 := Lib.hid hD7
          have HW8 := Lib.hid hW8
          have HW9 := Lib.hid hW9
          clear h7 ka7 hb7 hw7 hD7 her7 u8 hW8 hq8 u9 hW9
          gi_wp2
          rw [← HW8.out, ← HW9.out]
          refine ⟨HT.out.2.oth.from _, HT.out.2.kp, D7.1, D7.2, er7, bx, bY, bz, bu, ?_, HE7.out, HB7.out, HT.out.1, HT.out.2.kbs⟩
          rw [show N - (k + 1) = x by have := HXK.out; omega, HPW.out, HD7.out]
        | some ko =>
          obtain ⟨kk, oo⟩ := ko
          dsimp only at *
          obtain ⟨W7, hW7⟩ : ∃ W7, W7 = W6.alloc (.cells #[.string kk] 9) := ⟨_, rfl⟩
          have hl67 : Later W6 W7 := by rw [hW7]; exact below_new _ _
          have hs6 : W6.heap.size = W5.heap.size := by rw [HW6.out]; simp [World.setCell]
          have hl7 : Later W W7 := HL6.out.trans hl67
          have CI1 : Hid (Calls Try.prog 36 #[.slice E1 m1 e1, .int .i64 (pi : Int), .slice (some ⟨W5.heap.size, 0, none⟩) 1 1] W7 (RowL Value.string W.heap.size 9 W7 (.slice E1 m1 e1) (pp.keys.take pi ++ [kk] ++ pp.keys.drop pi))) := Lib.hid (by
            have ho := own_later HO16.out hl67
            have hne : (Value.slice E1 m1 e1).ownBlock ≠ some W5.heap.size := fun e => by have := (HO16.out.lt _ e).2; omega
            rw [← HM1.out] at ho hne ⊢
            exact insLS kk ho (show Below _ _ _ from hl7).size (by have := HPI.out; have := HM1.out; omega) (by have := HPI.out; have := HM1.out; omega) (by rw [hW7, ← hs6]; exact Blk.new _ _ _) hne)
          have HW7 := Lib.hid hW7
          have HL7 := Lib.hid hl7
          have HL67 := Lib.hid hl67
          clear hW7 hl67 hs6 hl7
          gi_wp2
          rw [← HW6.out, ← HW7.out]
          refine ⟨trivial, (CallsIn.inRound l (callsIn_wide.2 CI1.out)).mono ?_⟩
          rintro e w8 ⟨A8, c8, rfl, ho8, hk8, hn8⟩
          have hle : (pp.keys.take pi ++ [kk] ++ pp.keys.drop pi).length = m1 + 1 := by
            have := HPI.out; have := HM1.out
            simp only [List.length_append, List.length_take, List.length_drop, List.length_singleton]; omega
          rw [hle] at ho8 hn8 ⊢
          have ho16 := own_later HO16.out HL67.out
          have ho36 := own_later HO36b.out HL67.out
          have hl8 : Later W w8 := (show Below W.heap.size W W7 from HL7.out).trans (hk8.below (show Below _ _ _ from HL7.out).size fun i hi => (HO16.out.lt i hi).1)
          have p7 := HP6.out.below HL67.out HP6.out.lt
          have p8 := hk8.blk p7 (fun e => own_blk ho16 p7 (by decide) e)
          have o38 := own_kept ho36 hk8 (fun gg hg e => own_ne ho16 ho36 (by decide) e hg)
          have u9 := upd1 p8 1 (.slice A8 (m1 + 1) c8)
          obtain ⟨W9, hW9⟩ : ∃ W9, W9 = w8.setCell ⟨r9, 1, none⟩ (.slice A8 (m1 + 1) c8) := ⟨_, rfl⟩
          rw [← hW9] at u9
          have p9 : Blk W9 r9 54 #[.bool false, .slice A8 (m1 + 1) c8, .slice none 0 0, .slice (some ⟨g3, 0, none⟩) m3 e3] := by simpa using u9.blk
          have o19 := own_upd ho8 u9 (own_blk ho8 p8 (by decide))
          have o39 := own_upd o38 u9 (own_blk o38 p8 (by decide))
          have hl9 : Later W W9 := u9.below hl8 HR9.out (Nat.le_refl _)
          have hs9 : W9.heap.size = w8.heap.size := u9.size
          obtain ⟨W10, hW10⟩ : ∃ W10, W10 = W9.alloc (.cells #[.int .u64 oo] 27) := ⟨_, rfl⟩
          have hl910 : Later W9 W10 := by rw [hW10]; exact below_new _ _
          have CI2 : Hid (Calls Try.prog 37 #[.slice (some ⟨g3, 0, none⟩) m3 e3, .int .i64 ((pi : Int) + 1), .slice (some ⟨w8.heap.size, 0, none⟩) 1 1] W10 (RowL (Value.int .u64) W.heap.size 27 W10 (.slice (some ⟨g3, 0, none⟩) m3 e3) ((pp.kids.set pi an).take (pi + 1) ++ [oo] ++ (pp.kids.set pi an).drop (pi + 1)))) := Lib.hid (by
            have ho := own_later o39 hl910
            have hne : (Value.slice (some ⟨g3, 0, none⟩) m3 e3).ownBlock ≠ some w8.heap.size := fun e => by have := (o39.lt _ e).2; omega
            have hlk : (pp.kids.set pi an).length = m3 := by rw [List.length_set]; exact HM3.out
            have := insLN (w := W10) (B := W.heap.size) (A := some ⟨g3, 0, none⟩) (c := e3) (i := pi + 1) (k := w8.heap.size) (l := pp.kids.set pi an) oo (by rw [hlk]; exact ho) (show Below _ _ _ from hl9.trans hl910).size (by have := HPI.out; omega) (by have := HPI.out; omega) (by rw [hW10, ← hs9]; exact Blk.new _ _ _) (by rw [hlk]; exact hne)
            rw [hlk] at this
            simpa only [Int.natCast_add, Int.natCast_one] using this)
          have kh8 := HH2.out.below hl8 HH2.out.lt
          have ka8 := HI4.out.ka.below hl8 HI4.out.ka.lt
          rw [HAC.out] at ka8
          unfold addedC at ka8
          have y48 : w8.cell? ⟨h, 4, none⟩ = some (.int .i64 (pi : Nat)) := (kh8.cell 4).trans rfl
          have a38 : w8.cell? ⟨r15, 3, none⟩ = some (.int .u64 oo) := (ka8.cell 3).trans rfl
          obtain ⟨s0, s1, s2, s3⟩ := cells4 p8
          have t1 := p8.frozen 1
          have nh9 : h ≠ r9 := fun e => kh8.ne_ p8 (by decide) e
          have nr9 : r15 ≠ r9 := fun e => ka8.ne_ p8 (by decide) e
          have ewp : IntKind.i64.wrap ((pi : Int) + 1) = (pi : Int) + 1 := IntWalk.i64_in _ (by have := HPI.out; omega)
          have HP9 := Lib.hid p9
          have HO19 := Lib.hid o19
          have HO39 := Lib.hid o39
          have HL9 := Lib.hid hl9
          have HW9 := Lib.hid hW9
          have HW10 := Lib.hid hW10
          have HL910 := Lib.hid hl910
          have HLE := Lib.hid hle
          clear ho8 hk8 hn8 hle ho16 ho36 hl8 p7 p8 o38 u9 hW9 p9 o19 o39 hl9 hs9 hW10 hl910 kh8 ka8 CI1
          clear z0 z1 z2 z3 y4 a0 a1 a2 a3 fg hu3 crb
          gi_wp2
          rw [← HW9.out, ← HW10.out]
          refine ⟨trivial, (CallsIn.inRound l (callsIn_wide.2 CI2.out)).mono ?_⟩
          rintro e w11 ⟨A11, c11, rfl, ho11, hk11, hn11⟩
          have hle : ((pp.kids.set pi an).take (pi + 1) ++ [oo] ++ (pp.kids.set pi an).drop (pi + 1)).length = m3 + 1 := by
            have := HPI.out; have := HM3.out
            simp only [List.length_append, List.length_take, List.length_drop, List.length_singleton, List.length_set]; omega
          rw [hle] at ho11 hn11 ⊢
          have ho19 := own_later HO19.out HL910.out
          have ho39 := own_later HO39.out HL910.out
          have hl10 : Later W W10 := HL9.out.trans HL910.out
          have hl11 : Later W w11 := (show Below W.heap.size W W10 from hl10).trans (hk11.below (show Below _ _ _ from hl10).size fun i hi => (HO39.out.lt i hi).1)
          have p10 := HP9.out.below HL910.out HP9.out.lt
          have p11 := hk11.blk p10 (fun e => own_blk ho39 p10 (by decide) e)
          have o111 := own_kept ho19 hk11 (fun gg hg e => own_ne ho19 ho39 (by decide) hg e)
          have u12 := upd1 p11 3 (.slice A11 (m3 + 1) c11)
          obtain ⟨W12, hW12⟩ : ∃ W12, W12 = w11.setCell ⟨r9, 3, none⟩ (.slice A11 (m3 + 1) c11) := ⟨_, rfl⟩
          rw [← hW12] at u12
          have o112 := own_upd o111 u12 (own_blk o111 p11 (by decide))
          have o312 := own_upd ho11 u12 (own_blk ho11 p11 (by decide))
          have hl12 : Later W W12 := u12.below hl11 HR9.out (Nat.le_refl _)
          have hupd : updP pp pi ⟨an, some (kk, oo)⟩ = ⟨false, pp.keys.take pi ++ [kk] ++ pp.keys.drop pi, [], (pp.kids.set pi an).take (pi + 1) ++ [oo] ++ (pp.kids.set pi an).drop (pi + 1)⟩ := rfl
          have CAD : Hid (Calls Try.prog 31 #[shV b, .agg #[.bool false, .slice A8 (m1 + 1) c8, .slice none 0 0, .slice A11 (m3 + 1) c11]] W12 (AddPost B b ill s' vW (updP pp pi ⟨an, some (kk, oo)⟩) W12)) := Lib.hid (by
            have hp := HPU.out
            refine add_any (HSHW.out.later hl12) (by have := HB.out; have := HI4.out.wr.size; have := (show Below _ _ _ from hl12).size; omega) hp.n0 hp.n1 hp.len ?_ hp.ok
            rw [hupd]
            obtain ⟨X1, y1, e1', r1⟩ := Row.of_own (l := pp.keys.take pi ++ [kk] ++ pp.keys.drop pi) (by rw [HLE.out]; exact o112)
            obtain ⟨X3, y3, e3', r3⟩ := Row.of_own (l := (pp.kids.set pi an).take (pi + 1) ++ [oo] ++ (pp.kids.set pi an).drop (pi + 1)) (by rw [hle]; exact o312)
            refine ⟨A8, c8, none, 0, A11, c11, ?_, ?_, Row.nil _ _ (by unfold maxLen; omega), ?_⟩
            · unfold pgc; dsimp only; rw [HLE.out, hle]; rfl
            · rw [HLE.out] at e1'; cases e1'; exact r1
            · rw [hle] at e3'; cases e3'; exact r3)
          unfold shV at CAD
          obtain ⟨s0, s1, s2, s3⟩ := cells4 p11
          have t3 := p11.frozen 3
          have kb11 := HI4.out.kb.below hl11 HI4.out.kb.lt
          have crb := kb11.c0
          have nb9 : rb ≠ r9 := fun e => kb11.ne_ p11 (by decide) e
          have HL12 := Lib.hid hl12
          have HW12 := Lib.hid hW12
          clear ho11 hk11 hn11 hle ho19 ho39 hl10 hl11 p10 p11 o111 u12 hW12 o112 o312 hl12 hupd kb11 CI2
          gi_wp2
          rw [← HW12.out]
          refine ⟨trivial, (CallsIn.inRound l (callsIn_wide.2 CAD.out)).mono ?_⟩
          rintro e w7 ⟨⟨bx, bY, bz, bu, rfl, hb7⟩, hw7, _⟩
          have h7 := (HI4.out.later HB.out HKG.out.lt HL12.out).wrote HKG.out far_added hw7
          have ka7 := h7.ka
          obtain ⟨c0, c1, c2, c3⟩ := cells4 ka7
          obtain ⟨f0, f1, f2, f3⟩ := frozen4 ka7
          obtain ⟨D7, hD7⟩ : ∃ D7, D7 = halves ill s' (updP pp pi ⟨an, some (kk, oo)⟩) := ⟨_, rfl⟩
          rw [← hD7] at hb7 hw7 ⊢
          obtain ⟨er7, her7⟩ : ∃ er7 : Int, er7 = (if D7.2.isSome then 0 else 4) := ⟨_, rfl⟩
          rw [← her7]
          have u8 := upd4 ka7 (.int .u64 bx) (.bool bY) (.string bz) (.int .u64 bu)
          obtain ⟨W8, hW8⟩ : ∃ W8, W8 = ((((w7.setCell ⟨r15, 0, none⟩ (.int .u64 bx)).setCell ⟨r15, 1, none⟩ (.bool bY)).setCell ⟨r15, 2, none⟩ (.string bz)).setCell ⟨r15, 3, none⟩ (.int .u64 bu)) := ⟨_, rfl⟩
          rw [← hW8] at u8
          have hq8 := u8.far h7.ke HN6.out.2.2.2.1
          have u9 := upd1 hq8 0 (.int .i64 er7)
          obtain ⟨W9, hW9⟩ : ∃ W9, W9 = W8.setCell ⟨q, 0, none⟩ (.int .i64 er7) := ⟨_, rfl⟩
          rw [← hW9] at u9
          have HT := Lib.hid (HI4.out.tail HB.out HKG.out far_added (by decide) HL12.out hw7 HI5.out u8 (er' := er7) (by simpa using u9) HRA.out.1 HQW.out.1 HRA.out.2 HN6.out)
          have cq := h7.ke.c0
          have fq := h7.ke.frozen 0
          have nqr := HN6.out.2.2.2.1
          have HB7 := Lib.hid hb7
          have HE7 := Lib.hid her7
          have HD7 := Lib.hid hD7
          have HW8 := Lib.hid hW8
          have HW9 := Lib.hid hW9
          clear h7 ka7 hb7 hw7 hD7 her7 u8 hW8 hq8 u9 hW9
          gi_wp2
          rw [← HW8.out, ← HW9.out]
          refine ⟨HT.out.2.oth.from _, HT.out.2.kp, D7.1, D7.2, er7, bx, bY, bz, bu, ?_, HE7.out, HB7.out, HT.out.1, HT.out.2.kbs⟩
          rw [show N - (k + 1) = x by have := HXK.out; omega, HPW.out, HD7.out]
    case done =>
      rintro DD W hD ⟨s', o, er, ax, ay, az, au, h1, h2, h3, h4, h5⟩ hDD
      rw [Nat.sub_self, List.drop_zero] at h1
      have hns := HNS.out
      have HDD := Lib.hid hDD
      have HDW : Hid (w.heap.size ≤ DD) := Lib.hid (by have := HWS4.out; omega)
      have HTW : Hid (Two s'.S) := Lib.hid (by have := Runs.two (s := ⟨s.S, s.n + FULL.length⟩) H2.out HR.out; rw [h1] at this; exact this)
      have HRNW := Lib.hid h4
      have k1 := h4.k1
      have k2 := h4.k2
      have k3 := h4.ke
      have ce := k3.c0
      have c1 := k1.c0
      have c2 := k2.c0
      have f1 := k1.frozen 0
      have f2 := k2.frozen 0
      have g3 := n12
      have g4 := nq1
      have g5 := nq2
      have hdn : DD ≠ r1 ∧ DD ≠ r2 := ⟨fun e => (by
        rw [e] at hDD
        have := hDD.symm.trans k1; cases this), fun e => (by
        rw [e] at hDD
        have := hDD.symm.trans k2; cases this)⟩
      cases o with
      | none =>
        replace h2 : er = 4 := h2
        subst h2
        have hput : putT ill key val root FULL s = (s', 0, 4) := by
          unfold putT; rw [if_neg HROOT.out, if_neg hns, h1]
        have HPUT := Lib.hid hput
        clear h1 h3 h4 h5 hns k1 k2 k3 hput hDD
        go_wp2_with fail
        go_region
        go_wp2_with fail
        obtain ⟨d0, hw, y1, y2⟩ := exit_defer HRNW.out.wr HTW.out HRNW.out.k1 HRNW.out.k2 HQW.out.2.1 HQW.out.2.2 HB.out HDW.out HDD.out (later_drewN _ 1)
        refine ⟨by simp, .inl ⟨_, _, rfl, run_takeDeferred d0, ?_⟩⟩
        refine ⟨_, results_put _ _ r1 r2 0 4 rfl rfl y1 y2, ?_⟩
        rw [HPUT.out]
        exact ⟨rfl, hw⟩
      | some a =>
        replace h2 : er = 0 := h2
        subst h2
        obtain ⟨an, asp⟩ := a
        have hac := h3 _ rfl
        obtain ⟨jn0, jn1, jln⟩ := HJ.out s' _ h1
        have q := h4.ka
        rw [hac] at q
        unfold addedC at q
        cases asp with
        | none =>
          obtain ⟨q0, q1, q2, q3⟩ := cells4 q
          dsimp only at q0 q1 q2 q3
          have hput : putT ill key val root FULL s = (s', an, 0) := by
            unfold putT; rw [if_neg HROOT.out, if_neg hns, h1]
          have HPUT := Lib.hid hput
          clear h1 h3 h4 h5 hns k1 k2 k3 hput hDD hac q
          go_wp2_with fail
          obtain ⟨d0, hw, y1, y2⟩ := exit_defer HRNW.out.wr HTW.out HRNW.out.k1 HRNW.out.k2 HQW.out.2.1 HQW.out.2.2 HB.out HDW.out HDD.out (Below.refl _ _)
          refine ⟨by simp, .inl ⟨_, _, rfl, run_takeDeferred d0, ?_⟩⟩
          refine ⟨_, results_put _ _ r1 r2 an 0 rfl rfl y1 y2, ?_⟩
          rw [HPUT.out]
          exact ⟨rfl, hw⟩
        | some ko =>
          obtain ⟨kk, oo⟩ := ko
          obtain ⟨q0, q1, q2, q3⟩ := cells4 q
          dsimp only at q0 q1 q2 q3
          obtain ⟨vW, hshW⟩ := HRNW.out.wr.sh
          obtain ⟨W6, hW6⟩ : ∃ W6, W6 = (W.alloc (.cells #[.string kk] 9)).alloc (.cells #[.int .u64 an, .int .u64 oo] 27) := ⟨_, rfl⟩
          have hl6 : Later W W6 := by rw [hW6]; exact (below_new _ _).alloc (by simp) _
          have p1 : Blk W6 W.heap.size 9 #[.string kk] := by rw [hW6]; exact (Blk.new _ _ _).alloc _
          have p2 : Blk W6 (W.heap.size + 1) 27 #[.int .u64 an, .int .u64 oo] := by
            rw [hW6]
            have := Blk.new (W.alloc (.cells #[.string kk] 9)) 27 #[.int .u64 an, .int .u64 oo]
            rwa [World.size_alloc] at this
          have hpv : PgV W6 #[.bool false, .slice (some ⟨W.heap.size, 0, none⟩) 1 1, .slice none 0 0, .slice (some ⟨W.heap.size + 1, 0, none⟩) 2 2] (rootP kk an oo) := ⟨_, _, none, 0, _, _, rfl, ⟨Nat.le_refl _, by unfold maxLen; omega, fun _ => ⟨_, 0, _, rfl, p1, fun j x hx => by
              match j, hx with
              | 0, hx => cases hx; rfl
              | j + 1, hx => simp [rootP] at hx⟩⟩, Row.nil _ _ (by unfold maxLen; omega), ⟨Nat.le_refl _, by unfold maxLen; omega, fun _ => ⟨_, 0, _, rfl, p2, fun j x hx => by
              match j, hx with
              | 0, hx => cases hx; rfl
              | 1, hx => cases hx; rfl
              | j + 2, hx => simp [rootP] at hx⟩⟩⟩
          have hs6 := hshW.later hl6
          have hBW : B ≤ W6.heap.size := by have := HB.out; have := HRNW.out.wr.size; have := (show Below _ _ _ from hl6).size; omega
          have HADD := Lib.hid (shAdd_any hs6 hBW jn0 (by omega) (by omega) hpv)
          have HS6 := Lib.hid hs6
          have HBW := Lib.hid hBW
          have HL6 := Lib.hid hl6
          have HW6 := Lib.hid hW6
          have hput : putT ill key val root FULL s = ((addS ill s' (rootP kk an oo)).1, (addS ill s' (rootP kk an oo)).2.getD 0, if (addS ill s' (rootP kk an oo)).2.isSome then 0 else 4) := by
            unfold putT; rw [if_neg HROOT.out, if_neg hns, h1]
            dsimp only
            generalize addS ill s' (rootP kk an oo) = z
            obtain ⟨z1, z2⟩ := z
            cases z2 <;> rfl
          have HPUT := Lib.hid hput
          have cb := h4.kb.c0
          have q0a : (W.alloc (.cells #[.string kk] 9)).cell? ⟨r15, 0, none⟩ = some (.int .u64 an) := (World.cell?_alloc_lt W _ ⟨r15, 0, none⟩ (World.block_lt_of_cell? _ _ q0)).trans q0
          have q3a : (W.alloc (.cells #[.string kk] 9)).cell? ⟨r15, 3, none⟩ = some (.int .u64 oo) := (World.cell?_alloc_lt W _ ⟨r15, 3, none⟩ (World.block_lt_of_cell? _ _ q3)).trans q3
          have hmet := fun w => method_add ⟨b, 0, none⟩ w
          clear h1 h3 h4 h5 k1 k2 k3 hDD hac q hl6 p1 p2 hpv hs6 hBW hput hns hW6 hshW c1 c2 f1 f2
          go_upto_region 22 with fail
          go_wp2_with fail
          rw [← HW6.out]
          refine HADD.out.mono ?_
          rintro e w7 hsa
          have hw7 := (show ShAdd B b ill s' vW (rootP kk an oo) W6 e w7 from hsa).wr HS6.out HBW.out
          obtain ⟨v', he, _⟩ := hsa
          subst he
          have hl6 := HL6.out
          have hwr := (HRNW.out.wr.later HB.out hl6).trans hw7
          have k1 := (hw7.sm _ _).2 (HRNW.out.k1.below hl6 HRNW.out.k1.lt)
          have k2 := hw7.far _ _ _ far_err (HRNW.out.k2.below hl6 HRNW.out.k2.lt)
          have hdd := hw7.oth.same _ _ (((show Below _ _ _ from hl6).block DD (Array.getElem?_eq_some_iff.1 HDD.out).1).trans HDD.out) rfl
          have htw : Two (addS ill s' (rootP kk an oo)).1.S := two_addS HTW.out (by simp [rootP])
          have c1 := k1.c0
          have c2 := k2.c0
          have f1 := k1.frozen 0
          have f2 := k2.frozen 0
          have FIN : Hid (∀ X, Later ((w7.setCell ⟨r1, 0, none⟩ (.int .u64 ((addS ill s' (rootP kk an oo)).2.getD 0))).setCell ⟨r2, 0, none⟩ (.int .i64 (if (addS ill s' (rootP kk an oo)).2.isSome then 0 else 4))) X → X.heap[DD]? = some (.deferred (some [])) ∧ Wr B b ill (addS ill s' (rootP kk an oo)).1 w (X.putObj DD (.deferred none)) ∧ (X.putObj DD (.deferred none)).cell? ⟨r1, 0, none⟩ = some (.int .u64 ((addS ill s' (rootP kk an oo)).2.getD 0)) ∧ (X.putObj DD (.deferred none)).cell? ⟨r2, 0, none⟩ = some (.int .i64 (if (addS ill s' (rootP kk an oo)).2.isSome then 0 else 4))) := Lib.hid fun X hX => exit_defer hwr htw k1 k2 HQW.out.2.1 HQW.out.2.2 HB.out HDW.out hdd hX
          generalize (addS ill s' (rootP kk an oo)).2.getD 0 = rn at *
          generalize (if (addS ill s' (rootP kk an oo)).2.isSome then (0 : Int) else 4) = re at *
          clear hw7 hl6 hwr k1 k2 hdd htw
          go_wp2_with fail
          obtain ⟨d0, hw, y1, y2⟩ := FIN.out _ (Below.refl _ _)
          refine ⟨by simp, .inl ⟨_, _, rfl, run_takeDeferred d0, ?_⟩⟩
          refine ⟨_, results_put _ _ r1 r2 rn re rfl rfl y1 y2, ?_⟩
          rw [HPUT.out]
          exact ⟨rfl, hw⟩
    case stop =>
      rintro DD W hD ⟨s', h2, h3, h4, h5⟩ hDD
      have hput : putT ill key val root FULL s = (s', 0, 4) := by
        unfold putT; rw [if_neg HROOT.out, if_neg HNS.out, h2]
      have HPUT := Lib.hid hput
      have H3 := Lib.hid h3
      have HDW : Hid (w.heap.size ≤ DD) := Lib.hid (by have := HWS4.out; omega)
      clear hput h2 h3
      gi_wp2
      refine ⟨by simp, .inl ⟨_, _, rfl, run_takeDeferred hDD, ?_⟩⟩
      have hg := grownBy_putObj' W DD (.deferred none)
      have hr : ∀ r, some DD = some r → ∃ o : Obj, W.heap[r]? = some o ∧ o.isCells = false := fun r e => by cases e; exact ⟨_, hDD, rfl⟩
      refine ⟨_, results_put _ _ r1 r2 0 4 rfl rfl (cell_kept h4 hg hr) (cell_kept h5 hg hr), ?_⟩
      rw [HPUT.out]
      exact ⟨rfl, H3.out.grown HB.out hg fun r e => ⟨by cases e; exact HDW.out, hr r e⟩⟩
end Go.Proofs.Ytafeddjcomeniaa
end

/- tree.Put at no root: a leaf of one item. Conditions: the shelf lies in memory. -/
section
namespace Go.Proofs.Ytafeddjcomeniaa
open Go.RowKit
set_option linter.unusedVariables false
set_option linter.unusedSimpArgs false

set_option maxRecDepth 100000 in
set_option maxHeartbeats 8000000 in
theorem putT_none {B b : Nat} {w : World} {ill : Int} {s : Sh} {v : Value} {key val : ByteArray} (h : ShAt B w b ill s v) (hB : B ≤ w.heap.size) (hn : 0 ≤ s.n) (hn2 : s.n < 100000000) (hl : s.S.length ≤ 90000) (h2 : Two s.S) (hk : keyFit key) (hv : val.size ≤ 400) {rn re : Int} (hrn : rn = (addS ill s ⟨true, [key], [val], []⟩).2.getD 0) (hre : re = (if (addS ill s ⟨true, [key], [val], []⟩).2.isSome then 0 else 4)) :
    Calls Try.prog 10 #[shV b, .int .u64 0, .string key, .string val] w fun e w' => TPost B b ill (addS ill s ⟨true, [key], [val], []⟩).1 rn re w e w' := by
  obtain ⟨W0, hW0⟩ : ∃ W0, W0 = ((w.alloc (.cells #[.iface 23 (.pointer (some ⟨b, 0, none⟩))] 79)).alloc (.cells #[.int .u64 0] 27)).alloc (.cells #[.int .i64 0] 28) := ⟨_, rfl⟩
  have hb0 : Later w W0 := by rw [hW0]; exact ((below_new _ _).alloc (by simp) _).alloc (by rw [World.size_alloc, World.size_alloc]; omega) _
  have hs0 : W0.heap.size = w.heap.size + 3 := by rw [hW0]; simp
  have kb : Blk W0 w.heap.size 79 #[.iface 23 (.pointer (some ⟨b, 0, none⟩))] := by rw [hW0]; exact ((Blk.new _ _ _).alloc _).alloc _
  have k1 : Blk W0 (w.heap.size + 1) 27 #[.int .u64 0] := by
    rw [hW0]
    have := Blk.new (w.alloc (.cells #[.iface 23 (.pointer (some ⟨b, 0, none⟩))] 79)) 27 #[.int .u64 0]
    rw [World.size_alloc] at this
    exact this.alloc _
  have k2 : Blk W0 (w.heap.size + 1 + 1) 28 #[.int .i64 0] := by
    rw [hW0]
    have := Blk.new ((w.alloc (.cells #[.iface 23 (.pointer (some ⟨b, 0, none⟩))] 79)).alloc (.cells #[.int .u64 0] 27)) 28 #[.int .i64 0]
    rwa [World.size_alloc, World.size_alloc] at this
  obtain ⟨W1, hW1⟩ : ∃ W1, W1 = (W0.alloc (.cells #[.string key] 9)).alloc (.cells #[.string val] 9) := ⟨_, rfl⟩
  have hl1 : Later W0 W1 := by rw [hW1]; exact (below_new _ _).alloc (by simp) _
  have p1 : Blk W1 W0.heap.size 9 #[.string key] := by rw [hW1]; exact (Blk.new _ _ _).alloc _
  have p2 : Blk W1 (W0.heap.size + 1) 9 #[.string val] := by
    rw [hW1]
    have := Blk.new (W0.alloc (.cells #[.string key] 9)) 9 #[.string val]
    rwa [World.size_alloc] at this
  have hpv : PgV W1 #[.bool true, .slice (some ⟨W0.heap.size, 0, none⟩) 1 1, .slice (some ⟨W0.heap.size + 1, 0, none⟩) 1 1, .slice none 0 0] ⟨true, [key], [val], []⟩ := ⟨_, _, _, _, none, 0, rfl, ⟨Nat.le_refl _, by unfold maxLen; omega, fun _ => ⟨_, 0, _, rfl, p1, fun j x hx => by
      match j, hx with
      | 0, hx => cases hx; rfl
      | j + 1, hx => simp at hx⟩⟩, ⟨Nat.le_refl _, by unfold maxLen; omega, fun _ => ⟨_, 0, _, rfl, p2, fun j x hx => by
      match j, hx with
      | 0, hx => cases hx; rfl
      | j + 1, hx => simp at hx⟩⟩, Row.nil _ _ (by unfold maxLen; omega)⟩
  have hs1 := h.later (show Later w W1 from (show Later w W0 from hb0).trans hl1)
  have CA := Lib.hid (shAdd_any hs1 (by have := (show Below _ _ _ from hl1).size; omega) hn (by omega) (by omega) hpv)
  have HS1 := Lib.hid hs1
  have HB := Lib.hid hB
  have H2 := Lib.hid h2
  have HB0 := Lib.hid hb0
  have HL1 := Lib.hid hl1
  have HS0 := Lib.hid hs0
  have HK1 := Lib.hid (k1.below hl1 k1.lt)
  have HK2 := Lib.hid (k2.below hl1 k2.lt)
  have HW0 := Lib.hid hW0
  have HW1 := Lib.hid hW1
  have c0 := kb.c0
  have e1 : ¬ ((key.size : Int) < 1) := by have := hk.1; omega
  have e2 : ¬ ((40 : Int) < (key.size : Int)) := by have := hk.2; omega
  have e3 : ¬ ((400 : Int) < (val.size : Int)) := by omega
  have hmet := fun w => method_add ⟨b, 0, none⟩ w
  have HRN := Lib.hid hrn
  have HRE := Lib.hid hre
  clear hrn hre
  clear h hB hn hn2 hl h2 hk hv hb0 hs0 hW0 kb k1 k2 hW1 hl1 p1 p2 hpv hs1
  unfold shV
  refine (callsIn_wide (n := 5)).1 ?_
  refine callsIn_of_wp_marks Try.func10 rfl trivial ?_ rfl
  refine wpIn_wide.2 ?_
  simp only [Try.ntmps10, List.size_toArray, List.length_cons, List.length_nil, Nat.reduceAdd, Nat.reduceSub, Array.replicate_succ, Array.replicate_zero, List.push_toArray, List.append_toArray, List.nil_append, List.cons_append]
  go_upto_region 1 with fail
  rw [← HW0.out]
  go_wp2_with fail
  rw [← HW1.out]
  refine CA.out.mono ?_
  rintro e w7 hsa
  have hBW : B ≤ W1.heap.size := by have := HB.out; have := (show Below _ _ _ from HB0.out).size; have := (show Below _ _ _ from HL1.out).size; omega
  have hw7 := (show ShAdd B b ill s v ⟨true, [key], [val], []⟩ W1 e w7 from hsa).wr HS1.out hBW
  obtain ⟨v', he, _⟩ := hsa
  subst he
  have hwr := hw7.from_ HB.out (show Later w W1 from (show Later w W0 from HB0.out).trans HL1.out)
  have k1 := (hw7.sm _ _).2 HK1.out
  have k2 := hw7.far _ _ _ far_err HK2.out
  have htw : Two (addS ill s ⟨true, [key], [val], []⟩).1.S := two_addS H2.out (by simp)
  have c1 := k1.c0
  have c2 := k2.c0
  have f1 := k1.frozen 0
  have f2 := k2.frozen 0
  have FIN := Lib.hid (exit_two (n := (addS ill s ⟨true, [key], [val], []⟩).2.getD 0) (er := if (addS ill s ⟨true, [key], [val], []⟩).2.isSome then 0 else 4) hwr htw k1 k2 (Nat.le_succ _) (by omega) HB.out)
  have hrn := HRN.out
  have hre := HRE.out
  rw [← hrn, ← hre] at FIN ⊢
  clear hrn hre
  clear hw7 hwr k1 k2 htw hBW
  go_wp2_with fail
  obtain ⟨hw, y1, y2⟩ := FIN.out
  exact ⟨_, results_put _ _ _ _ rn re rfl rfl y1 y2, rfl, hw⟩
end Go.Proofs.Ytafeddjcomeniaa
end

/- tree.turned: a branch whose kid became another or none. Conditions: the shelf and the page lie in memory; the page may be, and has few keys. -/
section
namespace Go.Proofs.Ytafeddjcomeniaa
open Go.RowKit
set_option linter.unusedVariables false
set_option linter.unusedSimpArgs false

/-- What turned answers. -/
def TurnPost (B b : Nat) (ill : Int) (r : Sh × Option Int) (w : World) (e : Ending) (w' : World) : Prop := e = .returned (.tuple #[.int .u64 (r.2.getD 0), .int .i64 (if r.2.isSome then 0 else 4)]) ∧ Wr B b ill r.1 w w'
set_option maxRecDepth 100000 in
set_option maxHeartbeats 8000000 in
theorem turned_any {B b : Nat} {w : World} {ill : Int} {s : Sh} {v : Value} {p : Pg} {i : Nat} {n : Int} {A1 A2 A3 : Option Addr} {pc1 pc2 pc3 : Nat} (h : ShAt B w b ill s v) (hB : B ≤ w.heap.size) (hn : 0 ≤ s.n) (hn2 : s.n < 1000000000) (hl : s.S.length ≤ 99990)
    (hp : PgA w A1 pc1 A2 pc2 A3 pc3 p) (ho : Ok p) (hlf : p.leaf = false) (hi : i ≤ p.keys.length) (hk : 1 ≤ p.keys.length) :
    Calls Try.prog 40 #[shV b, .agg #[.bool p.leaf, .slice A1 p.keys.length pc1, .slice A2 p.vals.length pc2, .slice A3 p.kids.length pc3, .int .i64 (i : Nat)], .int .u64 n] w (TurnPost B b ill (turnW ill s p i n) w) := by
  obtain ⟨W0, hW0⟩ : ∃ W0, W0 = w.alloc (.cells #[.bool p.leaf, .slice A1 p.keys.length pc1, .slice A2 p.vals.length pc2, .slice A3 p.kids.length pc3, .int .i64 (i : Nat)] 89) := ⟨_, rfl⟩
  have hb0 : Later w W0 := by rw [hW0]; exact below_new _ _
  have kh : Blk W0 w.heap.size 89 #[.bool p.leaf, .slice A1 p.keys.length pc1, .slice A2 p.vals.length pc2, .slice A3 p.kids.length pc3, .int .i64 (i : Nat)] := by rw [hW0]; exact Blk.new _ _ _
  have hfew := good_few ho
  obtain ⟨hsv, hsk⟩ : p.vals = [] ∧ p.kids.length = p.keys.length + 1 := by
    rcases good_shape ho.good with ⟨e, _⟩ | ⟨_, e1, e2⟩
    · rw [hlf] at e; cases e
    · exact ⟨e1, e2⟩
  have SF : Hid (∀ V, Later W0 V → V.cell? ⟨w.heap.size, 1, none⟩ = some (.slice A1 p.keys.length pc1) ∧ V.cell? ⟨w.heap.size, 3, none⟩ = some (.slice A3 p.kids.length pc3)) := Lib.hid fun V hV => by
    have := kh.below hV kh.lt
    exact ⟨(this.cell 1).trans rfl, (this.cell 3).trans rfl⟩
  have HPA := Lib.hid (hp.sm (Sm.later hb0))
  have HS0 := Lib.hid (h.later hb0)
  have HB := Lib.hid hB
  have HB0 := Lib.hid hb0
  have HKH := Lib.hid kh
  have HW0 := Lib.hid hW0
  have HI : Hid (i ≤ p.keys.length ∧ p.kids.length = p.keys.length + 1 ∧ p.keys.length ≤ 1000 ∧ 1 ≤ p.keys.length) := Lib.hid ⟨hi, hsk, hfew.1, hk⟩
  have HN := Lib.hid (And.intro hn (And.intro hn2 hl))
  have hmet := fun w => method_add ⟨b, 0, none⟩ w
  obtain ⟨T, hT⟩ : ∃ T, T = turnW ill s p i n := ⟨_, rfl⟩
  rw [← hT]
  have HT := Lib.hid hT
  have hsz : W0.heap.size = w.heap.size + 1 := by rw [hW0, World.size_alloc]
  have HSZ := Lib.hid hsz
  generalize hm1 : p.keys.length = m1 at *
  generalize hm3 : p.kids.length = m3 at *
  generalize hm2 : p.vals.length = m2 at *
  rw [hlf] at HW0
  have HM1 := Lib.hid hm1
  have HM3 := Lib.hid hm3
  clear h hB hn hn2 hl hp ho hi hk hW0 hb0 kh hfew hsv hsk hT hsz hm1 hm3 hm2
  rw [hlf]
  clear hlf
  unfold shV
  go_enter Try.func40, Try.ntmps40
  go_upto_region 1 with fail
  rw [← HW0.out]
  have HL0 := Lib.hid (Later.refl W0)
  have ZF0 : Hid (∀ s, W0.heap.size ≤ s → W0.heap.size ≤ s) := Lib.hid (fun _ h => h)
  have ZS0 : Hid (∀ V, Later W0 V → (Later W0) V) := Lib.hid (fun _ h => h)
  refine walk_start 10 (S := Later W0) (T := Later W0) (by kernel_rfl) (fun r => W0.heap.size ≤ r) (fun _ h => h.size) ZS0.out (closed_later _) (Later.refl _).drew ?_
  refine wt 0 10 ?_ (fun V hV => ?_) ?_
  rotate_left 1
  · (clear hV; go_simp; (try with_reducible rfl))
  try simp only [pa, List.set]
  refine wt 1 11 ?_ (fun V hV => ?_) ?_
  rotate_left 1
  · (clear hV; go_simp; (try with_reducible rfl))
  try simp only [pa, List.set]
  refine wt 2 12 ?_ (fun V hV => ?_) ?_
  rotate_left 1
  · (obtain ⟨z1, z3⟩ := SF.out V (HL0.out.trans hV); clear hV; go_simp; (try with_reducible rfl))
  try simp only [pa, List.set]
  refine wt 4 14 ?_ (fun V hV => ?_) ?_
  rotate_left 1
  · (clear hV; go_simp; (try with_reducible rfl))
  try simp only [pa, List.set]
  refine wt 5 15 ?_ (fun V hV => ?_) ?_
  rotate_left 1
  · (clear hV; go_simp; (try with_reducible rfl))
  try simp only [pa, List.set]
  refine wt 6 16 ?_ (fun V hV => ?_) ?_
  rotate_left 1
  · (obtain ⟨z1, z3⟩ := SF.out V (HL0.out.trans hV); clear hV; go_simp; (try with_reducible rfl))
  try simp only [pa, List.set]
  refine walk_pend ⟨9, 8, (.cells #[.bool false, .slice none 0 0, .slice none 0 0, .slice none 0 0] 54), fun r => .pointer (some ⟨r, 0, none⟩)⟩ ⟨_, rfl, rfl, rfl, fun W => ?_⟩ ?_
  · (go_simp; (try with_reducible rfl))
  refine walk_core 3 rfl (by kernel_rfl) (fun _ _ _ _ _ h => h) (fun V hV K hK => ?_)
  have hV0 := HL0.out.trans hV
  go_simp
  go_at_call 34
  rw [← HM1.out]
  refine (cloneS (HPA.out.k.smS (Sm.later hV0)) (by have := HI.out; have := HM1.out; omega)).mono ?_
  rintro e x3 ⟨v3, rfl, ho3, hb⟩
  obtain ⟨E1, e1, rfl⟩ := own_shape ho3
  have HO3 : Hid (x3.ownsRow W0.heap.size 9 1 (.slice E1 p.keys.length e1) p.keys.length (p.keys.map Value.string)) := Lib.hid (own_base ho3 (show Below _ _ _ from hV0).size)
  clear ho3
  have HT3 := Lib.hid (hV.of hb)
  have HL1 := Lib.hid (hV0.of hb)
  have hsize := hb.size
  have hkeep := fun (r : Nat) (_ : True) (h : r < V.heap.size) => hb.block r h
  have ZF1 : Hid (∀ s, x3.heap.size ≤ s → _) := Lib.hid (fun s h => ZF0.out s (Nat.le_trans hV.size (Nat.le_trans hsize h)))
  refine hK.out _ _ (Later x3) (Later x3) _ (fun r _ h => hkeep r trivial h) (fun _ h _ => h) (fun V' h => (hV.of hb).trans h) (fun _ h => h) (fun V' h => ZF1.out _ h.size) (Later.refl _) (closed_later _) ?_
  clear hK K hV hsize hkeep hV0 hb
  try simp only [pa, List.set]
  refine walk_core 7 rfl (by kernel_rfl) (fun _ _ _ _ _ h => h) (fun V hV K hK => ?_)
  have hV0 := HL1.out.trans hV
  go_simp
  go_at_call 35
  rw [← HM3.out]
  refine (cloneN (HPA.out.n.smN (Sm.later hV0)) (by have := HI.out; have := HM3.out; omega)).mono ?_
  rintro e x7 ⟨v7, rfl, ho7, hb⟩
  obtain ⟨E3, e3, rfl⟩ := own_shape ho7
  have HO7 : Hid (x7.ownsRow W0.heap.size 27 1 (.slice E3 p.kids.length e3) p.kids.length (p.kids.map (Value.int .u64))) := Lib.hid (own_base ho7 (show Below _ _ _ from hV0).size)
  clear ho7
  have HT7 := Lib.hid (hV.of hb)
  have HL2 := Lib.hid (hV0.of hb)
  have hsize := hb.size
  have hkeep := fun (r : Nat) (_ : True) (h : r < V.heap.size) => hb.block r h
  have ZF2 : Hid (∀ s, x7.heap.size ≤ s → _) := Lib.hid (fun s h => ZF1.out s (Nat.le_trans hV.size (Nat.le_trans hsize h)))
  refine hK.out _ _ (Later x7) (Later x7) _ (fun r _ h => hkeep r trivial h) (fun _ h _ => h) (fun V' h => (hV.of hb).trans h) (fun _ h => h) (fun V' h => ZF2.out _ h.size) (Later.refl _) (closed_later _) ?_
  clear hK K hV hsize hkeep hV0 hb
  try simp only [pa, List.set]
  refine wt 8 18 ?_ (fun V hV => ?_) ?_
  rotate_left 1
  · (clear hV; go_simp; (try with_reducible rfl))
  try simp only [pa, List.set]
  refine walk_force (by kernel_rfl) (by kernel_rfl) (by kernel_rfl) (by kernel_rfl) (fun r9 x9 hV hr9 hB9 => ?_)
  have lt9 : r9 < x9.heap.size := (Array.getElem?_eq_some_iff.1 hr9).1
  have HL3 := Lib.hid (HL2.out.trans hV)
  have ZF3 : Hid (∀ s, x9.heap.size ≤ s → _ ∧ s ≠ r9) := Lib.hid (fun s h => ⟨ZF2.out s (Nat.le_trans hV.size h), Nat.ne_of_gt (Nat.lt_of_lt_of_le lt9 h)⟩)
  refine ⟨Later x9, Later x9, Later.refl _, fun V' h => hV.trans h, fun _ h => h, fun V' h => ZF2.out _ (Nat.le_trans hV.size h.size), fun V' h => Nat.lt_of_lt_of_le lt9 h.size, closed_later _, ?_⟩
  try simp only [pa, List.set]
  have HT9 := Lib.hid hV
  clear hV
  refine walk_exit (fun V hV => ?_)
  have hV0 := HL3.out.trans hV
  try simp only [pa, List.set]
  have kr : Blk V r9 54 #[.bool false, .slice none 0 0, .slice none 0 0, .slice none 0 0] := Blk.below (show Blk x9 r9 _ _ from hr9) hV lt9
  have h7V : Later x7 V := HT9.out.trans hV
  have o1 := own_later HO3.out (HT7.out.trans h7V)
  have o3 := own_later HO7.out h7V
  obtain ⟨z0, z1, z2, z3⟩ := cells4 kr
  obtain ⟨f0, f1, f2, f3⟩ := frozen4 kr
  have u := upd4 kr (.bool false) (.slice E1 p.keys.length e1) (.slice none 0 0) (.slice E3 p.kids.length e3)
  obtain ⟨W5, hW5⟩ : ∃ W5, W5 = ((((V.setCell ⟨r9, 0, none⟩ (.bool false)).setCell ⟨r9, 1, none⟩ (.slice E1 p.keys.length e1)).setCell ⟨r9, 2, none⟩ (.slice none 0 0)).setCell ⟨r9, 3, none⟩ (.slice E3 p.kids.length e3)) := ⟨_, rfl⟩
  rw [← hW5] at u
  have hl5 : Later W0 W5 := u.below hV0 hB9 (Nat.le_refl _)
  have HP5 := Lib.hid u.blk
  have HO1 := Lib.hid (own_upd o1 u (own_blk o1 kr (by decide)))
  have HO35 := Lib.hid (own_upd o3 u (own_blk o3 kr (by decide)))
  have HR9 : Hid (W0.heap.size ≤ r9) := Lib.hid hB9
  have HL5 := Lib.hid hl5
  have HW5 := Lib.hid hW5
  rw [HM1.out] at HO1
  rw [HM3.out] at HO35
  rw [HM1.out, HM3.out] at HW5 HP5
  clear hV hV0 kr h7V o1 o3 u hW5 hl5
  rw [HM1.out, HM3.out]
  refine wpAnyJ_one (i := 10) (by kernel_rfl) rfl (fun K hK => ?_)
  simp only [List.getElem_toArray, List.getElem_cons_succ, List.getElem_cons_zero]
  go_simp
  refine hK.out _ _ (fun h _ => absurd rfl h) ?_
  clear hK K
  try simp only [pa, List.set]
  refine wpAnyJ_done (by kernel_rfl) ?_ _
  rw [← HW5.out]
  clear z0 z1 z2 z3 f0 f1 f2 f3
  obtain ⟨z0, z1, z2, z3⟩ := cells4 HP5.out
  have kh := HKH.out.below HL5.out HKH.out.lt
  have y4 : W5.cell? ⟨w.heap.size, 4, none⟩ = some (.int .i64 (i : Nat)) := (kh.cell 4).trans rfl
  have b1 : (0 : Int) ≤ (i : Int) := by omega
  have b2 : (i : Int) < (m3 : Int) := by have := HI.out; omega
  by_cases h0 : n = 0
  · subst h0
    have hlen3 : ((p.kids.map (Value.int .u64)).take i ++ (p.kids.map (Value.int .u64)).drop (i + 1)).length = m1 := by
      have := HM3.out
      have := HI.out
      rw [List.length_append, List.length_take, List.length_drop, List.length_map]; omega
    have CD := Lib.hid (delN HO35.out (map_one (fun _ => rfl) p.kids) (i := i) (by have := HI.out; omega) (by have := HI.out; omega))
    have HKH5 := Lib.hid kh
    have ewp : IntKind.i64.wrap ((i : Int) + 1) = (i : Int) + 1 := IntWalk.i64_in _ (by have := HI.out; omega)
    have ewm : IntKind.i64.wrap ((i : Int) - 1) = (i : Int) - 1 := IntWalk.i64_in _ (by have := HI.out; omega)
    have HLEN3 := Lib.hid hlen3
    have HT0 := Lib.hid HT.out
    clear hlen3 kh b1 b2
    go_wp2_with fail
    refine CD.out.mono ?_
    rintro e w6 ⟨v6, rfl, o6, hk6, hn6⟩
    rw [HLEN3.out] at o6
    obtain ⟨F3, f3', rfl⟩ := own_shape o6
    have kp6 := hk6.blk HP5.out (fun e => own_blk HO35.out HP5.out (by decide) e)
    have kh6 := hk6.blk HKH5.out (fun e => own_blk HO35.out HKH5.out (by decide) e)
    have o16 := own_kept HO1.out hk6 fun g hg => own_ne HO1.out HO35.out (by decide) hg
    have hl6 : Later W0 w6 := (show Below _ _ _ from HL5.out).trans (hk6.below (show Below _ _ _ from HL5.out).size fun k hk => (HO35.out.lt k hk).1)
    have u := upd1 kp6 3 (.slice F3 m1 f3')
    obtain ⟨W7, hW7⟩ : ∃ W7, W7 = w6.setCell ⟨r9, 3, none⟩ (.slice F3 m1 f3') := ⟨_, rfl⟩
    rw [← hW7] at u
    have hl7 : Later W0 W7 := u.below hl6 HR9.out (Nat.le_refl _)
    have HO37 := Lib.hid (own_upd o6 u (own_blk o6 kp6 (by decide)))
    have HO17 := Lib.hid (own_upd o16 u (own_blk o16 kp6 (by decide)))
    have kp7 : Blk W7 r9 54 #[.bool false, .slice E1 m1 e1, .slice none 0 0, .slice F3 m1 f3'] := by simpa using u.blk
    have HP7 := Lib.hid kp7
    have kh7 := u.far kh6 (kh6.ne_ kp6 (by decide))
    have HKH7 := Lib.hid kh7
    have HL7 := Lib.hid hl7
    have HW7 := Lib.hid hW7
    obtain ⟨t0, t1, t2, t3⟩ := cells4 kp6
    obtain ⟨f0, f1, f2, f3⟩ := frozen4 kp6
    clear CD z0 z1 z2 z3 y4 o6 hk6 hn6 o16 hl6 u hW7 hl7 kp7 kh6 kh7
    go_upto_region 5 with fail
    rw [← HW7.out]
    have y4 : W7.cell? ⟨w.heap.size, 4, none⟩ = some (.int .i64 (i : Nat)) := (HKH7.out.cell 4).trans rfl
    obtain ⟨z0, z1, z2, z3⟩ := cells4 HP7.out
    clear t0 t1 t2 t3 f0 f1 f2 f3 kp6
    go_upto_region 6 with fail
    obtain ⟨at_, hat⟩ : ∃ at_ : Nat, at_ = i - 1 := ⟨_, rfl⟩
    have hmx : max ((i : Int) - 1) 0 = (at_ : Int) := by omega
    rw [hmx]
    obtain ⟨m0, hm0⟩ : ∃ m0, m1 = m0 + 1 := ⟨m1 - 1, by have := HI.out; omega⟩
    have hlen1 : ((p.keys.map Value.string).take at_ ++ (p.keys.map Value.string).drop (at_ + 1)).length = m0 := by
      have := HM1.out
      have := HI.out
      rw [List.length_append, List.length_take, List.length_drop, List.length_map]; omega
    have CD := Lib.hid (delS HO17.out (map_one (fun _ => rfl) p.keys) (i := at_) (by have := HI.out; omega) (by have := HI.out; omega))
    have HLEN1 := Lib.hid hlen1
    have HAT := Lib.hid hat
    have HM0 := Lib.hid hm0
    have hatb : (at_ : Int) < (m1 : Int) := by have := HI.out; omega
    have hatn : at_ < m1 := by have := HI.out; omega
    have ewp : IntKind.i64.wrap ((at_ : Int) + 1) = (at_ : Int) + 1 := IntWalk.i64_in _ (by have := HI.out; omega)
    clear hlen1 hmx hat hm0 ewm
    go_upto_region 8 with fail
    refine CD.out.mono ?_
    rintro e w8 ⟨v8, rfl, o8, hk8, hn8⟩
    rw [HLEN1.out] at o8
    obtain ⟨F1, f1', rfl⟩ := own_shape o8
    have kp8 := hk8.blk HP7.out (fun e => own_blk HO17.out HP7.out (by decide) e)
    have o38 := own_kept HO37.out hk8 fun g hg => own_ne HO37.out HO17.out (by decide) hg
    have hl8 : Later W0 w8 := (show Below _ _ _ from HL7.out).trans (hk8.below (show Below _ _ _ from HL7.out).size fun k hk => (HO17.out.lt k hk).1)
    have u := upd1 kp8 1 (.slice F1 m0 f1')
    obtain ⟨W9, hW9⟩ : ∃ W9, W9 = w8.setCell ⟨r9, 1, none⟩ (.slice F1 m0 f1') := ⟨_, rfl⟩
    rw [← hW9] at u
    have hl9 : Later W0 W9 := u.below hl8 HR9.out (Nat.le_refl _)
    have kp9 : Blk W9 r9 54 #[.bool false, .slice F1 m0 f1', .slice none 0 0, .slice F3 m1 f3'] := by simpa using u.blk
    have hkl : (lessP p i).keys.length = m0 := by
      have := HLEN1.out
      have := HAT.out
      subst this
      simpa [lessP] using HLEN1.out
    have hnl : (lessP p i).kids.length = m1 := by simpa [lessP] using HLEN3.out
    have hpv : PgA W9 F1 f1' none 0 F3 f3' (lessP p i) := by
      obtain ⟨X1, y1, e1', r1⟩ := Row.of_own (l := (lessP p i).keys) (enc := Value.string) (by
        rw [hkl]
        have := own_upd o8 u (own_blk o8 kp8 (by decide))
        rw [HAT.out] at this
        simpa only [lessP, List.map_append, List.map_take, List.map_drop] using this)
      obtain ⟨X3, y3, e3', r3⟩ := Row.of_own (l := (lessP p i).kids) (enc := Value.int .u64) (by
        rw [hnl]
        have := own_upd o38 u (own_blk o38 kp8 (by decide))
        simpa only [lessP, List.map_append, List.map_take, List.map_drop] using this)
      rw [hkl] at e1'
      rw [hnl] at e3'
      cases e1'
      cases e3'
      exact ⟨r1, Row.nil _ _ (by unfold maxLen; omega), r3⟩
    have hpw : PgV W9 #[.bool false, .slice F1 m0 f1', .slice none 0 0, .slice F3 m1 f3'] (lessP p i) := ⟨F1, f1', none, 0, F3, f3', by unfold pgc; rw [hkl, hnl]; rfl, hpv⟩
    have HPV := Lib.hid hpv
    have HPW := Lib.hid hpw
    have HKL := Lib.hid hkl
    have HNL := Lib.hid hnl
    have HL9 := Lib.hid hl9
    have HP9 := Lib.hid kp9
    have HW9 := Lib.hid hW9
    obtain ⟨t0, t1, t2, t3⟩ := cells4 kp8
    obtain ⟨f0, f1, f2, f3⟩ := frozen4 kp8
    clear CD z0 z1 z2 z3 o8 hk8 hn8 o38 hl8 u hW9 hl9 kp9 hkl hnl hpv hpw hatb hatn
    go_upto_region 8 with fail
    rw [← HW9.out]
    obtain ⟨z0, z1, z2, z3⟩ := cells4 HP9.out
    clear t0 t1 t2 t3 f0 f1 f2 f3 kp8
    have q0 : ¬ ((m1 : Int) = 0) := by have := HM0.out; omega
    have hs9 := HS0.out.later HL9.out
    by_cases h1 : m1 = 1
    · subst h1
      obtain ⟨g, o, cs, hF3, hbg, hcg⟩ := HPV.out.n.at_ (by rw [HNL.out]; omega)
      subst hF3
      obtain ⟨x, hx⟩ : ∃ x, (lessP p i).kids[0]? = some x := ⟨_, List.getElem?_eq_getElem (by rw [HNL.out]; omega)⟩
      have y0 : W9.cell? ⟨g, o, none⟩ = some (.int .u64 x) := (hbg.cell o).trans (hcg 0 x hx)
      have hturn : T = (s, some x) := by
        rw [HT0.out]; unfold turnW
        rw [if_pos rfl, if_pos HNL.out, List.getD_eq_getElem?_getD, hx]; rfl
      have FIN : Hid (TurnPost B b ill T w (.returned (.tuple #[.int .u64 x, .int .i64 0])) W9) := Lib.hid (by
        rw [hturn]
        exact ⟨rfl, ⟨v, hs9⟩, ((show Below _ _ _ from (show Later w W0 from HB0.out).trans HL9.out).mono HB.out), fun g t cs _ hb => hb.below (show Later w W9 from (show Later w W0 from HB0.out).trans HL9.out) hb.lt, Sm.later ((show Later w W0 from HB0.out).trans HL9.out), later_others ((show Later w W0 from HB0.out).trans HL9.out)⟩)
      clear hbg hcg hx hturn hs9
      go_wp2_with fail
      go_ret2
      exact FIN.out
    · have q1 : ¬ ((m1 : Int) = 1) := by omega
      have CA := Lib.hid (shAdd_any hs9 (by have := HB.out; have := HSZ.out; have := (show Below _ _ _ from HL9.out).size; omega) HN.out.1 (by have := HN.out; omega) (by have := HN.out; omega) HPW.out)
      have hturn : T = addS ill s (lessP p i) := by rw [HT0.out]; unfold turnW; rw [if_pos rfl, if_neg (by rw [HNL.out]; exact h1)]
      have HTU := Lib.hid hturn
      have HS9 := Lib.hid hs9
      clear hturn hs9 h1
      go_wp2_with fail
      refine CA.out.mono ?_
      rintro e w7 hsa
      have hw7 := (show ShAdd B b ill s v (lessP p i) W9 e w7 from hsa).wr HS9.out (by have := HB.out; have := HSZ.out; have := (show Below _ _ _ from HL9.out).size; omega)
      obtain ⟨v', he, _⟩ := hsa
      subst he
      rw [← HTU.out] at hw7 ⊢
      have FIN : Hid (TurnPost B b ill T w (.returned (.tuple #[.int .u64 (T.2.getD 0), .int .i64 (if T.2.isSome then 0 else 4)])) w7) := Lib.hid ⟨rfl, hw7.from_ HB.out (show Later w W9 from (show Later w W0 from HB0.out).trans HL9.out)⟩
      generalize T.2.getD 0 = rn at *
      generalize (if T.2.isSome then (0 : Int) else 4) = re at *
      clear hw7
      go_wp2_with fail
      go_ret2
      exact FIN.out
  · have hn0 : (n != 0) = true := by rw [bne_iff_ne]; exact h0
    obtain ⟨g3, cs3, hE3, hg3, kg3, ⟨u3, hu3⟩, ho36⟩ := own_setN HO35.out (i := i) (by have := HI.out; omega) n
    subst hE3
    obtain ⟨W6, hW6⟩ : ∃ W6, W6 = W5.setCell ⟨g3, i, none⟩ (.int .u64 n) := ⟨_, rfl⟩
    rw [← hW6] at ho36
    have fg := kg3.frozen i
    have n93 : r9 ≠ g3 := fun e => HP5.out.ne_ kg3 (by decide) e
    have nh3 : w.heap.size ≠ g3 := fun e => kh.ne_ kg3 (by decide) e
    have hl6 : Later W0 W6 := by rw [hW6]; exact (HL5.out).setCell (p := ⟨g3, i, none⟩) hg3 _
    have p6 : Blk W6 r9 54 #[.bool false, .slice E1 m1 e1, .slice none 0 0, .slice (some ⟨g3, 0, none⟩) m3 e3] := by rw [hW6]; exact HP5.out.far (p := ⟨g3, i, none⟩) n93 _
    have o16 : W6.ownsRow W0.heap.size 9 1 (.slice E1 m1 e1) m1 (p.keys.map Value.string) := by rw [hW6]; exact own_far (p := ⟨g3, i, none⟩) HO1.out (own_blk HO1.out kg3 (by decide)) (.int .u64 n)
    have hpv : PgV W6 #[.bool false, .slice E1 m1 e1, .slice none 0 0, .slice (some ⟨g3, 0, none⟩) m3 e3] ⟨false, p.keys, [], p.kids.set i n⟩ := by
      obtain ⟨X1, y1, e1', r1⟩ := Row.of_own (by have := o16; rw [← HM1.out] at this; exact this)
      obtain ⟨X3, y3, e3', r3⟩ := Row.of_own (l := p.kids.set i n) (by rw [List.length_set, HM3.out]; exact ho36)
      refine ⟨E1, e1, none, 0, some ⟨g3, 0, none⟩, e3, ?_, ?_, Row.nil _ _ (by unfold maxLen; omega), ?_⟩
      · unfold pgc; rw [List.length_set, HM1.out, HM3.out]; rfl
      · cases e1'; exact r1
      · rw [List.length_set, HM3.out] at e3'; cases e3'; exact r3
    have CA := Lib.hid (shAdd_any (HS0.out.later hl6) (by have := HB.out; have := HSZ.out; have := (show Below _ _ _ from hl6).size; omega) HN.out.1 (by have := HN.out; omega) (by have := HN.out; omega) hpv)
    have HS6 := Lib.hid (HS0.out.later hl6)
    have HL6 := Lib.hid hl6
    have HW6 := Lib.hid hW6
    have m1p : ¬ ((m3 : Int) = 0) := by have := HI.out; omega
    have m1q : ¬ ((m3 : Int) = 1) := by have := HI.out; omega
    have hturn : T = addS ill s ⟨false, p.keys, [], p.kids.set i n⟩ := by rw [HT.out]; unfold turnW; rw [if_neg h0]
    have HTU := Lib.hid hturn
    clear kh hg3 kg3 ho36 hl6 p6 o16 hpv hW6 hturn h0
    go_wp2_with fail
    rw [← HW6.out]
    refine CA.out.mono ?_
    rintro e w7 hsa
    have hw7 := (show ShAdd B b ill s v ⟨false, p.keys, [], p.kids.set i n⟩ W6 e w7 from hsa).wr HS6.out (by have := HB.out; have := HSZ.out; have := (show Below _ _ _ from HL6.out).size; omega)
    obtain ⟨v', he, _⟩ := hsa
    subst he
    rw [← HTU.out] at hw7 ⊢
    have FIN : Hid (TurnPost B b ill T w (.returned (.tuple #[.int .u64 (T.2.getD 0), .int .i64 (if T.2.isSome then 0 else 4)])) w7) := Lib.hid ⟨rfl, hw7.from_ HB.out (show Later w W6 from (show Later w W0 from HB0.out).trans HL6.out)⟩
    generalize T.2.getD 0 = rn at *
    generalize (if T.2.isSome then (0 : Int) else 4) = re at *
    clear hw7
    go_wp2_with fail
    go_ret2
    exact FIN.out
end Go.Proofs.Ytafeddjcomeniaa
end

/- page.Drop on a leaf that has the key. Conditions: the page reads in memory; it may be, and has few keys. -/
section
namespace Go.Proofs.Ytafeddjcomeniaa
open Go.RowKit
set_option linter.unusedVariables false
set_option linter.unusedSimpArgs false

section
variable {w : World} {A1 A2 A3 : Option Addr} {c1 c2 c3 : Nat} {ks vs : List ByteArray} {ns : List Int}
set_option maxRecDepth 100000 in
set_option maxHeartbeats 8000000 in
theorem drop_a (key : ByteArray) (h : PgA w A1 c1 A2 c2 A3 c3 ⟨true, ks, vs, ns⟩) (hk : ks.length ≤ 1000) (hr : Rise ks) (hv : vs.length = ks.length) (hn : ns.length ≤ 1000) (hT : thereB ks key = true) : Calls Try.prog 39 #[.agg (pgc A1 c1 A2 c2 A3 c3 ⟨true, ks, vs, ns⟩), .string key] w (PgPost w (dropP ⟨true, ks, vs, ns⟩ key)) := by
  have hpu : dropP ⟨true, ks, vs, ns⟩ key = ⟨true, ks.take (findN ks key) ++ ks.drop (findN ks key + 1), vs.take (findN ks key) ++ vs.drop (findN ks key + 1), ns⟩ := by
    unfold dropP
    dsimp only
    rw [hT, if_pos (by rfl)]
  have hlt : findN ks key < ks.length := by
    have h := hT
    unfold thereB at h
    simp only [Bool.and_eq_true, decide_eq_true_eq] at h
    exact h.1
  unfold pgc
  dsimp only at *
  obtain ⟨W1, hW1⟩ : ∃ W1, W1 = (w.alloc (.cells #[.bool true, .slice A1 ks.length c1, .slice A2 vs.length c2, .slice A3 ns.length c3] 54)).alloc (.cells #[.bool false, .slice none 0 0, .slice none 0 0, .slice none 0 0] 54) := ⟨_, rfl⟩
  have hb1 : Below w.heap.size w W1 := by rw [hW1]; exact (below_new _ _).alloc (by simp) _
  have hs1 : W1.heap.size = w.heap.size + 2 := by rw [hW1]; simp
  have kp : Blk W1 w.heap.size 54 #[.bool true, .slice A1 ks.length c1, .slice A2 vs.length c2, .slice A3 ns.length c3] := by rw [hW1]; exact (Blk.new _ _ _).alloc _
  have kz : Blk W1 (w.heap.size + 1) 54 #[.bool false, .slice none 0 0, .slice none 0 0, .slice none 0 0] := by
    rw [hW1]
    have := Blk.new (w.alloc (.cells #[.bool true, .slice A1 ks.length c1, .slice A2 vs.length c2, .slice A3 ns.length c3] 54)) 54 #[.bool false, .slice none 0 0, .slice none 0 0, .slice none 0 0]
    simpa using this
  have hp1 := h.sm (Sm.below hb1)
  have CF := find_a key hp1 hk hr
  rw [hT] at CF
  have HP1 := Lib.hid hp1
  obtain ⟨q0, q1, q2, q3⟩ := cells4 kp
  have HW1 := Lib.hid hW1
  have HB1 := Lib.hid hb1
  have HKP := Lib.hid kp
  have HKZ := Lib.hid kz
  have HS1 := Lib.hid hs1
  have HR := Lib.hid hr
  have HV := Lib.hid hv
  have HK := Lib.hid hk
  have HN := Lib.hid hn
  generalize findN ks key = f at *
  have HP := Lib.hid hpu
  unfold pgc at CF
  dsimp only at CF
  have CF2 := Lib.hid CF
  clear CF h hp1 hr hv hk hn hW1 hb1 kp kz hs1 hpu hT
  go_enter Try.func39, Try.ntmps39
  go_upto_region 1 with fail
  rw [← HW1.out]
  go_wp2_with fail
  refine CF2.out.mono ?_
  rintro e w2 ⟨rfl, hb2⟩
  have kp2 := HKP.out.below hb2 HKP.out.lt
  have kz2 := HKZ.out.below hb2 HKZ.out.lt
  have hb2w := HB1.out.trans (hb2.mono HB1.out.size)
  have CC := Lib.hid (clone_own (HP1.out.sm (Sm.below hb2)) (show ks.length ≤ 1001 ∧ vs.length ≤ 1001 ∧ ns.length ≤ 1001 by have := HK.out; have := HV.out; have := HN.out; omega))
  have hs2 : w.heap.size + 2 ≤ w2.heap.size := by have := HS1.out; have := hb2.size; omega
  obtain ⟨y0, y1, y2, y3⟩ := cells4 kp2
  have HKP2 := Lib.hid kp2
  have HKZ2 := Lib.hid kz2
  have HB2 := Lib.hid hb2w
  have HS2 := Lib.hid hs2
  clear CF2 HKP HKZ q0 q1 q2 q3 hb2 kp2 kz2 hb2w hs2
  unfold pgc at CC
  dsimp only at CC
  go_wp2_with fail
  refine CC.out.mono ?_
  rintro e w3 ⟨hb3, v1, v2, v3, rfl, ho3⟩
  have kp3 := HKP2.out.below hb3 HKP2.out.lt
  have kz3 := HKZ2.out.below hb3 HKZ2.out.lt
  have u := upd4 kp3 (.bool true) v1 v2 v3
  obtain ⟨w5, hw5⟩ : ∃ W4, W4 = (((w3.setCell ⟨w.heap.size, 0, none⟩ (.bool true)).setCell ⟨w.heap.size, 1, none⟩ v1).setCell ⟨w.heap.size, 2, none⟩ v2).setCell ⟨w.heap.size, 3, none⟩ v3 := ⟨_, rfl⟩
  rw [← hw5] at u
  obtain ⟨B1, d1, e1⟩ := own_shape ho3.k
  obtain ⟨B2, d2, e2⟩ := own_shape ho3.v
  obtain ⟨B3, d3, e3⟩ := own_shape ho3.n
  subst e1 e2 e3
  have hs2 := HS2.out
  have ho4 := ho3.upd u kp3 (by decide) (by decide)
  have ho5 : PgOwn w5 (w.heap.size + 2) (.slice B1 ks.length d1) (.slice B2 vs.length d2) (.slice B3 ns.length d3) ⟨true, ks, vs, ns⟩ := ⟨own_base ho4.k hs2, own_base ho4.v hs2, own_base ho4.n hs2, ho4.ne⟩
  have kp5 := u.blk
  have kz5 := u.far kz3 (by omega)
  have hbw : Below w.heap.size w w5 := u.below (HB2.out.trans (hb3.mono HB2.out.size)) (Nat.le_refl _) (Nat.le_refl _)
  have hs5 : w.heap.size + 2 ≤ w5.heap.size := by rw [u.size]; have := hb3.size; omega
  obtain ⟨z0, z1, z2, z3⟩ := cells4 kp3
  obtain ⟨f0, f1, f2, f3⟩ := frozen4 kp3
  have HW5 := Lib.hid hw5
  obtain ⟨L1, hL1⟩ : ∃ L, L = ks.take f ++ ks.drop (f + 1) := ⟨_, rfl⟩
  obtain ⟨L2, hL2⟩ : ∃ L, L = vs.take f ++ vs.drop (f + 1) := ⟨_, rfl⟩
  have hHP := HP.out
  rw [← hL1, ← hL2] at hHP
  have HP2 := Lib.hid hHP
  have HLK := Lib.hid hL1
  have HLV := Lib.hid hL2
  have SF : Hid (∀ V, Below (w.heap.size + 2) w5 V → V.cell? ⟨w.heap.size, 0, none⟩ = some (.bool true) ∧ V.cell? ⟨w.heap.size, 1, none⟩ = some (.slice B1 ks.length d1) ∧ V.cell? ⟨w.heap.size, 2, none⟩ = some (.slice B2 vs.length d2) ∧ V.cell? ⟨w.heap.size, 3, none⟩ = some (.slice B3 ns.length d3)) := Lib.hid fun V hV => cells4 (kp5.below hV (by omega))
  have HO5 := Lib.hid ho5
  have HKP := Lib.hid kp5
  have HKZ := Lib.hid kz5
  have HBW := Lib.hid hbw
  clear hHP hL1 hL2 hw5 hb3 ho3 ho4 kp3 kz3 u ho5 kp5 kz5 hbw CC y0 y1 y2 y3
  go_upto_region 5 with fail
  rw [← HW5.out]
  clear z0 z1 z2 z3 f0 f1 f2 f3
  have ew : IntKind.i64.wrap ((f : Int) + 1) = (f : Int) + 1 := IntWalk.i64_in _ (by have := HK.out; omega)
  have HL0 := Lib.hid (Later.refl w5)
  have ZF0 : Hid (∀ s, w5.heap.size ≤ s → w5.heap.size ≤ s) := Lib.hid (fun _ h => h)
  have ZS0 : Hid (∀ V, Later w5 V → (Below (w.heap.size + 2) w5) V) := Lib.hid (fun V' h => (show Below _ _ _ from h).mono (show w.heap.size + 2 ≤ w5.heap.size by first | omega | (simp; done) | (simp; omega)))
  refine walk_start 13 (S := Below (w.heap.size + 2) w5) (T := Later w5) (by kernel_rfl) (fun r => w5.heap.size ≤ r) (fun _ h => h.size) ZS0.out (closed_later _) (Later.refl _).drew ?_
  refine wt 0 23 ?_ (fun V hV => ?_) ?_
  rotate_left 1
  · (clear hV; go_simp; (try with_reducible rfl))
  try simp only [pa, List.set]
  refine wt 1 24 ?_ (fun V hV => ?_) ?_
  rotate_left 1
  · (obtain ⟨q0, q1, q2, q3⟩ := SF.out V hV; clear hV; go_simp; (try with_reducible rfl))
  try simp only [pa, List.set]
  refine wt 2 25 ?_ (fun V hV => ?_) ?_
  rotate_left 1
  · (clear hV; go_simp; (try with_reducible rfl))
  try simp only [pa, List.set]
  refine wt 3 26 ?_ (fun V hV => ?_) ?_
  rotate_left 1
  · (clear hV; go_simp; (try with_reducible rfl))
  try simp only [pa, List.set]
  refine wt 4 27 ?_ (fun V hV => ?_) ?_
  rotate_left 1
  · (clear hV; go_simp; (try with_reducible rfl))
  try simp only [pa, List.set]
  refine wt 6 29 ?_ (fun V hV => ?_) ?_
  rotate_left 1
  · (clear hV; go_simp; (try with_reducible rfl))
  try simp only [pa, List.set]
  refine wt 7 30 ?_ (fun V hV => ?_) ?_
  rotate_left 1
  · (obtain ⟨q0, q1, q2, q3⟩ := SF.out V hV; clear hV; go_simp; (try with_reducible rfl))
  try simp only [pa, List.set]
  refine wt 8 31 ?_ (fun V hV => ?_) ?_
  rotate_left 1
  · (clear hV; go_simp; (try with_reducible rfl))
  try simp only [pa, List.set]
  refine wt 9 32 ?_ (fun V hV => ?_) ?_
  rotate_left 1
  · (clear hV; go_simp; (try with_reducible rfl))
  try simp only [pa, List.set]
  refine wt 10 33 ?_ (fun V hV => ?_) ?_
  rotate_left 1
  · (clear hV; go_simp; (try with_reducible rfl))
  try simp only [pa, List.set]
  refine walk_core 5 rfl (by kernel_rfl) (fun _ _ _ _ _ h => h) (fun V hV K hK => ?_)
  have hV0 := HL0.out.trans hV
  have hSV := ZS0.out V hV
  go_simp
  go_at_call 69
  have hlt5 := fun (r : Nat) (h : (Value.slice B1 ks.length d1).ownBlock = some r) => (HO5.out.k.lt r h).2
  have hsv : w5.heap.size ≤ V.heap.size := (show Below _ _ _ from hV0).size
  refine (delLS (own_later HO5.out.k hV0) hlt (by have := HK.out; show ks.length ≤ _; omega)).mono ?_
  rw [← HLK.out]
  rintro e x5 ⟨E1, e1, rfl, h5, hk5, hn5⟩
  have hsize := hk5.size
  have hkeep := fun (r : Nat) (hF : w5.heap.size ≤ r) (hl : r < V.heap.size) => hk5.block r hl (fun h => by have := hlt5 r h; omega)
  have hS := fun V' (h : Later x5 V') => (show Below (w.heap.size + 2) w5 V from (show Below _ _ _ from hV0).mono hs5).trans ((hk5.below (Nat.le_trans hs5 hsv) (fun i h => (HO5.out.k.lt i h).1)).trans ((show Below _ _ _ from h).mono (Nat.le_trans hs5 (Nat.le_trans hsv hsize))))
  have HO : Hid (PgOwn x5 (w.heap.size + 2) (.slice E1 L1.length e1) (.slice B2 vs.length d2) (.slice B3 ns.length d3) ⟨true, L1, vs, ns⟩) := Lib.hid ⟨h5, own_kept (own_later HO5.out.v hV0) hk5 (fun g hg h => HO5.out.ne g h hg), own_kept (own_later HO5.out.n hV0) hk5 (fun g hg h => own_ne HO5.out.k HO5.out.n (by decide) h hg), fun g h h' => by
    rcases hn5 g h with h'' | h''
    · exact HO5.out.ne g h'' h'
    · have := (HO5.out.v.lt g h').2; omega⟩
  have HS55 := Lib.hid (Nat.le_trans hsv hsize)
  clear hlt5 hsv h5 hk5 hn5
  have ZF1 : Hid (∀ s, x5.heap.size ≤ s → _) := Lib.hid (fun s h => ZF0.out s (Nat.le_trans hV.size (Nat.le_trans hsize h)))
  have ZS1 : Hid (∀ V, Later x5 V → (Below (w.heap.size + 2) w5) V) := Lib.hid hS
  refine hK.out _ _ (Below (w.heap.size + 2) w5) (Later x5) _ hkeep (fun _ h _ => h) (fun _ h => h) ZS1.out (fun V' h => ZF1.out _ h.size) (Later.refl _) (closed_later _) ?_
  clear hK K hV hsize hkeep hV0 hSV hS
  try simp only [pa, List.set]
  refine wt 12 35 ?_ (fun V hV => ?_) ?_
  rotate_left 1
  · (clear hV; go_simp; (try with_reducible rfl))
  try simp only [pa, List.set]
  refine walk_core 11 rfl (by kernel_rfl) (fun _ _ _ _ _ h => h) (fun V hV K hK => ?_)
  have hSV := ZS1.out V hV
  go_simp
  go_at_call 69
  have h5V : Later x5 V := hV
  have hsv : x5.heap.size ≤ V.heap.size := (show Below _ _ _ from h5V).size
  have hz := HS55.out
  have hlt11 := fun (r : Nat) (h : (Value.slice B2 vs.length d2).ownBlock = some r) => (HO5.out.v.lt r h).2
  refine (delLS (own_later HO.out.v h5V) (by have := HV.out; show f < vs.length; omega) (by have := HK.out; have := HV.out; show vs.length ≤ _; omega)).mono ?_
  rw [← HLV.out]
  rintro e x11 ⟨E2, e2, rfl, h11, hk11, hn11⟩
  have hsize := hk11.size
  have hkeep := fun (r : Nat) (hF : w5.heap.size ≤ r) (hl : r < V.heap.size) => hk11.block r hl (fun h => by have := hlt11 r h; omega)
  have hS := fun V' (h : Later x11 V') => (show Below (w.heap.size + 2) w5 V from hSV).trans ((hk11.below (by omega) (fun i h => (HO5.out.v.lt i h).1)).trans ((show Below _ _ _ from h).mono (by omega)))
  have HO2 : Hid (PgOwn x11 (w.heap.size + 2) (.slice E1 L1.length e1) (.slice E2 L2.length e2) (.slice B3 ns.length d3) ⟨true, L1, L2, ns⟩) := Lib.hid ⟨own_kept (own_later HO.out.k h5V) hk11 (fun g hg h => HO.out.ne g hg h), h11, own_kept (own_later HO.out.n h5V) hk11 (fun g hg h => own_ne HO.out.v HO.out.n (by decide) h hg), fun g h h' => by
    rcases hn11 g h' with h'' | h''
    · exact HO.out.ne g h h''
    · have := (HO.out.k.lt g h).2; omega⟩
  clear hsv hz hlt11 h11 hk11 hn11 h5V
  have ZF2 : Hid (∀ s, x11.heap.size ≤ s → _) := Lib.hid (fun s h => ZF1.out s (Nat.le_trans hV.size (Nat.le_trans hsize h)))
  have ZS2 : Hid (∀ V, Later x11 V → (Below (w.heap.size + 2) w5) V) := Lib.hid hS
  refine hK.out _ _ (Below (w.heap.size + 2) w5) (Later x11) _ hkeep (fun _ h _ => h) (fun _ h => h) ZS2.out (fun V' h => ZF2.out _ h.size) (Later.refl _) (closed_later _) ?_
  clear hK K hV hsize hkeep hSV hS
  try simp only [pa, List.set]
  refine walk_exit (fun V hV => ?_)
  have hSV := ZS2.out V hV
  try simp only [pa, List.set]
  have kp := HKP.out.below hSV (by omega)
  have kz := HKZ.out.below hSV (by omega)
  have ho := HO2.out.later hV
  have u8 := upd1 kp 1 (.slice E1 L1.length e1)
  obtain ⟨W8, hW8⟩ : ∃ W8, W8 = V.setCell ⟨w.heap.size, 1, none⟩ (.slice E1 L1.length e1) := ⟨_, rfl⟩
  rw [← hW8] at u8
  have kp8 : Blk W8 w.heap.size 54 #[.bool true, .slice E1 L1.length e1, .slice B2 vs.length d2, .slice B3 ns.length d3] := u8.blk
  have u9 := upd1 kp8 2 (.slice E2 L2.length e2)
  obtain ⟨W9, hW9⟩ : ∃ W9, W9 = W8.setCell ⟨w.heap.size, 2, none⟩ (.slice E2 L2.length e2) := ⟨_, rfl⟩
  rw [← hW9] at u9
  have kp9 : Blk W9 w.heap.size 54 #[.bool true, .slice E1 L1.length e1, .slice E2 L2.length e2, .slice B3 ns.length d3] := u9.blk
  have kz9 := u9.far (u8.far kz (show w.heap.size + 1 ≠ w.heap.size by omega)) (show w.heap.size + 1 ≠ w.heap.size by omega)
  have hb9 : Below w.heap.size w W9 := u9.below (u8.below (HBW.out.trans ((show Below (w.heap.size + 2) w5 V from hSV).mono (by omega))) (Nat.le_refl _) (Nat.le_refl _)) (Nat.le_refl _) (Nat.le_refl _)
  have u7 := upd4 kz9 (.bool true) (.slice E1 L1.length e1) (.slice E2 L2.length e2) (.slice B3 ns.length d3)
  have ho7 := ((ho.upd u8 kp (by decide) (by decide)).upd u9 kp8 (by decide) (by decide)).upd u7 kz9 (by decide) (by decide)
  obtain ⟨z0, z1, z2, z3⟩ := cells4 kp
  obtain ⟨f0, f1, f2, f3⟩ := frozen4 kp
  obtain ⟨y0, y1, y2, y3⟩ := cells4 kp8
  obtain ⟨g0, g1, g2, g3⟩ := frozen4 kp8
  obtain ⟨x0, x1, x2, x3⟩ := cells4 kp9
  obtain ⟨j0, j1, j2, j3⟩ := cells4 kz9
  obtain ⟨i0, i1, i2, i3⟩ := frozen4 kz9
  have HU7 := Lib.hid u7
  have HO7 := Lib.hid ho7
  have HB9 := Lib.hid hb9
  have HW8 := Lib.hid hW8
  have HW9 := Lib.hid hW9
  clear kp kz ho u8 kp8 u9 kp9 kz9 hb9 u7 ho7 hW8 hW9 hSV hV
  refine wpAnyJ_one (i := 13) (by kernel_rfl) rfl (fun K hK => ?_)
  simp only [List.getElem_toArray, List.getElem_cons_succ, List.getElem_cons_zero]
  go_simp
  refine hK.out _ _ (fun h _ => absurd rfl h) ?_
  clear hK K
  try simp only [pa, List.set]
  rw [← HW8.out]
  clear z0 z1 z2 z3 f0 f1 f2 f3
  refine wpAnyJ_pure (i := 14) (d := some 36) (v := ?_) (by kernel_rfl) rfl rfl (Or.inl ⟨by rfl, ?_⟩) (fun _ h => absurd ((show _ = true by kernel_rfl).symm.trans h) (by decide)) ?_
  rotate_left 1
  · (intro V; go_simp; (try with_reducible rfl))
  try simp only [pa, List.set]
  refine wpAnyJ_one (i := 15) (by kernel_rfl) rfl (fun K hK => ?_)
  simp only [List.getElem_toArray, List.getElem_cons_succ, List.getElem_cons_zero]
  go_simp
  refine hK.out _ _ (fun _ h => absurd ((show _ = true by kernel_rfl).symm.trans h) (by decide)) ?_
  clear hK K
  try simp only [pa, List.set]
  refine wpAnyJ_done (by kernel_rfl) ?_ _
  rw [← HW9.out]
  clear y0 y1 y2 y3 g0 g1 g2 g3
  go_wp2_with fail
  refine bodyPost_ret_by (results_c1 rfl _ _ (w.heap.size + 1) 54 _ (0, 0) _ rfl HU7.out.blk Try.underlying54 rfl (by kernel_rfl)) rfl ?_
  rw [HP2.out]
  exact ⟨HU7.out.below HB9.out (by omega) (Nat.le_refl _), _, rfl, HO7.out.pgv⟩
end
theorem drop_v {w : World} {cs : Array Value} {p : Pg} (key : ByteArray) (h : PgV w cs p) (ho : Ok p) (hl : p.leaf = true) (hT : thereB p.keys key = true) : Calls Try.prog 39 #[.agg cs, .string key] w (PgPost w (dropP p key)) := by
  obtain ⟨A1, c1, A2, c2, A3, c3, rfl, h⟩ := h
  have hf := good_few ho
  have hr := good_rise ho.good
  rcases good_shape ho.good with ⟨_, a, b⟩ | ⟨e, _⟩
  · obtain ⟨lf, ks, vs, ns⟩ := p
    obtain rfl : lf = true := hl
    obtain rfl : ns = [] := b
    exact drop_a key h hf.1 hr a (by simp) hT
  · rw [hl] at e; cases e
end Go.Proofs.Ytafeddjcomeniaa
end

/- The law's shelf behind an interface value is no nil pointer. Conditions: none. -/
section
namespace Go.Proofs.Ytafeddjcomeniaa
open Go.RowKit
theorem nil_ahead (a : Addr) (w : World) : (nilAhead 271 23 (.pointer (some a)) "Add").run Try.prog w = .ok (some false) w := by kernel_rfl
end Go.Proofs.Ytafeddjcomeniaa
end

/- tree.Drop along a way. Conditions: the shelf lies in memory, no page of it has just one kid; the tree is good, at most 20 deep, with few items. -/
section
namespace Go.Proofs.Ytafeddjcomeniaa
open Go.RowKit
set_option linter.unusedVariables false
set_option linter.unusedSimpArgs false
attribute [local go_sem] Oper.semAt_some

theorem results_drop (tmps : Array Value) (W : World) (g1 g2 : Nat) (x y : Int) (h6 : tmps.getD 6 undef = .pointer (some ⟨g1, 0, none⟩)) (h7 : tmps.getD 7 undef = .pointer (some ⟨g2, 0, none⟩))
    (c1 : W.cell? ⟨g1, 0, none⟩ = some (.int .u64 x)) (c2 : W.cell? ⟨g2, 0, none⟩ = some (.int .i64 y)) : (results Try.f11 tmps).run Try.prog W = .ok (.tuple #[.int .u64 x, .int .i64 y]) W := by
  have h6' : tmps[6]?.getD undef = .pointer (some ⟨g1, 0, none⟩) := by simpa using h6
  have h7' : tmps[7]?.getD undef = .pointer (some ⟨g2, 0, none⟩) := by simpa using h7
  simp [results, Try.f11, go_sem, h6', h7', c1, c2]
set_option maxRecDepth 100000 in
set_option maxHeartbeats 8000000 in
theorem dropT_some {Q : Pg → Prop} {B b : Nat} {w : World} {ill : Int} {s : Sh} {v : Value} {root : Int} {d : Nat} {key : ByteArray} (h : ShAt B w b ill s v) (hB : B ≤ w.heap.size) (hn : 0 ≤ s.n) (hn2 : s.n < 100000000) (hl : s.S.length ≤ 90000)
    (h2 : Two s.S) (ht : OkN Q s.S d root none none) (hi' : (itemsN s.S d root).length ≤ 1000) (hd : d ≤ 20) {T : Sh × Int × Int} (hT : T = dropT ill key (getL (itemsN s.S d root) key).isSome (wayN s.S d root key) s) :
    Calls Try.prog 11 #[shV b, .int .u64 root, .string key] w fun e w' => TPost B b ill T.1 T.2.1 T.2.2 w e w' := by
  have hroot : root ≠ 0 := by have := (ok_le ht).1; omega
  have hroot' : ((root : Int) == 0) = false := beq_eq_false_iff_ne.2 hroot
  have hwl := way_len (S := s.S) (key := key) d root
  obtain ⟨p, i, hlast, hlf, hgood, hget⟩ := find_way ht (inB_all key)
  have hdr : Drops (wayN s.S d root key) := ⟨fun j x hj hlt => way_steps (by omega) ht (inB_all key) hi' j x hj hlt, fun x hx => by
    rw [hlast] at hx
    cases hx
    exact ⟨hlf, way_ok (by omega) ht (inB_all key) hi' _ (List.mem_of_getLast? hlast)⟩⟩
  obtain ⟨TH, hTH⟩ : ∃ TH, TH = thereB p.keys key := ⟨_, rfl⟩
  have hth : (getL (itemsN s.S d root) key).isSome = TH := by
    rw [hget, hTH]
    cases thereB p.keys key <;> rfl
  rw [hth] at hT
  obtain ⟨FULL, hF⟩ : ∃ F, F = wayN s.S d root key := ⟨_, rfl⟩
  obtain ⟨W0, hW0⟩ : ∃ W0, W0 = ((w.alloc (.cells #[.iface 23 (.pointer (some ⟨b, 0, none⟩))] 79)).alloc (.cells #[.int .u64 0] 27)).alloc (.cells #[.int .i64 0] 28) := ⟨_, rfl⟩
  have hb0 : Later w W0 := by rw [hW0]; exact ((below_new _ _).alloc (by simp) _).alloc (by rw [World.size_alloc, World.size_alloc]; omega) _
  have hs0 : W0.heap.size = w.heap.size + 3 := by rw [hW0]; simp
  have kb : Blk W0 w.heap.size 79 #[.iface 23 (.pointer (some ⟨b, 0, none⟩))] := by rw [hW0]; exact ((Blk.new _ _ _).alloc _).alloc _
  have k1 : Blk W0 (w.heap.size + 1) 27 #[.int .u64 0] := by
    rw [hW0]
    have := Blk.new (w.alloc (.cells #[.iface 23 (.pointer (some ⟨b, 0, none⟩))] 79)) 27 #[.int .u64 0]
    rw [World.size_alloc] at this
    exact this.alloc _
  have k2 : Blk W0 (w.heap.size + 1 + 1) 28 #[.int .i64 0] := by
    rw [hW0]
    have := Blk.new ((w.alloc (.cells #[.iface 23 (.pointer (some ⟨b, 0, none⟩))] 79)).alloc (.cells #[.int .u64 0] 27)) 28 #[.int .i64 0]
    rwa [World.size_alloc, World.size_alloc] at this
  have h0 := h.later hb0
  have CW := Lib.hid (way_any h0 hn (by omega) (by omega) ht (inB_all key) hi' hd)
  rw [← hF] at CW hlast hwl hdr hT
  have hne : 1 ≤ FULL.length := by
    cases FULL with
    | nil => simp at hlast
    | cons => simp
  have hx : FULL[FULL.length - 1]? = some (p, i) := by rw [List.getLast?_eq_getElem?] at hlast; exact hlast
  have HX := Lib.hid hx
  have HDR := Lib.hid hdr
  have HT := Lib.hid hT
  have HTH := Lib.hid hTH
  have HPO : Hid (p.leaf = true ∧ Ok p) := Lib.hid (hdr.lf _ hlast)
  have HB := Lib.hid hB
  have H2 := Lib.hid h2
  have HN := Lib.hid hn
  have HN2 := Lib.hid hn2
  have HL := Lib.hid hl
  have HWL : Hid (FULL.length ≤ 20) := Lib.hid (by omega)
  have HNE := Lib.hid hne
  have HKB := Lib.hid kb
  have HK1 := Lib.hid k1
  have HK2 := Lib.hid k2
  have HB0 := Lib.hid hb0
  have HS0 := Lib.hid hs0
  have HW0 := Lib.hid hW0
  have c0 := kb.c0
  have c1 := k1.c0
  have c2 := k2.c0
  clear h hB hn hn2 hl h2 ht hi' hd hwl hlast hgood hget hF hx hne hb0 hs0 hW0 kb k1 k2 hroot hlf hdr hT hTH hth
  unfold shV at CW ⊢
  refine (callsIn_wide (n := 5)).1 ?_
  refine callsIn_of_wp_marks Try.func11 rfl trivial ?_ rfl
  refine wpIn_wide.2 ?_
  simp only [Try.ntmps11, List.size_toArray, List.length_cons, List.length_nil, Nat.reduceAdd, Nat.reduceSub, Array.replicate_succ, Array.replicate_zero, List.push_toArray, List.append_toArray, List.nil_append, List.cons_append]
  go_upto_region 1 with fail
  rw [← HW0.out]
  go_upto_region 3 with fail
  have H0 := Lib.hid h0
  obtain ⟨r2, hr2⟩ : ∃ r2, r2 = w.heap.size + 1 + 1 := ⟨_, rfl⟩
  obtain ⟨r1, hr1⟩ : ∃ r1, r1 = w.heap.size + 1 := ⟨_, rfl⟩
  obtain ⟨rb, hrb⟩ : ∃ rb, rb = w.heap.size := ⟨_, rfl⟩
  rw [← hr2] at HK2 ⊢
  rw [← hr1] at HK1 ⊢
  rw [← hrb] at HKB ⊢
  have HR1 : Hid (w.heap.size ≤ r1 ∧ w.heap.size ≤ r2 ∧ w.heap.size ≤ rb ∧ r1 < W0.heap.size ∧ r2 < W0.heap.size ∧ rb < W0.heap.size) := Lib.hid (by have := HS0.out; omega)
  have n12 : r1 ≠ r2 := by omega
  have n1b : r1 ≠ rb := by omega
  have n2b : r2 ≠ rb := by omega
  clear c0 c1 c2 hroot' h0 hr1 hr2 hrb
  have c0 := HKB.out.c0
  go_wp2_with fail
  refine CW.out.mono ?_
  rintro e w1 ⟨hd1, hk1, hm1⟩
  rcases hd1 with ⟨a1, a2, rfl, a4⟩ | ⟨a1, lv, rfl, hst, hs1⟩
  · have hw0 := Wr.of_kept H0.out hk1 hm1 a4 (by have := HB.out; have := HS0.out; omega)
    have k1 := (hw0.sm _ _).2 HK1.out
    have k2 := hw0.far _ _ _ far_err HK2.out
    obtain ⟨W2, hW2⟩ : ∃ W2, W2 = w1.alloc (.cells #[.int .i64 4] 28) := ⟨_, rfl⟩
    have hl2 : Later w1 W2 := by rw [hW2]; exact below_new _ _
    have hw2 := (hw0.from_ HB.out HB0.out).later HB.out hl2
    have HW2 := Lib.hid hW2
    have ke : Blk W2 w1.heap.size 28 #[.int .i64 4] := by rw [hW2]; exact Blk.new _ _ _
    have k1 := k1.below hl2 k1.lt
    have k2 := k2.below hl2 k2.lt
    have ce := ke.c0
    have fe := ke.frozen 0
    have FIN : Hid (∀ V, Later W2 V → Wr B b ill ⟨s.S, ill⟩ w ((V.setCell ⟨r1, 0, none⟩ (.int .u64 0)).setCell ⟨r2, 0, none⟩ (.int .i64 4)) ∧ ((V.setCell ⟨r1, 0, none⟩ (.int .u64 0)).setCell ⟨r2, 0, none⟩ (.int .i64 4)).cell? ⟨r1, 0, none⟩ = some (.int .u64 0) ∧ ((V.setCell ⟨r1, 0, none⟩ (.int .u64 0)).setCell ⟨r2, 0, none⟩ (.int .i64 4)).cell? ⟨r2, 0, none⟩ = some (.int .i64 4)) := Lib.hid fun V hV =>
      exit_two (hw2.later HB.out hV) H2.out (k1.below hV k1.lt) (k2.below hV k2.lt) HR1.out.1 HR1.out.2.1 HB.out
    have hput : T = (⟨s.S, ill⟩, 0, 4) := by
      rw [HT.out]; unfold dropT; rw [if_pos ⟨a1, a2⟩]
    have HPUT := Lib.hid hput
    obtain ⟨c1, f1⟩ : W2.cell? ⟨r1, 0, none⟩ = some (.int .u64 0) ∧ W2.frozen? ⟨r1, 0, none⟩ = false := ⟨k1.c0, k1.frozen 0⟩
    obtain ⟨c2, f2⟩ : W2.cell? ⟨r2, 0, none⟩ = some (.int .i64 0) ∧ W2.frozen? ⟨r2, 0, none⟩ = false := ⟨k2.c0, k2.frozen 0⟩
    obtain ⟨q, hq⟩ : ∃ q, q = w1.heap.size := ⟨_, rfl⟩
    have nq1 : q ≠ r1 := by have := HR1.out; have := hw0.size; omega
    have nq2 : q ≠ r2 := by have := HR1.out; have := hw0.size; omega
    rw [← hq] at ce fe
    have HQ := Lib.hid hq
    clear hq hk1 hm1 a1 a2 a4 hw0 hw2 hW2 hl2 ke k1 k2 hput c0
    go_upto_region 4 with fail
    rw [← HW2.out, ← HQ.out]
    go_wp2_with fail
    go_region
    go_wp2_with fail
    obtain ⟨hw, x1, x2⟩ := FIN.out W2 (Below.refl _ _)
    refine ⟨_, results_drop _ _ r1 r2 0 4 rfl rfl x1 x2, ?_⟩
    rw [HPUT.out]
    exact ⟨rfl, hw.later HB.out (later_drewN _ 1)⟩
  · obtain ⟨g, cap, c, rfl, hg, hcap, ⟨cur, hcur⟩, ⟨A1, cc1, A2, cc2, A3, cc3, rfl, hpa⟩, hcell⟩ := hst.get HX.out
    have hlen := HNE.out
    have hl20 := HWL.out
    obtain ⟨N, hN⟩ : ∃ N, N = FULL.length - 1 := ⟨_, rfl⟩
    have hNl : FULL.length = N + 1 := by omega
    have hw0 := Wr.of_kept H0.out hk1 hm1 hs1 (by have := HB.out; have := HS0.out; omega)
    have k1 := (hw0.sm _ _).2 HK1.out
    have k2 := hw0.far _ _ _ far_err HK2.out
    have kb := hw0.far _ _ _ far_shelf HKB.out
    obtain ⟨W2, hW2⟩ : ∃ W2, W2 = w1.alloc (.cells #[.int .i64 0] 28) := ⟨_, rfl⟩
    have hl2 : Later w1 W2 := by rw [hW2]; exact below_new _ _
    have hw2 := (hw0.from_ HB.out HB0.out).later HB.out hl2
    obtain ⟨q, hq⟩ : ∃ q, q = w1.heap.size := ⟨_, rfl⟩
    have ke : Blk W2 q 28 #[.int .i64 0] := by rw [hW2, hq]; exact Blk.new _ _ _
    have nq1 : q ≠ r1 := by have := HR1.out; have := hw0.size; omega
    have nq2 : q ≠ r2 := by have := HR1.out; have := hw0.size; omega
    have HK1 := Lib.hid (k1.below hl2 k1.lt)
    have HK2 := Lib.hid (k2.below hl2 k2.lt)
    have HKB := Lib.hid (kb.below hl2 kb.lt)
    have HKE := Lib.hid ke
    have HST := Lib.hid (hst.later hl2)
    have HKG := Lib.hid (hcur.below hl2 hcur.lt)
    have HW := Lib.hid hw2
    have HS2 := Lib.hid (hs1.later hl2)
    have hpa2 := hpa.sm (Sm.later hl2)
    have hVS : ∀ k, v.ownBlock = some k → k < W2.heap.size := fun k e => ((hs1.later hl2).rowlt k e).2
    have HVS := Lib.hid hVS
    rw [← hN] at hcell
    have y0 : w1.cell? ⟨g, N * 5, none⟩ = some (.bool p.leaf) := hcell 0 (by omega)
    have y1 : w1.cell? ⟨g, N * 5 + 1, none⟩ = some (.slice A1 p.keys.length cc1) := hcell 1 (by omega)
    have y2 : w1.cell? ⟨g, N * 5 + 2, none⟩ = some (.slice A2 p.vals.length cc2) := hcell 2 (by omega)
    have y3 : w1.cell? ⟨g, N * 5 + 3, none⟩ = some (.slice A3 p.kids.length cc3) := hcell 3 (by omega)
    have y0 := (World.cell?_of_block ((show Below _ _ _ from hl2).block g hcur.lt)).trans y0
    have y1 := (World.cell?_of_block ((show Below _ _ _ from hl2).block g hcur.lt)).trans y1
    have y2 := (World.cell?_of_block ((show Below _ _ _ from hl2).block g hcur.lt)).trans y2
    have y3 := (World.cell?_of_block ((show Below _ _ _ from hl2).block g hcur.lt)).trans y3
    have hN20 : N ≤ 19 := by omega
    obtain ⟨W3, hW3⟩ : ∃ W3, W3 = W2.alloc (.cells #[.bool p.leaf, .slice A1 p.keys.length cc1, .slice A2 p.vals.length cc2, .slice A3 p.kids.length cc3] 54) := ⟨_, rfl⟩
    have hl3 : Later W2 W3 := by rw [hW3]; exact below_new _ _
    have kp3 : Blk W3 W2.heap.size 54 #[.bool p.leaf, .slice A1 p.keys.length cc1, .slice A2 p.vals.length cc2, .slice A3 p.kids.length cc3] := by rw [hW3]; exact Blk.new _ _ _
    obtain ⟨rl, hrl⟩ : ∃ rl, rl = W2.heap.size := ⟨_, rfl⟩
    rw [← hrl] at kp3
    have hpv3 : PgV W3 #[.bool p.leaf, .slice A1 p.keys.length cc1, .slice A2 p.vals.length cc2, .slice A3 p.kids.length cc3] p := ⟨_, _, _, _, _, _, rfl, hpa2.sm (Sm.later hl3)⟩
    have CF := Lib.hid (find_v key hpv3 HPO.out.2)
    rw [← HTH.out] at CF
    obtain ⟨z0, z1, z2, z3⟩ := cells4 kp3
    rw [hNl] at hcap ⊢
    have HNL := Lib.hid hNl
    have HCAP : Hid (N + 1 ≤ cap) := Lib.hid hcap
    have HQW : Hid (w.heap.size ≤ q ∧ w.heap.size ≤ r1 ∧ w.heap.size ≤ r2) := Lib.hid (by have := hw0.size; have := HR1.out; have := HS0.out; omega)
    have HQ := Lib.hid hq
    have HW2 := Lib.hid hW2
    have HW3 := Lib.hid hW3
    have HRL := Lib.hid hrl
    have HL3 := Lib.hid hl3
    have HKP := Lib.hid kp3
    have HPV := Lib.hid hpv3
    have HA1 := Lib.hid a1
    have HWS := Lib.hid hw2.size
    clear hst hs1 hk1 hm1 hcur hpa hpa2 hcell hN hNl hw0 k1 k2 kb hW2 hl2 hw2 hq ke hVS hlen hl20 a1 hcap c0 hg hW3 hl3 kp3 hrl hpv3
    have ce := HKE.out.c0
    have i1 : (0 : Int) ≤ (N : Int) := by omega
    have i2 : (N : Int) < (N : Int) + 1 := by omega
    have ew : IntKind.i64.wrap ((N : Nat) : Int) = (N : Int) := IntWalk.i64_in _ (by omega)
    go_upto_region 4 with fail
    rw [← HW2.out, ← HQ.out]
    generalize hk1 : p.keys.length = m1 at *
    generalize hk2 : p.vals.length = m2 at *
    generalize hk3 : p.kids.length = m3 at *
    generalize hk4 : p.leaf = lf at *
    have HM1 := Lib.hid hk1
    have HLF := Lib.hid hk4
    clear hk1 hk2 hk3 hk4
    go_upto_region 7 with fail
    rw [← HW3.out, ← HRL.out]
    have HW4 : Hid (∀ V, Later W3 V → Wr B b ill ⟨s.S, s.n + FULL.length⟩ w V) := Lib.hid fun V hV => HW.out.later HB.out (HL3.out.trans hV)
    clear y0 y1 y2 y3 ce i1 i2 ew
    go_wp2_with fail
    refine CF.out.mono ?_
    rintro e w4 ⟨rfl, hb4⟩
    have hL24 : Later W2 w4 := HL3.out.trans hb4
    have hw4 := HW4.out w4 hb4
    have k1 := HK1.out.below hL24 HK1.out.lt
    have k2 := HK2.out.below hL24 HK2.out.lt
    clear CF z0 z1 z2 z3
    have HNS : Hid (¬ (s.n < ill ∧ ill ≤ s.n + (FULL.length : Int))) := Lib.hid (by have := HA1.out; omega)
    cases TH with
    | false =>
      have hput : T = (⟨s.S, s.n + FULL.length⟩, 0, 5) := by
        rw [HT.out]; unfold dropT; rw [if_neg HNS.out, if_pos rfl]
      have HPUT := Lib.hid hput
      have FIN : Hid (Wr B b ill ⟨s.S, s.n + FULL.length⟩ w ((w4.setCell ⟨r1, 0, none⟩ (.int .u64 0)).setCell ⟨r2, 0, none⟩ (.int .i64 5)) ∧ ((w4.setCell ⟨r1, 0, none⟩ (.int .u64 0)).setCell ⟨r2, 0, none⟩ (.int .i64 5)).cell? ⟨r1, 0, none⟩ = some (.int .u64 0) ∧ ((w4.setCell ⟨r1, 0, none⟩ (.int .u64 0)).setCell ⟨r2, 0, none⟩ (.int .i64 5)).cell? ⟨r2, 0, none⟩ = some (.int .i64 5)) := Lib.hid
        (exit_two hw4 H2.out k1 k2 HR1.out.1 HR1.out.2.1 HB.out)
      have c1 := k1.c0
      have c2 := k2.c0
      have f1 := k1.frozen 0
      have f2 := k2.frozen 0
      clear hput hw4 k1 k2 hb4 hL24
      go_wp2_with fail
      obtain ⟨hw, x1, x2⟩ := FIN.out
      refine ⟨_, results_drop _ _ r1 r2 0 5 rfl rfl x1 x2, ?_⟩
      rw [HPUT.out]
      exact ⟨rfl, hw⟩
    | true =>
      have kl4 := HKP.out.below hb4 HKP.out.lt
      obtain ⟨z0, z1, z2, z3⟩ := cells4 kl4
      obtain ⟨W5, hW5⟩ : ∃ W5, W5 = w4.alloc (.cells #[.int .u64 0] 27) := ⟨_, rfl⟩
      have hl5 : Later w4 W5 := by rw [hW5]; exact below_new _ _
      obtain ⟨rn, hrn⟩ : ∃ rn, rn = w4.heap.size := ⟨_, rfl⟩
      have kn5 : Blk W5 rn 27 #[.int .u64 0] := by rw [hW5, hrn]; exact Blk.new _ _ _
      have hrn2 : W2.heap.size ≤ rn := by rw [hrn]; exact (show Below _ _ _ from hL24).size
      have hL25 : Later W2 W5 := hL24.trans hl5
      have hl35 : Later W3 W5 := (show Later W3 w4 from hb4).trans hl5
      have kl5 := kl4.below hl5 kl4.lt
      have hrnd : Rnd B b ill w W2 r1 r2 rb q rn g 27 ⟨s.S, s.n + FULL.length⟩ 0 #[.int .u64 0] W5 :=
        ⟨HW4.out W5 hl35, HK1.out.below hL25 HK1.out.lt, HK2.out.below hL25 HK2.out.lt, HKB.out.below hL25 HKB.out.lt, HKE.out.below hL25 HKE.out.lt, kn5, (show Below _ _ _ from hL25).block g HKG.out.lt, Sm.later hL25⟩
      have HRN2 := Lib.hid hrn2
      have HRND := Lib.hid hrnd
      have HKL5 := Lib.hid kl5
      have HL25 := Lib.hid hL25
      have HL35 := Lib.hid hl35
      have HRN := Lib.hid hrn
      have HW5 := Lib.hid hW5
      clear hb4 hL24 hw4 k1 k2 kl4 hl5 kn5 hrn2 hL25 hl35 kl5 hrnd hrn hW5
      go_upto_region 11 with fail
      rw [← HW5.out, ← HRN.out]
      clear z0 z1 z2 z3
      obtain ⟨z0, z1, z2, z3⟩ := cells4 HKL5.out
      go_upto_if 46 with fail
      have HDP : Hid (dropW ill key (FULL.drop N) ⟨s.S, s.n + FULL.length⟩ = if 1 < p.keys.length then addS ill ⟨s.S, s.n + FULL.length⟩ (dropP p key) else (⟨s.S, s.n + FULL.length⟩, some 0)) := Lib.hid (by
        rw [show N = FULL.length - 1 by have := HNL.out; omega]
        exact drop_last HX.out (by have := HNE.out; omega))
      have HTT := Lib.hid HT.out
      go_cut [] from 46 to 60 (fun wx => ∃ s' n, Hid (dropW ill key (FULL.drop N) ⟨s.S, s.n + FULL.length⟩ = (s', some n)) ∧ Hid (Rnd B b ill w W2 r1 r2 rb q rn g 27 s' 0 #[.int .u64 n] wx))
      case first =>
        by_cases h1 : 1 < m1
        · have hd1 : decide (1 < m1) = true := decide_eq_true h1
          have hd3 : (1 : Int) < (m1 : Int) := by omega
          have hd2 : decide ((1 : Int) < (m1 : Int)) = true := decide_eq_true hd3
          have hdw := HDP.out
          rw [if_pos (by rw [HM1.out]; exact h1)] at hdw
          have HDW := Lib.hid hdw
          have CP : Hid (∀ V, Later W5 V → Calls Try.prog 39 #[.agg #[.bool lf, .slice A1 m1 cc1, .slice A2 m2 cc2, .slice A3 m3 cc3], .string key] V (PgPost V (dropP p key))) := Lib.hid fun V hV => drop_v key (HPV.out.below (HL35.out.trans hV)) HPO.out.2 (HLF.out.trans HPO.out.1) HTH.out.symm
          have CA : Hid (∀ V, Later W5 V → ∀ cs, PgV V cs (dropP p key) → Calls Try.prog 100 #[.pointer (some ⟨b, 0, none⟩), .agg cs] V (ShAdd B b ill ⟨s.S, s.n + FULL.length⟩ v (dropP p key) V)) := Lib.hid fun V hV cs hcs =>
            shAdd_any (HS2.out.later (HL25.out.trans hV)) (by have := HB.out; have := HWS.out; have := (show Below _ _ _ from HL25.out).size; have := (show Below _ _ _ from hV).size; omega) (by have := HN.out; dsimp only; omega) (by have := HN2.out; have := HWL.out; dsimp only; omega) (by have := HL.out; dsimp only; omega) hcs
          have SX : Hid (∀ V, Later W5 V → V.cell? ⟨rb, 0, none⟩ = some (.iface 23 (.pointer (some ⟨b, 0, none⟩))) ∧ V.cell? ⟨rl, 0, none⟩ = some (.bool lf) ∧ V.cell? ⟨rl, 1, none⟩ = some (.slice A1 m1 cc1) ∧ V.cell? ⟨rl, 2, none⟩ = some (.slice A2 m2 cc2) ∧ V.cell? ⟨rl, 3, none⟩ = some (.slice A3 m3 cc3)) := Lib.hid fun V hV => by
            have kb := HRND.out.kb.below hV HRND.out.kb.lt
            have kl := HKL5.out.below hV HKL5.out.lt
            obtain ⟨a0, a1, a2, a3⟩ := cells4 kl
            exact ⟨kb.c0, a0, a1, a2, a3⟩
          obtain ⟨SP, hSP⟩ : ∃ SP : World → Prop, ∀ V, SP V ↔ (V.cell? ⟨rb, 0, none⟩ = some (.iface 23 (.pointer (some ⟨b, 0, none⟩))) ∧ V.cell? ⟨rl, 0, none⟩ = some (.bool lf) ∧ V.cell? ⟨rl, 1, none⟩ = some (.slice A1 m1 cc1) ∧ V.cell? ⟨rl, 2, none⟩ = some (.slice A2 m2 cc2) ∧ V.cell? ⟨rl, 3, none⟩ = some (.slice A3 m3 cc3)) := ⟨_, fun _ => Iff.rfl⟩
          have HSP := Lib.hid hSP
          have hmet := fun w => method_add ⟨b, 0, none⟩ w
          have hnil := fun w => nil_ahead ⟨b, 0, none⟩ w
          clear hSP h1 hdw z0 z1 z2 z3
          go_upto_region 12 with fail
          clear hd1 hd2 hd3
          refine wp_mono (h := ?_) (calm_le _)
          have HL0 := Lib.hid (Later.refl W5)
          have ZF0 : Hid (∀ s, W5.heap.size ≤ s → W5.heap.size ≤ s) := Lib.hid (fun _ h => h)
          have ZS0 : Hid (∀ V, Later W5 V → (SP) V) := Lib.hid (fun V hV => (HSP.out V).2 (SX.out V hV))
          refine walk_start 12 (S := SP) (T := Later W5) (by kernel_rfl) (fun r => W5.heap.size ≤ r) (fun _ h => h.size) ZS0.out (closed_later _) (Later.refl _).drew ?_
          refine wt 0 48 ?_ (fun V hV => ?_) ?_
          rotate_left 1
          · (obtain ⟨c3, y0, y1, y2, y3⟩ := (HSP.out _).1 hV; clear hV; go_simp; (try with_reducible rfl))
          try simp only [pa, List.set]
          refine wt 1 49 ?_ (fun V hV => ?_) ?_
          rotate_left 1
          · (obtain ⟨c3, y0, y1, y2, y3⟩ := (HSP.out _).1 hV; clear hV; go_simp; (try with_reducible rfl))
          try simp only [pa, List.set]
          refine wt 2 50 ?_ (fun V hV => ?_) ?_
          rotate_left 1
          · (clear hV; go_simp; (try with_reducible rfl))
          try simp only [pa, List.set]
          refine wt 4 52 ?_ (fun V hV => ?_) ?_
          rotate_left 1
          · (clear hV; go_simp; (try with_reducible rfl))
          try simp only [pa, List.set]
          refine wt 5 53 ?_ (fun V hV => ?_) ?_
          rotate_left 1
          · (clear hV; go_simp; (try with_reducible rfl))
          try simp only [pa, List.set]
          refine wt 6 54 ?_ (fun V hV => ?_) ?_
          rotate_left 1
          · (clear hV; go_simp; (try with_reducible rfl))
          try simp only [pa, List.set]
          refine walk_core 3 rfl (by kernel_rfl) (fun _ _ _ _ _ h => h) (fun V hV K hK => ?_)
          have hV0 := HL0.out.trans hV
          have hSV := ZS0.out V hV
          go_simp
          go_at_call 39
          refine (CP.out V hV0).mono ?_
          rintro e x3 ⟨hb, cs3, rfl, hp3⟩
          have HP3 := Lib.hid hp3
          clear hp3
          have HT3 := Lib.hid (hV.of hb)
          have HL1 := Lib.hid (hV0.of hb)
          have hsize := hb.size
          have hkeep := fun (r : Nat) (_ : True) (h : r < V.heap.size) => hb.block r h
          have ZF1 : Hid (∀ s, x3.heap.size ≤ s → _) := Lib.hid (fun s h => ZF0.out s (Nat.le_trans hV.size (Nat.le_trans hsize h)))
          have ZS1 : Hid (∀ V, Later x3 V → (SP) V) := Lib.hid (fun V' h => ZS0.out V' ((hV.of hb).trans h))
          refine hK.out _ _ (SP) (Later x3) _ (fun r _ h => hkeep r trivial h) (fun _ h _ => h) (fun _ h => h) ZS1.out (fun V' h => ZF1.out _ h.size) (Later.refl _) (closed_later _) ?_
          clear hK K hV hsize hkeep hV0 hSV hb
          try simp only [pa, List.set]
          refine walk_core 7 rfl (by kernel_rfl) (fun _ _ _ _ _ h => h) (fun V hV K hK => ?_)
          have hV0 := HL1.out.trans hV
          have hSV := ZS1.out V hV
          try simp only [List.getElem_toArray, List.getElem_cons_succ, List.getElem_cons_zero]
          go_simp
          refine (CA.out V hV0 cs3 (HP3.out.below hV)).mono ?_
          rintro e x7 hsa
          have hw7 := (show ShAdd B b ill ⟨s.S, s.n + FULL.length⟩ v (dropP p key) V e x7 from hsa).wr (HS2.out.later (HL25.out.trans hV0)) (by have := HB.out; have := HWS.out; have := (show Below _ _ _ from HL25.out).size; have := (show Below _ _ _ from hV0).size; omega)
          obtain ⟨v', he, hsh7, hk7, hm7, hn7⟩ := hsa
          obtain ⟨en, hen⟩ : ∃ en, en = (addS ill ⟨s.S, s.n + FULL.length⟩ (dropP p key)).2.getD 0 := ⟨_, rfl⟩
          obtain ⟨er, her⟩ : ∃ er : Int, er = (if (addS ill ⟨s.S, s.n + FULL.length⟩ (dropP p key)).2.isSome then 0 else 4) := ⟨_, rfl⟩
          rw [← hen, ← her] at he
          subst he
          have HEN := Lib.hid hen
          have HER := Lib.hid her
          have hsize := hk7.size
          have hfar : ∀ r, W2.heap.size ≤ r → ¬ (r = b ∨ v.ownBlock = some r) := fun r hr hs => by
            rcases hs with hs | hs
            · have := HS2.out.blk.lt; omega
            · have := HVS.out r hs; omega
          have hkeep := fun (r : Nat) (hF : W5.heap.size ≤ r) (hl : r < V.heap.size) => hk7.block r hl (hfar r (Nat.le_trans (show Below _ _ _ from HL25.out).size hF))
          have HKL7 := Lib.hid (hk7.blk (HKL5.out.below hV0 HKL5.out.lt) (hfar rl (by rw [HRL.out]; exact Nat.le_refl _)))
          have HRN7 := Lib.hid ((HRND.out.later HB.out HKG.out.lt hV0).wroteN HKG.out hw7)
          have hS := fun V' (h : Later x7 V') => (HSP.out V').2 (by
            have kb := HRN7.out.kb.below h HRN7.out.kb.lt
            have kl := HKL7.out.below h HKL7.out.lt
            obtain ⟨a0, a1, a2, a3⟩ := cells4 kl
            exact ⟨kb.c0, a0, a1, a2, a3⟩)
          have HRS7 : Hid (rn < x7.heap.size) := Lib.hid HRN7.out.ka.lt
          clear hw7 hsh7 hm7 hn7 hfar hen her
          have ZF2 : Hid (∀ s, x7.heap.size ≤ s → _) := Lib.hid (fun s h => ZF1.out s (Nat.le_trans hV.size (Nat.le_trans hsize h)))
          have ZS2 : Hid (∀ V, Later x7 V → (SP) V) := Lib.hid hS
          refine hK.out _ _ (SP) (Later x7) _ hkeep (fun _ h _ => h) (fun _ h => h) ZS2.out (fun V' h => ZF2.out _ h.size) (Later.refl _) (closed_later _) ?_
          clear hK K hV hsize hkeep hV0 hSV hS
          try simp only [Act.put]
          try simp only [pa, List.set]
          refine wt 8 47 ?_ (fun V hV => ?_) ?_
          rotate_left 1
          · (clear hV; go_simp; (try with_reducible rfl))
          try simp only [pa, List.set]
          refine wt 9 56 ?_ (fun V hV => ?_) ?_
          rotate_left 1
          · (clear hV; go_simp; (try with_reducible rfl))
          try simp only [pa, List.set]
          refine wt 10 57 ?_ (fun V hV => ?_) ?_
          rotate_left 1
          · (clear hV; go_simp; (try with_reducible rfl))
          try simp only [pa, List.set]
          refine walk_core 11 rfl (by kernel_rfl) (fun _ _ _ _ _ h => h) (fun V hV K hK => ?_)
          have hSV := ZS2.out V hV
          try simp only [List.getElem_toArray, List.getElem_cons_succ, List.getElem_cons_zero]
          obtain ⟨D, hD⟩ : ∃ D, D = addS ill ⟨s.S, s.n + FULL.length⟩ (dropP p key) := ⟨_, rfl⟩
          have htw : Two D.1.S := by
            rw [hD]
            refine two_addS H2.out ?_
            rw [dropP_kids, leaf_nokids HPO.out.2 (HLF.out.trans HPO.out.1)]; simp
          rw [← hD] at HRN7 HEN HER
          have HTW := Lib.hid htw
          have HDD := Lib.hid hD
          have hrnV := HRN7.out.later HB.out HKG.out.lt hV
          have hnn : rn ≠ r1 ∧ rn ≠ r2 ∧ rn ≠ rb ∧ rn ≠ q ∧ rn ≠ g := by
            have := HRN2.out; have := HK1.out.lt; have := HK2.out.lt; have := HKB.out.lt; have := HKE.out.lt; have := HKG.out.lt
            omega
          have HN6 : Hid (q ≠ r1 ∧ q ≠ r2 ∧ q ≠ rb ∧ q ≠ rn ∧ q ≠ g) := Lib.hid ⟨nq1, nq2, fun e => HKE.out.ne_ HKB.out (by decide) e, fun e => hnn.2.2.2.1 e.symm, fun e => HKE.out.ne_ HKG.out (by decide) e⟩
          have hb1 := hrnV.boxN (y := en) HB.out HKG.out htw HRN2.out (Nat.le_trans HWS.out HRN2.out) hnn
          have cn := hrnV.ka.c0
          have fn := hrnV.ka.frozen 0
          obtain ⟨x11, hx11⟩ : ∃ x11, x11 = V.setCell ⟨rn, 0, none⟩ (.int .u64 en) := ⟨_, rfl⟩
          go_simp
          rw [← hx11]
          have hd1 : DKept (fun k => k = rn) V x11 := by rw [hx11]; exact (DKept.refl (S := fun k => k = rn)).set rfl
          rw [← hx11] at hb1
          have hsize := hd1.size
          have hkeep := fun (r : Nat) (hF : W5.heap.size ≤ r) (hl : r < V.heap.size) => hd1.block r hl (fun e => by have := HRND.out.ka.lt; omega)
          have HB1 := Lib.hid hb1
          have HKL1 := Lib.hid (hd1.blk (HKL7.out.below hV HKL7.out.lt) (fun e => (HKL5.out.ne_ HRND.out.ka (by decide)) e))
          have hS := fun V' (h : Later x11 V') => (HSP.out V').2 (by
            have kb := HB1.out.kb.below h HB1.out.kb.lt
            have kl := HKL1.out.below h HKL1.out.lt
            obtain ⟨a0, a1, a2, a3⟩ := cells4 kl
            exact ⟨kb.c0, a0, a1, a2, a3⟩)
          clear hD htw hrnV hnn hb1 cn fn hx11 hd1
          have ZF3 : Hid (∀ s, x11.heap.size ≤ s → _) := Lib.hid (fun s h => ZF2.out s (Nat.le_trans hV.size (Nat.le_trans hsize h)))
          have ZS3 : Hid (∀ V, Later x11 V → (SP) V) := Lib.hid hS
          refine hK.out _ _ (SP) (Later x11) _ hkeep (fun _ h _ => h) (fun _ h => h) ZS3.out (fun V' h => ZF3.out _ h.size) (Later.refl _) (closed_later _) ?_
          clear hK K hV hsize hkeep hSV hS
          try simp only [Act.put]
          try simp only [pa, List.set]
          refine walk_exit (fun V hV => ?_)
          have hSV := ZS3.out V hV
          try simp only [pa, List.set]
          have hbV := HB1.out.later HB.out HKG.out.lt hV
          have u2 := upd1 hbV.ke 0 (.int .i64 er)
          have hb2 := hbV.updE (er' := er) HB.out HKG.out (by simpa using u2) HQW.out.1 HN6.out
          have cq := hbV.ke.c0
          have fq := hbV.ke.frozen 0
          obtain ⟨V2, hV2⟩ : ∃ V2, V2 = V.setCell ⟨q, 0, none⟩ (.int .i64 er) := ⟨_, rfl⟩
          rw [← hV2] at hb2
          have HB2 := Lib.hid hb2
          have HV2 := Lib.hid hV2
          clear hSV hV hbV u2 hb2 hV2
          refine wpAnyJ_one (i := 12) (by kernel_rfl) rfl (fun K hK => ?_)
          simp only [List.getElem_toArray, List.getElem_cons_succ, List.getElem_cons_zero]
          go_simp
          refine hK.out _ _ (fun h _ => absurd rfl h) ?_
          clear hK K
          try simp only [pa, List.set]
          rw [← HV2.out]
          clear cq fq
          refine wpAnyJ_done (by kernel_rfl) ?_ _
          refine calm_n ?_
          cases hD2 : D.2 with
          | none =>
            have he4 : er = 4 := by rw [HER.out, hD2]; rfl
            have hput : T = (D.1, 0, 4) := by
              rw [HT.out]; unfold dropT; rw [if_neg HNS.out, if_neg (by simp), drop_none N (by have := HNL.out; omega) (show dropW ill key (FULL.drop N) ⟨s.S, s.n + FULL.length⟩ = (D.1, none) by rw [HDW.out, ← HDD.out, ← hD2])]
            have HPUT := Lib.hid hput
            subst he4
            have c1 := HB2.out.k1.c0
            have c2 := HB2.out.k2.c0
            have f1 := HB2.out.k1.frozen 0
            have f2 := HB2.out.k2.frozen 0
            have cq := HB2.out.ke.c0
            clear hput hD2
            go_wp2_with fail
            go_region
            go_wp2_with fail
            obtain ⟨hw, x1, x2⟩ := exit_two (n := 0) (er := 4) (HB2.out.wr.later HB.out (later_drewN _ 1)) HTW.out (HB2.out.k1.below (later_drewN _ 1) HB2.out.k1.lt) (HB2.out.k2.below (later_drewN _ 1) HB2.out.k2.lt) HQW.out.2.1 HQW.out.2.2 HB.out
            refine ⟨_, results_drop _ _ r1 r2 0 4 rfl rfl x1 x2, ?_⟩
            rw [HPUT.out]
            exact ⟨rfl, hw⟩
          | some n =>
            have he0 : er = 0 := by rw [HER.out, hD2]; rfl
            have hen : en = n := by rw [HEN.out, hD2]; rfl
            have hf : Hid (dropW ill key (FULL.drop N) ⟨s.S, s.n + FULL.length⟩ = (D.1, some n)) := Lib.hid (by rw [HDW.out, ← HDD.out, ← hD2])
            subst he0 hen
            have cq := HB2.out.ke.c0
            clear hD2
            go_wp2_with fail
            go_meet
            exact ⟨_, _, hf, HB2⟩
        · have hd1 : decide (1 < m1) = false := decide_eq_false h1
          have hd2 : decide ((1 : Int) < (m1 : Int)) = false := decide_eq_false (by omega)
          have hf : Hid (dropW ill key (FULL.drop N) ⟨s.S, s.n + FULL.length⟩ = (⟨s.S, s.n + FULL.length⟩, some 0)) := Lib.hid (by rw [HDP.out, if_neg (by rw [HM1.out]; exact h1)])
          go_wp2_with fail
          go_meet
          exact ⟨_, _, hf, HRND⟩
      case rest =>
      obtain ⟨s0, n0, HPD, HRN0⟩ := hcut
      have HL := HL
      obtain ⟨L, hrow, hLl, hLs⟩ := HST.out
      have hL5 : ∀ c ∈ L, c.size = 5 := fun c hc => by
        obtain ⟨i, hi, rfl⟩ := List.getElem_of_mem hc
        exact (hLs i _ _ (List.getElem?_eq_getElem hi) (List.getElem?_eq_getElem (hLl ▸ hi))).size
      have HRL : Hid (RowC W2 g N (L.take N)) := Lib.hid ((steps_row (by rw [HNL.out] at hrow; exact hrow) (by rw [hLl, HNL.out]) hL5).take (Nat.le_succ N))
      have hnn : rn ≠ r1 ∧ rn ≠ r2 ∧ rn ≠ rb ∧ rn ≠ q ∧ rn ≠ g := by
        have := HRN2.out; have := HK1.out.lt; have := HK2.out.lt; have := HKB.out.lt; have := HKE.out.lt; have := HKG.out.lt
        omega
      have HN6 : Hid (q ≠ r1 ∧ q ≠ r2 ∧ q ≠ rb ∧ q ≠ rn ∧ q ≠ g) := Lib.hid ⟨nq1, nq2, fun e => HKE.out.ne_ HKB.out (by decide) e, fun e => hnn.2.2.2.1 e.symm, fun e => HKE.out.ne_ HKG.out (by decide) e⟩
      have HRA : Hid (w.heap.size ≤ rn ∧ (rn ≠ r1 ∧ rn ≠ r2 ∧ rn ≠ rb ∧ rn ≠ q ∧ rn ≠ g)) := Lib.hid ⟨Nat.le_trans HWS.out HRN2.out, hnn⟩
      have HRX : Hid (∀ (i : Nat) c x, L[i]? = some c → FULL[i]? = some x → StepC W2 x c) := Lib.hid hLs
      clear hL5 HK1 HK2 HKB HKE HS2 HST HW HVS hrow hLl hLs z0 z1 z2 z3 HDP HKL5 HL35 HPV HKP HW4 HL3 HW3 HRND hnn
      have j1 : (0 : Int) ≤ (N : Int) := by omega
      have j2 : (N : Int) ≤ (cap : Int) := by have := HCAP.out; omega
      have j3 : N ≤ cap := by have := HCAP.out; omega
      have j4 : ¬ cap = 0 := by have := HCAP.out; omega
      have i1 : (0 : Int) ≤ (N : Int) := by omega
      have i2 : (N : Int) < (N : Int) + 1 := by omega
      have ew : IntKind.i64.wrap ((N : Nat) : Int) = (N : Int) := IntWalk.i64_in _ (by omega)
      go_wp2_with fail
      refine (back_in wc _ N cap).mono ?_
      rintro e wb ⟨rfl, hwb⟩
      have hlb : Later wc wb := by rw [hwb]; exact below_new _ _
      have kbs : Blk wb wc.heap.size 81 #[.slice (some ⟨g, 0, none⟩) N cap] := by rw [hwb]; exact Blk.new _ _ _
      have hsb : wb.heap.size = wc.heap.size + 1 := by rw [hwb, World.size_alloc]
      obtain ⟨bs, hbs⟩ : ∃ bs, bs = wc.heap.size := ⟨_, rfl⟩
      rw [← hbs] at kbs ⊢
      have hrn4 := HRN0.out.later HB.out HKG.out.lt hlb
      have hgb : g < wb.heap.size := by
        have e : Blk wb g 89 cur := hrn4.row.trans HKG.out
        exact e.lt
      have HBS := Lib.hid hbs
      have HKBS := Lib.hid kbs
      have HRN4 := Lib.hid hrn4
      have HGB := Lib.hid hgb
      have HSB := Lib.hid hsb
      have hrow4 := HRL.out.keep hrn4.row
      have HROW4 := Lib.hid hrow4
      obtain ⟨LN, hLN⟩ : ∃ LN, LN = L.take N := ⟨_, rfl⟩
      rw [← hLN] at HROW4
      have HLN := Lib.hid hLN
      have hn17 : N ≤ 4096 := by omega
      have HSTEP : Hid (∀ x, x < N → ∃ (pp : Pg) (pi : Nat) (A1 : Option Addr) (c1 : Nat) (A2 : Option Addr) (c2 : Nat) (A3 : Option Addr) (c3 : Nat), LN[x]? = some #[.bool pp.leaf, .slice A1 pp.keys.length c1, .slice A2 pp.vals.length c2, .slice A3 pp.kids.length c3, .int .i64 (pi : Nat)] ∧ FULL[x]? = some (pp, pi) ∧ PgA W2 A1 c1 A2 c2 A3 c3 pp) := Lib.hid fun x hx => by
        obtain ⟨y, hy⟩ : ∃ y, FULL[x]? = some y := ⟨_, List.getElem?_eq_getElem (by have := HNL.out; omega)⟩
        obtain ⟨pp, pi⟩ := y
        obtain ⟨c, hc⟩ : ∃ c, LN[x]? = some c := ⟨_, List.getElem?_eq_getElem (by have := HROW4.out.1; omega)⟩
        have hcL : L[x]? = some c := by rw [hLN, List.getElem?_take, if_pos hx] at hc; exact hc
        obtain ⟨A1, c1, A2, c2, A3, c3, rfl, hpa⟩ := HRX.out x c _ hcL hy
        exact ⟨pp, pi, A1, c1, A2, c2, A3, c3, hc, hy, hpa⟩
      have HWS4 : Hid (w.heap.size ≤ wb.heap.size) := Lib.hid hrn4.wr.size
      clear hlb kbs hsb hbs hrn4 hgb hwb hrow4 hLN j1 j2 j3 j4 i1 i2 ew
      go_wp2_with fail
      refine (wpIn_wide (n := 5)).1 ?_
      refine rangeFunc_down (F := Fence.wide) (fun a' k h => { tmps := ((a'.tmps.setIfInBounds 67 (.int .i64 ((N - 1 - k : Nat) : Int))).setIfInBounds 68 (.agg (LN[N - 1 - k]?.getD #[]))).setIfInBounds 15 (.pointer (some ⟨h, 0, none⟩)), defers := [] })
        (fun k h W => wb.heap.size ≤ h ∧ Blk W h 89 (LN[N - 1 - k]?.getD #[])) rfl (by omega)
        (gf := 63) (lb := #[.pointer (some ⟨bs, 0, none⟩)]) rfl trivial (enters_of Try.func63 (by kernel_rfl) rfl)
        (encs := fun k => #[.int .i64 ((N - 1 - k : Nat) : Int), .agg (LN[N - 1 - k]?.getD #[])]) (Kp := KpB bs g) (N := N)
        (fun l J Jx W hW hY h0 => back1_in Fence.wide (5 - 1) trivial rfl (by omega) l bs g N cap LN hn17 J Jx hY W (HKBS.out.below hW HKBS.out.lt) (HROW4.out.keep ((show Below _ _ _ from hW).block g HGB.out)) h0)
        (fun h k => ⟨k.1.trans h.1, k.2.trans h.2⟩)
        (fun W l o' hl => ⟨World.putObj_heap_other (by have := HKBS.out.lt; omega), World.putObj_heap_other (by have := HGB.out; omega)⟩)
        (fun _ => rfl)
        (fun k W => ∃ s' n, dropW ill key (FULL.drop (N - k)) ⟨s.S, s.n + FULL.length⟩ = (s', some n) ∧ Rnd B b ill w W2 r1 r2 rb q rn g 27 s' 0 #[.int .u64 n] W ∧ Blk W bs 81 #[.slice (some ⟨g, 0, none⟩) N cap])
        (fun W => ∃ s', dropW ill key FULL ⟨s.S, s.n + FULL.length⟩ = (s', none) ∧ Wr B b ill s' w W ∧ W.cell? ⟨r1, 0, none⟩ = some (.int .u64 0) ∧ W.cell? ⟨r2, 0, none⟩ = some (.int .i64 4))
        ?hI ?hIx ?h0 ?hR ?assign ?body ?done ?stop
      case hI =>
        rintro k X Y row ⟨s', n, h1, h4, h5⟩ hg hr
        exact ⟨s', n, h1, h4.grown HB.out HKG.out hg (fun r e => ⟨by have := (hr r e).1; have := HWS4.out; omega, (hr r e).2⟩), h5.grown hg (blk_row h5 fun r e => (hr r e).2)⟩
      case hIx =>
        rintro X Y row ⟨s', h2, h3, h4, h5⟩ hg hr
        exact ⟨s', h2, h3.grown HB.out hg (fun r e => ⟨by have := (hr r e).1; have := HWS4.out; omega, (hr r e).2⟩), cell_kept h4 hg (fun r e => (hr r e).2), cell_kept h5 hg (fun r e => (hr r e).2)⟩
      case h0 =>
        exact ⟨s0, n0, HPD.out, HRN4.out, HKBS.out⟩
      case hR =>
        intro k h X Y row hs hg hr
        exact ⟨hs.1, hs.2.grown hg (blk_row hs.2 fun r e => (hr r e).2)⟩
      case assign =>
        rintro l k W K hI hkN hK
        obtain ⟨x, hx⟩ : ∃ x, x = N - 1 - k := ⟨_, rfl⟩
        rw [← hx] at hK ⊢
        obtain ⟨pp, pi, A1, c1, A2, c2, A3, c3, hc, hpx, hpa⟩ := HSTEP.out x (by omega)
        rw [hc, Option.getD_some] at hK ⊢
        obtain ⟨s', n, h1, h4, h5⟩ := hI
        have hlY : Later W (W.alloc (.cells #[.bool pp.leaf, .slice A1 pp.keys.length c1, .slice A2 pp.vals.length c2, .slice A3 pp.kids.length c3, .int .i64 (pi : Nat)] 89)) := below_new _ _
        have kg : Blk W g 89 cur := h4.row.trans HKG.out
        have hK' := hK W.heap.size _ ((KeepsOthers.alloc W _).from _) ⟨(show Below _ _ _ from hlY).block bs h5.lt, (show Below _ _ _ from hlY).block g kg.lt⟩
          ⟨s', n, h1, h4.later HB.out HKG.out.lt hlY, h5.below hlY h5.lt⟩ ⟨by have := h5.lt; have := HSB.out; have := HBS.out; omega, Blk.new W 89 #[.bool pp.leaf, .slice A1 pp.keys.length c1, .slice A2 pp.vals.length c2, .slice A3 pp.kids.length c3, .int .i64 (pi : Nat)]⟩
        dsimp only at hK' ⊢
        clear hc hpx hpa hK h1 h4 h5 hlY hx kg
        gi_wp2
        exact hK'
      case body =>
        rintro l k h W ⟨s', n, h1, h4, h5⟩ ⟨hh1, hh2⟩ hkN
        simp only [List.setIfInBounds_toArray, List.set_cons_succ, List.set_cons_zero]
        refine wpIn_block ?_
        obtain ⟨x, hx⟩ : ∃ x, x = N - 1 - k := ⟨_, rfl⟩
        rw [← hx] at hh2 ⊢
        obtain ⟨pp, pi, A1, pc1, A2, pc2, A3, pc3, hc, hpx, hpa⟩ := HSTEP.out x (by omega)
        rw [hc, Option.getD_some] at hh2 ⊢
        have hxk : N - k = x + 1 := by omega
        rw [hxk] at h1
        obtain ⟨hplf, hpok, hpi, hpk⟩ := HDR.out.st x _ hpx (by have := HNL.out; omega)
        obtain ⟨hb1, hb2, hb3⟩ := dropW_bnd ill key (FULL.drop (x + 1)) ⟨s.S, s.n + FULL.length⟩
        rw [h1] at hb1 hb2 hb3
        dsimp only at hb1 hb2 hb3 hplf hpok hpi hpk
        rw [List.length_drop] at hb2 hb3
        have htw0 : Two s'.S := by
          have := dropW_two (ill := ill) (key := key) (l := FULL.drop (x + 1)) (s := ⟨s.S, s.n + FULL.length⟩) H2.out (HDR.out.drop (by have := HNL.out; omega))
          rw [h1] at this; exact this
        obtain ⟨vW, hshW⟩ := h4.wr.sh
        have CT := turned_any (n := n) hshW (by have := HB.out; have := h4.wr.size; omega) (by have := HN.out; omega) (by have := HN2.out; have := HWL.out; omega) (by have := HL.out; have := HWL.out; omega) (hpa.sm h4.sm) hpok hplf hpi hpk
        unfold shV at CT
        have CT := Lib.hid CT
        have hdat := drop_at hpx (by have := HNL.out; omega) h1
        obtain ⟨D, hD⟩ : ∃ D, D = turnW ill s' pp pi n := ⟨_, rfl⟩
        rw [← hD] at hdat CT
        have htw : Two D.1.S := by
          rw [hD]
          refine two_turn htw0 ?_
          have := StepOk.kids (x := (pp, pi)) ⟨hplf, hpok, hpi, hpk⟩
          dsimp only at this
          omega
        have HTW := Lib.hid htw
        have HDAT := Lib.hid hdat
        have HXK := Lib.hid hxk
        have HXE := Lib.hid hx
        have HI4 := Lib.hid h4
        have HI5 := Lib.hid h5
        have HH2 := Lib.hid hh2
        have y0 : W.cell? ⟨h, 0, none⟩ = some (.bool pp.leaf) := (hh2.cell 0).trans rfl
        have y1 : W.cell? ⟨h, 1, none⟩ = some (.slice A1 pp.keys.length pc1) := (hh2.cell 1).trans rfl
        have y2 : W.cell? ⟨h, 2, none⟩ = some (.slice A2 pp.vals.length pc2) := (hh2.cell 2).trans rfl
        have y3 : W.cell? ⟨h, 3, none⟩ = some (.slice A3 pp.kids.length pc3) := (hh2.cell 3).trans rfl
        have y4 : W.cell? ⟨h, 4, none⟩ = some (.int .i64 (pi : Nat)) := (hh2.cell 4).trans rfl
        have cb := h4.kb.c0
        have cn := h4.ka.c0
        clear h1 h4 h5 hh1 hh2 hx hc hpx hpa hxk hplf hpok hpi hpk hb1 hb2 hb3 htw0 hshW hdat hD htw
        gi_wp2
        refine ⟨trivial, (CallsIn.inRound l (callsIn_wide.2 CT.out)).mono ?_⟩
        rintro e w7 ⟨he, hw7⟩
        obtain ⟨en, hen⟩ : ∃ en, en = D.2.getD 0 := ⟨_, rfl⟩
        obtain ⟨er, her⟩ : ∃ er : Int, er = (if D.2.isSome then 0 else 4) := ⟨_, rfl⟩
        rw [← hen, ← her] at he
        subst he
        have h7 := HI4.out.wroteN HKG.out hw7
        have k7 := hw7.far _ _ _ far_steps HI5.out
        have hb1 := h7.boxN (y := en) HB.out HKG.out HTW.out HRN2.out HRA.out.1 HRA.out.2
        have cn := h7.ka.c0
        have fn := h7.ka.frozen 0
        have cq := h7.ke.c0
        have fq := h7.ke.frozen 0
        have nqr := HN6.out.2.2.2.1
        have kb1 := k7.far (p := ⟨rn, 0, none⟩) (k7.ne_ h7.ka (by decide)) (.int .u64 en)
        obtain ⟨V1, hV1⟩ : ∃ V1, V1 = w7.setCell ⟨rn, 0, none⟩ (.int .u64 en) := ⟨_, rfl⟩
        rw [← hV1] at hb1 kb1
        have u2 := upd1 hb1.ke 0 (.int .i64 er)
        have hb2 := hb1.updE (er' := er) HB.out HKG.out (by simpa using u2) HQW.out.1 HN6.out
        have kb2 := kb1.far (p := ⟨q, 0, none⟩) (kb1.ne_ hb1.ke (by decide)) (.int .i64 er)
        obtain ⟨V2, hV2⟩ : ∃ V2, V2 = V1.setCell ⟨q, 0, none⟩ (.int .i64 er) := ⟨_, rfl⟩
        rw [← hV2] at hb2 kb2
        have hko : KeepsOthers W V2 := by rw [hV2, hV1]; exact (hw7.oth.trans (KeepsOthers.setCell w7 ⟨rn, 0, none⟩ (.int .u64 en))).trans (KeepsOthers.setCell _ ⟨q, 0, none⟩ (.int .i64 er))
        have hkp : KpB bs g W V2 := ⟨kb2.trans (show W.heap[bs]? = _ from HI5.out).symm, hb2.row.trans HI4.out.row.symm⟩
        have HB2 := Lib.hid hb2
        have HKO := Lib.hid hko
        have HKP2 := Lib.hid hkp
        have HKB2 := Lib.hid kb2
        have HV1 := Lib.hid hV1
        have HV2 := Lib.hid hV2
        clear h7 k7 hw7 hb1 kb1 u2 hb2 kb2 hV1 hV2 hko hkp y0 y1 y2 y3 y4 cb CT
        cases hD2 : D.2 with
        | none =>
          have he4 : er = 4 := by rw [her, hD2]; rfl
          subst he4
          have HPN : Hid (dropW ill key FULL ⟨s.S, s.n + FULL.length⟩ = (D.1, none)) := Lib.hid (drop_none x (by have := HNL.out; have := HXE.out; omega) (by rw [HDAT.out, ← hD2]))
          clear hen her hD2
          gi_wp2
          rw [← HV1.out, ← HV2.out]
          clear cn fn cq fq nqr
          have HL0 := Lib.hid (Later.refl V2)
          have ZF0 : Hid (∀ s, V2.heap.size ≤ s → V2.heap.size ≤ s) := Lib.hid (fun _ h => h)
          have ZS0 : Hid (∀ V, Later V2 V → ((fun V => V.cell? ⟨q, 0, none⟩ = some (.int .i64 4))) V) := Lib.hid (fun V hV => (HB2.out.ke.below hV HB2.out.ke.lt).c0)
          refine walk_startR 2 (S := (fun V => V.cell? ⟨q, 0, none⟩ = some (.int .i64 4))) (T := Later V2) (by kernel_rfl) (fun r => V2.heap.size ≤ r) (fun _ h => h.size) ZS0.out (closed_later _) (Later.refl _).drew (by kernel_rfl) (by rintro ⟨_, _, h⟩; exact h) ?_
          refine wt 0 78 ?_ (fun V hV => ?_) ?_
          rotate_left 1
          · (have ce := id hV; clear hV; go_simp; (try with_reducible rfl))
          try simp only [pa, List.set]
          refine walk_core 1 rfl (by kernel_rfl) (fun _ _ _ _ _ h => h) (fun V hV K hK => ?_)
          have hV0 := HL0.out.trans hV
          have hSV := ZS0.out V hV
          try simp only [List.getElem_toArray, List.getElem_cons_succ, List.getElem_cons_zero]
          have k1 := HB2.out.k1.below hV0 HB2.out.k1.lt
          have c1 := k1.c0
          have f1 := k1.frozen 0
          obtain ⟨x1, hx1⟩ : ∃ x1, x1 = V.setCell ⟨r1, 0, none⟩ (.int .u64 0) := ⟨_, rfl⟩
          go_simp
          rw [← hx1]
          have hsize : V.heap.size ≤ x1.heap.size := by rw [hx1]; simp [World.setCell]
          have hd1 : DKept (fun k => k = r1) V x1 := by rw [hx1]; exact (DKept.refl (S := fun k => k = r1)).set rfl
          have hkeep := fun (r : Nat) (hF : V2.heap.size ≤ r) (hl : r < V.heap.size) => hd1.block r hl (fun e => by have := HB2.out.k1.lt; omega)
          have hS := fun V' (h : Later x1 V') => (show V'.cell? ⟨q, 0, none⟩ = some (.int .i64 4) from (((hd1.blk (HB2.out.ke.below hV0 HB2.out.ke.lt) nq1).below h (hd1.blk (HB2.out.ke.below hV0 HB2.out.ke.lt) nq1).lt)).c0)
          have HVX : Hid (∃ V, Later V2 V ∧ x1 = V.setCell ⟨r1, 0, none⟩ (.int .u64 0)) := Lib.hid ⟨V, hV0, hx1⟩
          clear k1 c1 f1 hx1 hd1
          have ZF1 : Hid (∀ s, x1.heap.size ≤ s → _) := Lib.hid (fun s h => ZF0.out s (Nat.le_trans hV.size (Nat.le_trans hsize h)))
          have ZS1 : Hid (∀ V, Later x1 V → ((fun V => V.cell? ⟨q, 0, none⟩ = some (.int .i64 4))) V) := Lib.hid hS
          refine hK.out _ _ ((fun V => V.cell? ⟨q, 0, none⟩ = some (.int .i64 4))) (Later x1) _ hkeep (fun _ h _ => h) (fun _ h => h) ZS1.out (fun V' h => ZF1.out _ h.size) (Later.refl _) (closed_later _) ?_
          clear hK K hV hsize hkeep hV0 hSV hS
          try simp only [Act.put]
          try simp only [pa, List.set]
          refine walk_exit (fun V hV => ?_)
          have hSV := ZS1.out V hV
          try simp only [pa, List.set]
          obtain ⟨V0, hV0, rfl⟩ := HVX.out
          have hw := (HB2.out.wr.later HB.out hV0).box HTW.out (HB2.out.k1.below hV0 HB2.out.k1.lt) (w' := V0.setCell ⟨r1, 0, none⟩ (.int .u64 0)) ((DKept.refl (S := fun k => k = r1)).set rfl) HQW.out.2.1 HB.out
          have q1 : Blk (V0.setCell ⟨r1, 0, none⟩ (.int .u64 0)) r1 27 #[.int .u64 0] := by have := (HB2.out.k1.below hV0 HB2.out.k1.lt).set_ 0 (.int .u64 0); simpa using this
          have q2 := (HB2.out.k2.below hV0 HB2.out.k2.lt).far (p := ⟨r1, 0, none⟩) n12.symm (.int .u64 0)
          have p1 := q1.below hV q1.lt
          have p2 := q2.below hV q2.lt
          have u := upd1 p2 0 (.int .i64 4)
          have hwV := (hw.later HB.out hV).upd u p2 far_err HQW.out.2.2 HB.out
          have hko : KeepsOthers W (V.setCell ⟨r2, 0, none⟩ (.int .i64 4)) := ((((HKO.out.trans (later_others hV0)).trans (KeepsOthers.setCell V0 ⟨r1, 0, none⟩ (.int .u64 0))).trans (later_others hV)).trans (KeepsOthers.setCell V ⟨r2, 0, none⟩ (.int .i64 4)))
          have c2 := p2.c0
          have f2 := p2.frozen 0
          have x1 := (u.far p1 n12).c0
          have x2 : (V.setCell ⟨r2, 0, none⟩ (.int .i64 4)).cell? ⟨r2, 0, none⟩ = some (.int .i64 4) := by
            have := u.blk
            have this : Blk (V.setCell ⟨r2, 0, none⟩ (.int .i64 4)) r2 28 #[.int .i64 4] := by simpa using this
            exact this.c0
          have FIN : Hid (KeepsOthers W (V.setCell ⟨r2, 0, none⟩ (.int .i64 4)) ∧ Wr B b ill D.1 w (V.setCell ⟨r2, 0, none⟩ (.int .i64 4)) ∧ (V.setCell ⟨r2, 0, none⟩ (.int .i64 4)).cell? ⟨r1, 0, none⟩ = some (.int .u64 0) ∧ (V.setCell ⟨r2, 0, none⟩ (.int .i64 4)).cell? ⟨r2, 0, none⟩ = some (.int .i64 4)) := Lib.hid ⟨hko, hwV, x1, x2⟩
          clear hw q1 q2 p1 p2 u hwV hko x1 x2 hV hV0 hSV
          refine wpAnyJ_one (i := 2) (by kernel_rfl) rfl (fun K hK => ?_)
          simp only [List.getElem_toArray, List.getElem_cons_succ, List.getElem_cons_zero]
          go_simp
          refine hK.out _ _ (fun h _ => absurd rfl h) ?_
          clear hK K
          try simp only [pa, List.set]
          refine wpAnyJ_done (by kernel_rfl) ?_ _
          gi_wp2
          exact ⟨FIN.out.1.from _, rfl, D.1, HPN.out, FIN.out.2⟩
        | some n' =>
          have he0 : er = 0 := by rw [her, hD2]; rfl
          have hen' : en = n' := by rw [hen, hD2]; rfl
          subst he0 hen'
          have HPN : Hid (dropW ill key (FULL.drop x) ⟨s.S, s.n + FULL.length⟩ = (D.1, some en)) := Lib.hid (by rw [HDAT.out, ← hD2])
          clear hen her hD2
          gi_wp2
          rw [← HV1.out, ← HV2.out]
          exact ⟨HKO.out.from _, HKP2.out, D.1, en, by rw [show N - (k + 1) = x by have := HXE.out; omega]; exact HPN.out, HB2.out, HKB2.out⟩
      case done =>
        rintro DD W hD ⟨s', n, h1, h4, h5⟩ hDD
        rw [Nat.sub_self, List.drop_zero] at h1
        have HDD := Lib.hid hDD
        have HDW : Hid (w.heap.size ≤ DD) := Lib.hid (by have := HWS4.out; omega)
        have HTW : Hid (Two s'.S) := Lib.hid (by have := dropW_two (ill := ill) (key := key) (s := ⟨s.S, s.n + FULL.length⟩) H2.out HDR.out; rw [h1] at this; exact this)
        have HRNW := Lib.hid h4
        have cn := h4.ka.c0
        have c1 := h4.k1.c0
        have c2 := h4.k2.c0
        have f1 := h4.k1.frozen 0
        have f2 := h4.k2.frozen 0
        have g3 := n12
        have hput : T = (s', n, 0) := by
          rw [HTT.out]; unfold dropT; rw [if_neg HNS.out, if_neg (by simp), h1]
        have HPUT := Lib.hid hput
        clear h1 h4 h5 hput hDD
        go_wp2_with fail
        obtain ⟨d0, hw, y1, y2⟩ := exit_defer HRNW.out.wr HTW.out HRNW.out.k1 HRNW.out.k2 HQW.out.2.1 HQW.out.2.2 HB.out HDW.out HDD.out (Below.refl _ _)
        refine ⟨by simp, .inl ⟨_, _, rfl, run_takeDeferred d0, ?_⟩⟩
        refine ⟨_, results_drop _ _ r1 r2 n 0 rfl rfl y1 y2, ?_⟩
        rw [HPUT.out]
        exact ⟨rfl, hw⟩
      case stop =>
        rintro DD W hD ⟨s', h2, h3, h4, h5⟩ hDD
        have hput : T = (s', 0, 4) := by
          rw [HTT.out]; unfold dropT; rw [if_neg HNS.out, if_neg (by simp), h2]
        have HPUT := Lib.hid hput
        have H3 := Lib.hid h3
        have HDW : Hid (w.heap.size ≤ DD) := Lib.hid (by have := HWS4.out; omega)
        clear hput h2 h3
        gi_wp2
        refine ⟨by simp, .inl ⟨_, _, rfl, run_takeDeferred hDD, ?_⟩⟩
        have hg := grownBy_putObj' W DD (.deferred none)
        have hr : ∀ r, some DD = some r → ∃ o : Obj, W.heap[r]? = some o ∧ o.isCells = false := fun r e => by cases e; exact ⟨_, hDD, rfl⟩
        refine ⟨_, results_drop _ _ r1 r2 0 4 rfl rfl (cell_kept h4 hg hr) (cell_kept h5 hg hr), ?_⟩
        rw [HPUT.out]
        exact ⟨rfl, H3.out.grown HB.out hg fun r e => ⟨by cases e; exact HDW.out, hr r e⟩⟩
end Go.Proofs.Ytafeddjcomeniaa
end

/- tree.Put and tree.Drop of a whole tree, whatever the shelf does. Conditions: the shelf lies in memory, no page of it has just one kid; the tree is good, with few items. -/
section
namespace Go.Proofs.Ytafeddjcomeniaa
open Go.RowKit
set_option linter.unusedVariables false
set_option linter.unusedSimpArgs false

section
variable {B b : Nat} {w : World} {ill : Int} {s : Sh} {v : Value}
theorem put_any {Q : Pg → Prop} (hQ : QPut Q 16383) {k : Nat} {root : Int} {l : List KV} {key val : ByteArray} (h : ShAt B w b ill s v) (hB : B ≤ w.heap.size) (hn : 0 ≤ s.n) (hn2 : s.n < 90000000) (hl : s.S.length ≤ 16000) (h2 : Two s.S)
    (ht : Tree Q s.S k root l) (hkk : k ≤ 125) (hk : keyFit key) (hv : val.size ≤ 400) :
    Calls Try.prog 10 #[shV b, .int .u64 root, .string key, .string val] w fun e w' => ∃ s' n er, e = .returned (.tuple #[.int .u64 n, .int .i64 er]) ∧ Wr B b ill s' w w' ∧ Chg Q ill s s' n er (k + 1) (putL l key val) := by
  by_cases h0 : root = 0
  · subst h0
    rw [ht.none_ rfl]
    refine (putT_none h hB hn (by omega) (by omega) h2 hk hv rfl rfl).mono ?_
    rintro e w' ⟨rfl, hw⟩
    exact ⟨_, _, _, rfl, hw, putT_ok0 ill hk hv hQ h2⟩
  · obtain ⟨d, hok, hit, hdp, _⟩ := ht.deep h0
    obtain ⟨hR, hJ, hC⟩ := putT_ok ill hk hv hQ ht h2 h0 hok hit hdp hkk hl hn hn2
    have hf := ht.few
    refine (putT_some h hB hn (by omega) (by omega) h2 hok (by rw [hit]; omega) (by omega) hk hv hR hJ).mono ?_
    rintro e w' ⟨rfl, hw⟩
    exact ⟨_, _, _, rfl, hw, hC⟩
/-- How a drop ends. -/
structure ChgD (Q : Pg → Prop) (ill : Int) (s s' : Sh) (n er : Int) (k : Nat) (l : List KV) (key : ByteArray) : Prop where
  res : (er = 4 ∧ n = 0 ∧ ∃ X, Grew ill s s' X false) ∨ (er = 5 ∧ n = 0 ∧ getL l key = none ∧ ∃ X, Grew ill s s' X true) ∨ (er = 0 ∧ getL l key ≠ none ∧ (∃ X, Grew ill s s' X true) ∧ Tree Q s'.S k n (delL l key))
  cost : s'.n ≤ s.n + 100
  two : Two s'.S
set_option maxRecDepth 100000 in
set_option maxHeartbeats 4000000 in
theorem dropT_none (h : ShAt B w b ill s v) (hB : B ≤ w.heap.size) (h2 : Two s.S) (key : ByteArray) :
    Calls Try.prog 11 #[shV b, .int .u64 0, .string key] w fun e w' => TPost B b ill s 0 5 w e w' := by
  obtain ⟨W0, hW0⟩ : ∃ W0, W0 = ((w.alloc (.cells #[.iface 23 (.pointer (some ⟨b, 0, none⟩))] 79)).alloc (.cells #[.int .u64 0] 27)).alloc (.cells #[.int .i64 0] 28) := ⟨_, rfl⟩
  have hb0 : Later w W0 := by rw [hW0]; exact ((below_new _ _).alloc (by simp) _).alloc (by rw [World.size_alloc, World.size_alloc]; omega) _
  have hs0 : W0.heap.size = w.heap.size + 3 := by rw [hW0]; simp
  have kb : Blk W0 w.heap.size 79 #[.iface 23 (.pointer (some ⟨b, 0, none⟩))] := by rw [hW0]; exact ((Blk.new _ _ _).alloc _).alloc _
  have k1 : Blk W0 (w.heap.size + 1) 27 #[.int .u64 0] := by
    rw [hW0]
    have := Blk.new (w.alloc (.cells #[.iface 23 (.pointer (some ⟨b, 0, none⟩))] 79)) 27 #[.int .u64 0]
    rw [World.size_alloc] at this
    exact this.alloc _
  have k2 : Blk W0 (w.heap.size + 1 + 1) 28 #[.int .i64 0] := by
    rw [hW0]
    have := Blk.new ((w.alloc (.cells #[.iface 23 (.pointer (some ⟨b, 0, none⟩))] 79)).alloc (.cells #[.int .u64 0] 27)) 28 #[.int .i64 0]
    rwa [World.size_alloc, World.size_alloc] at this
  have hw0 : Wr B b ill s w W0 := ⟨⟨v, h.later hb0⟩, (show Below _ _ _ from hb0).mono hB, fun g t cs _ x => x.below hb0 x.lt, Sm.later hb0, later_others hb0⟩
  have c1 := k1.c0
  have c2 := k2.c0
  have f1 := k1.frozen 0
  have f2 := k2.frozen 0
  have FIN := Lib.hid (exit_two (n := 0) (er := 5) hw0 h2 k1 k2 (Nat.le_succ _) (by omega) hB)
  have HW0 := Lib.hid hW0
  clear h hB h2 hb0 hs0 hW0 kb k1 k2 hw0
  unfold shV
  refine (callsIn_wide (n := 5)).1 ?_
  refine callsIn_of_wp_marks Try.func11 rfl trivial ?_ rfl
  refine wpIn_wide.2 ?_
  simp only [Try.ntmps11, List.size_toArray, List.length_cons, List.length_nil, Nat.reduceAdd, Nat.reduceSub, Array.replicate_succ, Array.replicate_zero, List.push_toArray, List.append_toArray, List.nil_append, List.cons_append]
  go_upto_region 1 with fail
  rw [← HW0.out]
  go_wp2_with fail
  obtain ⟨hw, y1, y2⟩ := FIN.out
  exact ⟨_, results_drop _ _ _ _ 0 5 rfl rfl y1 y2, rfl, hw⟩
theorem drop_any {Q : Pg → Prop} (hQ : ∀ p, Q p) {k : Nat} {root : Int} {l : List KV} (key : ByteArray) (h : ShAt B w b ill s v) (hB : B ≤ w.heap.size) (hn : 0 ≤ s.n) (hn2 : s.n < 90000000) (hl : s.S.length ≤ 16000) (h2 : Two s.S)
    (ht : Tree Q s.S k root l) (hkk : k ≤ 125) :
    Calls Try.prog 11 #[shV b, .int .u64 root, .string key] w fun e w' => ∃ s' n er, e = .returned (.tuple #[.int .u64 n, .int .i64 er]) ∧ Wr B b ill s' w w' ∧ ChgD Q ill s s' n er k l key := by
  by_cases h0 : root = 0
  · subst h0
    refine (dropT_none h hB h2 key).mono ?_
    rintro e w' ⟨rfl, hw⟩
    refine ⟨_, _, _, rfl, hw, .inr (.inl ⟨rfl, rfl, by rw [ht.none_ rfl]; rfl, [], Grew.id ill s⟩), by omega, h2⟩
  · obtain ⟨d, hok, hit, hdp, _⟩ := ht.deep h0
    have hf := ht.few
    refine (dropT_some h hB hn (by omega) (by omega) h2 hok (by rw [hit]; omega) (by omega) rfl).mono ?_
    rintro e w' ⟨rfl, hw⟩
    refine ⟨_, _, _, rfl, hw, ?_⟩
    have hwl := way_len (S := s.S) (key := key) d root
    have hdr : Drops (wayN s.S d root key) := ⟨fun j x hj hlt => way_steps (by omega) hok (inB_all key) (by rw [hit]; omega) j x hj hlt, fun x hx => by
      obtain ⟨p, i, hlast, hlf, _, _⟩ := find_way hok (inB_all key)
      rw [hlast] at hx
      cases hx
      exact ⟨hlf, way_ok (by omega) hok (inB_all key) (by rw [hit]; omega) _ (List.mem_of_getLast? hlast)⟩⟩
    have hbnd := dropW_bnd ill key (wayN s.S d root key) ⟨s.S, s.n + (wayN s.S d root key).length⟩
    have htw := dropW_two (ill := ill) (key := key) (s := ⟨s.S, s.n + (wayN s.S d root key).length⟩) h2 hdr
    have hW := dropW_ok ill hQ d root none none ⟨s.S, s.n + (wayN s.S d root key).length⟩ hok (inB_all key)
    dsimp only at hW
    rw [hit] at hW ⊢
    generalize wayN s.S d root key = FULL at *
    unfold dropT
    by_cases hi : s.n < ill ∧ ill ≤ s.n + (FULL.length : Int)
    · rw [if_pos hi]
      exact ⟨.inl ⟨rfl, rfl, _, Grew.ill hi⟩, by dsimp only; omega, h2⟩
    · rw [if_neg hi]
      have hg0 := Grew.read hi
      cases hT : (getL l key).isSome with
      | false =>
        rw [if_pos rfl]
        exact ⟨.inr (.inl ⟨rfl, rfl, by simpa using hT, _, hg0⟩), by dsimp only; omega, h2⟩
      | true =>
        rw [if_neg (by simp)]
        have hne : getL l key ≠ none := fun e => by rw [e] at hT; cases hT
        rcases (hW hne).2 with ⟨s', X, e', g, hc⟩ | ⟨s', X, r, e', H⟩
        · rw [e'] at htw ⊢
          exact ⟨.inl ⟨rfl, rfl, _, hg0.trans g⟩, by dsimp only at hc ⊢; omega, htw⟩
        · rw [e'] at htw ⊢
          have hc := H.cost
          exact ⟨.inr (.inr ⟨rfl, hne, ⟨_, hg0.trans H.grew⟩, Tree.drop (s := ⟨s.S, s.n + FULL.length⟩) ht hit hdp H⟩), by dsimp only at hc ⊢; omega, htw⟩
end
end Go.Proofs.Ytafeddjcomeniaa
end

/- tree.Pages and tree.Deep. Conditions: the shelf lies in memory and is well; the tree is good, at most 20 deep, with few items. -/
section
namespace Go.Proofs.Ytafeddjcomeniaa
open Go.RowKit
set_option linter.unusedVariables false
set_option linter.unusedSimpArgs false

def CountPost (b : Nat) (ill : Int) (s : Sh) (v : Value) (L : List Int) (D : Int) (w : World) (e : Ending) (w' : World) : Prop :=
  ∃ g n r, e = .returned (.tuple #[.pointer (some ⟨g, 0, none⟩), .int .i64 0]) ∧ s.n ≤ n ∧ n ≤ s.n + 4096 ∧ CtAt w b g ill v n r L D w'
section
variable {B b : Nat} {w : World} {ill : Int} {s : Sh} {v : Value}
theorem count_start (h : ShAt B w b ill s v) : CtAt w b w.heap.size ill v s.n 0 [] 0 (w.alloc (.cells #[shV b, .int .i64 0, .slice none 0 0, .int .i64 0] 123)) :=
  ⟨DKept.of_below (below_new _ _), h.blk.below (below_new _ _) h.blk.lt, ⟨none, 0, Blk.new _ _ _, World.ownsRow_nil _ _ _ _⟩, Nat.le_refl _⟩
set_option maxRecDepth 100000 in
theorem count_none (h : ShAt B w b ill s v) : Calls Try.prog 54 #[shV b, .int .u64 0] w (CountPost b ill s v [] 0 w) := by
  have hc := count_start h
  unfold shV at hc ⊢
  have FIN : Hid (CountPost b ill s v [] 0 w (.returned (.tuple #[.pointer (some ⟨w.heap.size, 0, none⟩), .int .i64 0])) (w.alloc (.cells #[.iface 23 (.pointer (some ⟨b, 0, none⟩)), .int .i64 0, .slice none 0 0, .int .i64 0] 123))) := Lib.hid ⟨_, _, _, rfl, Int.le_refl _, by omega, hc⟩
  clear h hc
  go_enter Try.func54, Try.ntmps54
  go_wp2_with fail
  go_ret2
  exact FIN.out
set_option maxRecDepth 100000 in
theorem count_some {Q : Pg → Prop} {root : Int} {d : Nat} (h : ShAt B w b ill s v) (hn : 0 ≤ s.n) (hn2 : s.n < 900000000) (hl : s.S.length ≤ 100000) (hw : ill ≤ s.n)
    (ht : OkN Q s.S d root none none) (hi' : (itemsN s.S d root).length ≤ 200) (hd : d ≤ 20) : Calls Try.prog 54 #[shV b, .int .u64 root] w (CountPost b ill s v (pagesN s.S d root) (deepN s.S d root) w) := by
  have hc := count_start h
  have hnod := nodes_le ht
  have CW := cwalk_any h d ⟨ht, by omega, hl, hw, hn, by omega, Int.le_refl _, by omega, Int.le_refl _, by omega, by simp; omega⟩ hc (deep := 1)
  rw [List.nil_append] at CW
  have e1 : max (0 : Int) (1 - 1 + (deepN s.S d root : Int)) = (deepN s.S d root : Int) := by omega
  rw [e1] at CW
  have hroot : ((root : Int) == 0) = false := beq_eq_false_iff_ne.2 (by have := (ok_le ht).1; omega)
  obtain ⟨W1, hW1⟩ : ∃ W1, W1 = w.alloc (.cells #[shV b, .int .i64 0, .slice none 0 0, .int .i64 0] 123) := ⟨_, rfl⟩
  rw [← hW1] at CW
  have HN : Hid (nodesN s.S d root ≤ 400) := Lib.hid (by omega)
  unfold shV at hW1 ⊢
  have CW := Lib.hid CW
  have HW1 := Lib.hid hW1
  clear h hn hn2 hl hw ht hi' hd hc hnod hW1 e1
  go_enter Try.func54, Try.ntmps54
  go_wp2_with fail
  rw [← HW1.out]
  refine CW.out.mono ?_
  rintro e w2 ⟨rfl, hat, _⟩
  have FIN : Hid (CountPost b ill s v (pagesN s.S d root) (deepN s.S d root) w (.returned (.tuple #[.pointer (some ⟨w.heap.size, 0, none⟩), .int .i64 0])) w2) := Lib.hid ⟨_, _, _, rfl, by omega, by have := HN.out; omega, hat⟩
  clear hat CW
  go_wp2_with fail
  go_ret2
  exact FIN.out
theorem CtAt.seen {L : List Int} {n r D : Int} {g : Nat} {w' : World} (h : ShAt B w b ill s v) (hc : CtAt w b g ill v n r L D w') (h1 : s.n ≤ n) (h2 : n ≤ s.n + 4096) : Seen B b ill s v 4096 w w' :=
  ⟨n, h1, h2, hc.sh h, ⟨hc.kd.os, hc.kd.tape, hc.kd.output, hc.kd.size, fun k hk hn => hc.kd.block k hk fun e => by
    rcases e with e | e
    · exact hn e
    · omega⟩, hc.sm h⟩
def PagesPost (B b : Nat) (ill : Int) (s : Sh) (v : Value) (L : List Int) (w : World) (e : Ending) (w' : World) : Prop :=
  ∃ A c, e = .returned (.tuple #[.slice A L.length c, .int .i64 0]) ∧ w'.ownsRow w.heap.size 27 1 (.slice A L.length c) L.length (L.map (Value.int .u64)) ∧ Seen B b ill s v 4096 w w'
def DeepPost (B b : Nat) (ill : Int) (s : Sh) (v : Value) (D : Int) (w : World) (e : Ending) (w' : World) : Prop :=
  e = .returned (.tuple #[.int .i64 D, .int .i64 0]) ∧ Seen B b ill s v 4096 w w'
set_option maxRecDepth 100000 in
theorem pagesT_of {root : Int} {L : List Int} {D : Int} (h : ShAt B w b ill s v) (C : Calls Try.prog 54 #[shV b, .int .u64 root] w (CountPost b ill s v L D w)) : Calls Try.prog 22 #[shV b, .int .u64 root] w (PagesPost B b ill s v L w) := by
  unfold shV at C ⊢
  have CC := Lib.hid C
  have H := Lib.hid h
  clear C h
  go_enter Try.func22, Try.ntmps22
  go_wp2_with fail
  refine CC.out.mono ?_
  rintro e w2 ⟨g, n, r, rfl, h1, h2, hat⟩
  obtain ⟨A, c, hb, ho⟩ := hat.blk
  obtain ⟨z0, z1, z2, z3⟩ := cells4 hb
  have FIN : Hid (PagesPost B b ill s v L w (.returned (.tuple #[.slice A L.length c, .int .i64 0])) w2) := Lib.hid ⟨A, c, rfl, ho, hat.seen H.out h1 h2⟩
  clear hat hb ho CC h1 h2
  generalize L.length = ll at *
  go_wp2_with fail
  go_ret2
  exact FIN.out
set_option maxRecDepth 100000 in
theorem deepT_of {root : Int} {L : List Int} {D : Int} (h : ShAt B w b ill s v) (C : Calls Try.prog 54 #[shV b, .int .u64 root] w (CountPost b ill s v L D w)) : Calls Try.prog 25 #[shV b, .int .u64 root] w (DeepPost B b ill s v D w) := by
  unfold shV at C ⊢
  have CC := Lib.hid C
  have H := Lib.hid h
  clear C h
  go_enter Try.func25, Try.ntmps25
  go_wp2_with fail
  refine CC.out.mono ?_
  rintro e w2 ⟨g, n, r, rfl, h1, h2, hat⟩
  obtain ⟨A, c, hb, ho⟩ := hat.blk
  obtain ⟨z0, z1, z2, z3⟩ := cells4 hb
  have FIN : Hid (DeepPost B b ill s v D w (.returned (.tuple #[.int .i64 D, .int .i64 0])) w2) := Lib.hid ⟨rfl, hat.seen H.out h1 h2⟩
  clear hat hb ho CC h1 h2
  generalize L.length = ll at *
  go_wp2_with fail
  go_ret2
  exact FIN.out
end
end Go.Proofs.Ytafeddjcomeniaa
end
