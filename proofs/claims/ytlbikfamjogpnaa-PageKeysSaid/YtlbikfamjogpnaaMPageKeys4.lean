/- The texts of this proof, joined: contracts of the functions that the law reaches, and what they come to in plain Lean. Conditions: those that each theorem names. -/
import Derived.Deep.RegionHeld3
import Derived.Deep.DrawnRows
import Derived.Below
import Derived.Test.YtlbikfamjogpnaaMPageKeys3
import Derived.Deep.DeepCutAuto
import Derived.Test.YtlbikfamjogpnaaMPageKeys0
import Derived.Sort.Walk0
import Derived.WideShapes
import Derived.Deep.LoopGhost
import Derived.Deep.RegionLaw

/- Regions whose order is drawn, walked in one order: blocks that are made at whatever moment ('makers') are pending till all else waits for them; calls that write nothing old come one behind the other. Conditions: none. -/
section
namespace Go.Proofs.Ytlbikfamjogpnaa
open Go.RowKit
set_option linter.unusedVariables false

/-- A world to which things were added: nothing that was there has turned. -/
def Later (w W : World) : Prop := Below w.heap.size w W
theorem Later.refl (w : World) : Later w w := Below.refl _ _
theorem Later.trans {a b c : World} (h : Later a b) (k : Later b c) : Later a c := Below.trans h (Below.mono k h.size)
theorem Later.of {a b c : World} (h : Later a b) (k : Below b.heap.size b c) : Later a c := h.trans k
theorem Later.alloc {a b : World} (h : Later a b) (o : Obj) : Later a (b.alloc o) := Below.alloc h h.size o
/-- A condition that stands when things are added. -/
def Closed (S : World → Prop) : Prop := ∀ W W', S W → Below W.heap.size W W' → S W'
theorem closed_later (w : World) : Closed (Later w) := fun _ _ h k => h.trans k
theorem Closed.and {S T : World → Prop} (h : Closed S) (k : Closed T) : Closed (fun W => S W ∧ T W) := fun _ _ h1 b => ⟨h _ _ h1.1 b, k _ _ h1.2 b⟩
theorem Later.drew {a b : World} (h : Later a b) : Later a b.drew := Below.drew h

/-- Whatever order is picked from here on; S holds behind every operation till number j0 has come up. -/
def wpAnyJ (P : Program) (md : Region.Mode) (ops : Array Oper) (Q : Exit → Act → World → Prop) (j0 : Nat) (S : World → Prop) : Nat → Array Bool → Act → World → Prop
  | 0, listed, a, w => Region.ready md ops listed = [] ∧ Q .normal a w
  | fuel + 1, listed, a, w =>
    (Region.ready md ops listed = [] → Q .normal a w) ∧
    ∀ i ∈ Region.ready md ops listed, wpOp P ops Q i (fun a' w' => (i ≠ j0 → listed.getD j0 false = false → S w') ∧ wpAnyJ P md ops Q j0 S fuel (listed.setIfInBounds i true) a' w') a w

/-- What goes under a stronger condition goes under a weaker one. -/
theorem wpAnyJ_weak {P : Program} {md : Region.Mode} {ops : Array Oper} {Q : Exit → Act → World → Prop} {j0 : Nat} {S S' : World → Prop} (hs : ∀ w, S' w → S w) :
    ∀ (fuel : Nat) (listed : Array Bool) (a : Act) (w : World), wpAnyJ P md ops Q j0 S' fuel listed a w → wpAnyJ P md ops Q j0 S fuel listed a w
  | 0, _, _, _, h => h
  | fuel + 1, _, _, _, h => ⟨h.1, fun i hi => wpOp_mono (fun a' w' h' => ⟨fun h1 h2 => hs _ (h'.1 h1 h2), wpAnyJ_weak hs fuel _ a' w' h'.2⟩) (h.2 i hi)⟩

theorem wpAny_of_J {P : Program} {md : Region.Mode} {ops : Array Oper} {Q : Exit → Act → World → Prop} {j0 : Nat} {S : World → Prop} : ∀ (fuel : Nat) (listed : Array Bool) (a : Act) (w : World), wpAnyJ P md ops Q j0 S fuel listed a w → wpAny P md ops Q fuel listed a w
  | 0, _, _, _, h => h
  | fuel + 1, _, _, _, h => ⟨h.1, fun i hi => wpOp_mono (fun a' w' h' => wpAny_of_J fuel _ a' w' h'.2) (h.2 i hi)⟩

def waitsOn (md : Region.Mode) (ops : Array Oper) (j i : Nat) : Bool :=
  match ops[j]? with
  | some o => o.after.any fun e => Region.binds md e && e.on == i
  | none => false
def waitsT (md : Region.Mode) (ops : Array Oper) : Nat → Nat → Nat → Bool
  | 0, j, i => waitsOn md ops j i
  | n + 1, j, i => waitsOn md ops j i || match ops[j]? with
    | some o => o.after.any fun e => Region.binds md e && waitsT md ops n e.on i
    | none => false
/-- Number j0 waits for number i (or there is no number j0). -/
def waitsFor (md : Region.Mode) (ops : Array Oper) (j0 i : Nat) : Bool := decide (ops.size ≤ j0) || waitsT md ops 2 j0 i
/-- What is listed has all listed that it waits for. -/
def Down (md : Region.Mode) (ops : Array Oper) (l : Array Bool) : Prop := ∀ j o, ops[j]? = some o → l.getD j false = true → ∀ e ∈ o.after, Region.binds md e = true → l.getD e.on false = true
def downB (md : Region.Mode) (ops : Array Oper) (l : Array Bool) : Bool := (List.range ops.size).all fun j => !l.getD j false || match ops[j]? with
  | some o => o.after.all fun e => !Region.binds md e || l.getD e.on false
  | none => true
theorem downB_spec {md : Region.Mode} {ops : Array Oper} {l : Array Bool} (h : downB md ops l = true) : Down md ops l := fun j o ho hl e he hb => by
  have h1 := List.all_eq_true.1 h j (List.mem_range.2 (Array.getElem?_eq_some_iff.1 ho).1)
  rw [hl, ho] at h1
  simp only [Bool.not_true, Bool.false_or] at h1
  have h2 := Array.all_eq_true_iff_forall_mem.1 h1 e he
  simpa [hb] using h2
theorem Down.set {md : Region.Mode} {ops : Array Oper} {l : Array Bool} (h : Down md ops l) {i : Nat} (hi : i ∈ Region.ready md ops l) : Down md ops (l.setIfInBounds i true) := fun j o ho hl e he hb => by
  by_cases hij : i = j
  · subst hij
    obtain ⟨_, o', ho', hall⟩ := mem_ready.1 hi
    rw [ho] at ho'
    injection ho' with ho'
    subst ho'
    exact getD_set_true (hall e he hb)
  · rw [getD_set_ne false hij] at hl
    exact getD_set_true (h j o ho hl e he hb)
theorem waitsOn_down {md : Region.Mode} {ops : Array Oper} {l : Array Bool} {j i : Nat} (h : waitsOn md ops j i = true) (hp : ∀ o, ops[j]? = some o → ∀ e ∈ o.after, Region.binds md e = true → l.getD e.on false = true) : l.getD i false = true := by
  unfold waitsOn at h
  cases ho : ops[j]? with
  | none => simp [ho] at h
  | some o =>
    rw [ho] at h
    obtain ⟨e, he, hb⟩ := Array.any_eq_true'.1 h
    simp only [Bool.and_eq_true, beq_iff_eq] at hb
    have := hp o ho e he hb.1
    rw [hb.2] at this
    exact this
theorem waitsT_down {md : Region.Mode} {ops : Array Oper} {l : Array Bool} (hd : Down md ops l) : ∀ (n j i : Nat), waitsT md ops n j i = true → (∀ o, ops[j]? = some o → ∀ e ∈ o.after, Region.binds md e = true → l.getD e.on false = true) → l.getD i false = true
  | 0, _, _, h, hp => waitsOn_down h hp
  | n + 1, j, i, h, hp => by
    unfold waitsT at h
    rcases Bool.or_eq_true_iff.1 h with h | h
    · exact waitsOn_down h hp
    · cases ho : ops[j]? with
      | none => simp [ho] at h
      | some o =>
        rw [ho] at h
        obtain ⟨e, he, hb⟩ := Array.any_eq_true'.1 h
        simp only [Bool.and_eq_true] at hb
        exact waitsT_down hd n e.on i hb.2 fun o' ho' e' he' hb' => hd e.on o' ho' (hp o ho e he hb.1) e' he' hb'

/-- **An operation that may come up now may be taken first**: the kit's law, S asked till number j0 comes up, which waits for it. -/
theorem wpAnyJ_first {P : Program} {md : Region.Mode} {ops : Array Oper} {Q : Exit → Act → World → Prop} {j0 : Nat} {S : World → Prop} {i : Nat} {oi : Oper} {v : Value} (hi : ops[i]? = some oi) (hsel : ∀ (j : Nat) (o : Oper) cs b, ops[j]? = some o → o.op ≠ .select cs b)
    (hQ : ∀ c a w, Q (.panic c) (a.put oi.dst v) w → Q (.panic c) a w) (hw0 : waitsFor md ops j0 i = true) (hij : i ≠ j0) :
    ∀ (fuel : Nat) (listed : Array Bool) (a : Act) (w : World),
      (∀ j oj, ops[j]? = some oj → j ≠ i → listed.getD j true = false → (∀ e ∈ oj.after, Region.binds md e = true → e.on ≠ i) → oi.apart ops oj = true) →
      i ∈ Region.ready md ops listed → Down md ops listed → listed.getD j0 false = false → YieldsIf P ops S oi v a → S w →
      wpAnyJ P md ops Q j0 S fuel (listed.setIfInBounds i true) (a.put oi.dst v) w → wpAnyJ P md ops Q j0 S (fuel + 1) listed a w := by
  intro fuel
  induction fuel with
  | zero =>
    intro listed a w _ hr hdn hj0 hy hS H
    refine ⟨fun h => (by rw [h] at hr; cases hr), fun j hj => ?_⟩
    by_cases hji : j = i
    · subst hji; exact hy.wpOp hi hS ⟨fun _ _ => hS, H⟩
    · have := ready_mono hj hji
      rw [H.1] at this
      cases this
  | succ fuel ih =>
    intro listed a w hfree hr hdn hj0 hy hS H
    refine ⟨fun h => (by rw [h] at hr; cases hr), fun j hj => ?_⟩
    by_cases hji : j = i
    · subst hji; exact hy.wpOp hi hS ⟨fun _ _ => hS, H⟩
    · have h1 := H.2 j (ready_mono hj hji)
      obtain ⟨hjun, oj, hoj, hall⟩ := mem_ready.1 hj
      have hnl : listed.getD i false = false := by
        have h0 := (mem_ready.1 hr).1
        rcases Nat.lt_or_ge i listed.size with h' | h'
        · simp [h'] at h0 ⊢; exact h0
        · simp [Array.getElem?_eq_none h'] at h0
      have hnot : ∀ e ∈ oj.after, Region.binds md e = true → e.on ≠ i := fun e he hb heq => by
        have h1 := hall e he hb
        rw [heq, hnl] at h1
        cases h1
      have hjj : j ≠ j0 := fun e => by
        subst e
        rcases Bool.or_eq_true_iff.1 hw0 with h | h
        · have := (Array.getElem?_eq_some_iff.1 hoj).1
          simp at h
          omega
        · have := waitsT_down hdn 2 j i h fun o ho e he hb => by
            rw [hoj] at ho
            injection ho with ho
            subst ho
            exact hall e he hb
          rw [hnl] at this
          cases this
      have hj0' : (listed.setIfInBounds i true).getD j0 false = false := by rw [getD_set_ne false hij]; exact hj0
      have h2 := wpOp_putIf hoj (hfree j oj hoj hji hjun hnot) (fun cs b => hsel i oi cs b hi) (fun cs b => hsel j oj cs b hoj) hQ hy h1
      have hfree' : ∀ k ok, ops[k]? = some ok → k ≠ i → (listed.setIfInBounds j true).getD k true = false →
          (∀ e ∈ ok.after, Region.binds md e = true → e.on ≠ i) → oi.apart ops ok = true := fun k ok hk hki hun hno => by
        refine hfree k ok hk hki ?_ hno
        by_cases hjk : j = k
        · subst hjk; exact hjun
        · rw [getD_set_ne true hjk] at hun; exact hun
      refine wpOp_mono (fun a' w' h3 => ⟨fun _ _ => h3.2.1 hjj hj0', ih (listed.setIfInBounds j true) a' w' hfree' (ready_mono hr (Ne.symm hji)) (hdn.set hj) (by rw [getD_set_ne false hjj]; exact hj0) h3.1 (h3.2.1 hjj hj0') ?_⟩) h2
      rw [Array.setIfInBounds_comm _ _ hji]
      exact h3.2.2

theorem wpAnyJ_done {P : Program} {md : Region.Mode} {ops : Array Oper} {Q : Exit → Act → World → Prop} {j0 : Nat} {S : World → Prop} {listed : Array Bool} {a : Act} {w : World} (hr : Region.ready md ops listed = []) (h : Q .normal a w) :
    ∀ fuel, wpAnyJ P md ops Q j0 S fuel listed a w
  | 0 => ⟨hr, h⟩
  | _ + 1 => ⟨fun _ => h, by rw [hr]; simp⟩

/-- The one operation that may come up; behind it S, till number j0 has come up. -/
theorem wpAnyJ_one {P : Program} {md : Region.Mode} {ops : Array Oper} {Q : Exit → Act → World → Prop} {j0 : Nat} {S : World → Prop} {fuel : Nat} {listed : Array Bool} {a : Act} {w : World} {i : Nat} {o : Oper} (hr : Region.ready md ops listed = [i]) (ho : ops[i]? = some o)
    (h : ∀ K' : Act → World → Prop, Shut (∀ a w, (i ≠ j0 → listed.getD j0 false = false → S w) → wpAnyJ P md ops Q j0 S fuel (listed.setIfInBounds i true) a w → K' a w) → if Region.wanted o (yielded ops a.tmps) = true then Oper.wp P o a w K' Q else K' (a.put o.dst undef) w) :
    wpAnyJ P md ops Q j0 S (fuel + 1) listed a w := by
  refine ⟨fun h0 => (by rw [hr] at h0; cases h0), fun j hj => ?_⟩
  rw [hr] at hj
  obtain rfl : j = i := by simpa using hj
  exact wpOp_step ho fun K' hK => h K' fun a w h1 h2 => hK a w ⟨h1, h2⟩

/-- A copy (or whatever yields in every world), taken behind number j0 too. -/
theorem wpAnyJ_pure {P : Program} {md : Region.Mode} {ops : Array Oper} {Q : Exit → Act → World → Prop} {j0 : Nat} {S : World → Prop} {fuel : Nat} {listed : Array Bool} {a : Act} {w : World} {i : Nat} {o : Oper} {d : Option Tmp} {v : Value} (hr : Region.ready md ops listed = [i]) (ho : ops[i]? = some o) (hd : o.dst = d)
    (hy : Yields P ops o v a) (hS : i ≠ j0 → listed.getD j0 false = false → S w) (h : wpAnyJ P md ops Q j0 S fuel (listed.setIfInBounds i true) (a.put d v) w) : wpAnyJ P md ops Q j0 S (fuel + 1) listed a w := by
  subst hd
  refine ⟨fun h0 => (by rw [hr] at h0; cases h0), fun j hj => ?_⟩
  rw [hr] at hj
  obtain rfl : j = i := by simpa using hj
  exact hy.wpOp ho ⟨hS, h⟩

/-- A maker: its number, its slot, the block that it makes, its value (of the block's number). -/
structure Mk where
  i : Nat
  d : Tmp
  o : Obj
  v : Nat → Value

def Mk.Makes (P : Program) (ops : Array Oper) (a : Act) (m : Mk) : Prop :=
  ∃ om, ops[m.i]? = some om ∧ om.dst = some m.d ∧ Region.wanted om (yielded ops a.tmps) = true ∧ ∀ W, (execOp a.eval om).run P W = .ok (.value (m.v W.heap.size)) (W.alloc m.o)

def puts (a : Act) : List (Mk × Nat) → Act
  | [] => a
  | x :: X => (puts a X).put (some x.1.d) (x.1.v x.2)
def marks (l : Array Bool) : List Nat → Array Bool
  | [] => l
  | i :: is => (marks l is).setIfInBounds i true
def nums (X : List (Mk × Nat)) : List Nat := X.map fun x => x.1.i

/-- Two makers, or a maker and another operation: none looks at the other's slot. -/
def apartOf (ops : Array Oper) (m : Mk) (j : Nat) (oj : Oper) : Bool :=
  m.i != j && match ops[m.i]? with | some om => om.dst == some m.d && om.apart ops oj && oj.apart ops om | none => false
def pendOK (ops : Array Oper) : List Mk → Bool
  | [] => true
  | m :: ms => ms.all (fun x => match ops[x.i]? with | some ox => apartOf ops m x.i ox && ox.dst == some x.d | none => false) && pendOK ops ms

structure Lies (F : Nat → Prop) (W : World) (X : List (Mk × Nat)) : Prop where
  at_ : ∀ x ∈ X, W.heap[x.2]? = some x.1.o ∧ F x.2
  nd : (X.map Prod.snd).Nodup

theorem Lies.below {F : Nat → Prop} {W W' : World} {X : List (Mk × Nat)} (h : Lies F W X) (hb : Below W.heap.size W W') : Lies F W' X :=
  ⟨fun x hx => by
    obtain ⟨h1, h2⟩ := h.at_ x hx
    have hlt : x.2 < W.heap.size := (Array.getElem?_eq_some_iff.1 h1).1
    exact ⟨by rw [hb.block _ hlt]; exact h1, h2⟩, h.nd⟩

theorem Lies.kept {F F' : Nat → Prop} {W W' : World} {X : List (Mk × Nat)} (h : Lies F W X) (hb : ∀ r, F r → r < W.heap.size → W'.heap[r]? = W.heap[r]?) (hf : ∀ r, F r → r < W.heap.size → F' r) : Lies F' W' X :=
  ⟨fun x hx => by
    obtain ⟨h1, h2⟩ := h.at_ x hx
    have hl := (Array.getElem?_eq_some_iff.1 h1).1
    exact ⟨by rw [hb _ h2 hl]; exact h1, hf _ h2 hl⟩, h.nd⟩

theorem Lies.cons {F : Nat → Prop} {W : World} {X : List (Mk × Nat)} (h : Lies F W X) (hB : F W.heap.size) (m : Mk) : Lies F (W.alloc m.o) ((m, W.heap.size) :: X) := by
  have h' := h.below ((Below.refl W.heap.size W).alloc (Nat.le_refl _) m.o)
  refine ⟨fun x hx => ?_, ?_⟩
  · rcases List.mem_cons.1 hx with rfl | hx
    · exact ⟨by show (W.heap.push m.o)[W.heap.size]? = _; simp, hB⟩
    · exact h'.at_ x hx
  · rw [List.map_cons, List.nodup_cons]
    refine ⟨fun hm => ?_, h.nd⟩
    obtain ⟨y, hy, he⟩ := List.mem_map.1 hm
    have hlt : y.2 < W.heap.size := (Array.getElem?_eq_some_iff.1 (h.at_ y hy).1).1
    simp only at he
    omega

theorem marks_size (l : Array Bool) : ∀ is, (marks l is).size = l.size
  | [] => rfl
  | i :: is => by simp [marks, marks_size l is]

theorem getD_set' (l : Array Bool) (i j : Nat) (d : Bool) : (l.setIfInBounds i true).getD j d = if i = j ∧ j < l.size then true else l.getD j d := by
  by_cases h : i = j
  · subst h
    by_cases hl : i < l.size
    · simp [hl]
    · simp [hl, Array.setIfInBounds]
  · rw [getD_set_ne d h]
    simp [h]

theorem getD_marks (l : Array Bool) (j : Nat) (d : Bool) : ∀ is, (marks l is).getD j d = if j ∈ is ∧ j < l.size then true else l.getD j d
  | [] => by simp [marks]
  | i :: is => by
    rw [marks, getD_set', marks_size, getD_marks l j d is]
    by_cases h1 : i = j
    · subst h1
      by_cases hl : i < l.size <;> simp [hl]
    · by_cases h2 : j ∈ is <;> by_cases hl : j < l.size <;> simp [h1, h2, hl, Ne.symm h1]

section
variable {P : Program} {ops : Array Oper} {Q : Exit → Act → World → Prop} {md : Region.Mode} {j0 : Nat}

theorem ready_marks {l : Array Bool} {is js : List Nat} {k : Nat} (hsub : ∀ i ∈ is, i ∈ js) (hk : k ∉ js) (h : k ∈ Region.ready md ops (marks l is)) : k ∈ Region.ready md ops (marks l js) := by
  rw [mem_ready] at *
  obtain ⟨h0, o, ho, hall⟩ := h
  refine ⟨?_, o, ho, fun e he hb => ?_⟩
  · rw [getD_marks] at *
    rw [if_neg (fun h => hk h.1)]
    split at h0
    · cases h0
    · exact h0
  · have := hall e he hb
    rw [getD_marks] at *
    split at this
    · rename_i h1; rw [if_pos ⟨hsub _ h1.1, h1.2⟩]
    · split
      · rfl
      · exact this

theorem puts_put {dst : Option Tmp} {v : Value} {a : Act} : ∀ (X : List (Mk × Nat)), (∀ x ∈ X, dst ≠ some x.1.d) → puts (a.put dst v) X = (puts a X).put dst v
  | [], _ => rfl
  | x :: X, h => by
    rw [puts, puts, puts_put X (fun y hy => h y (List.mem_cons_of_mem _ hy)), Act.put_comm (puts a X) (x := dst) (y := some x.1.d)]
    intro d hd
    exact fun e => h x (List.mem_cons_self ..) (by rw [hd, e])

theorem marks_set {l : Array Bool} {i : Nat} : ∀ (is : List Nat), (∀ k ∈ is, k ≠ i) → marks (l.setIfInBounds i true) is = (marks l is).setIfInBounds i true
  | [], _ => rfl
  | k :: is, h => by
    rw [marks, marks, marks_set is (fun y hy => h y (List.mem_cons_of_mem _ hy)), Array.setIfInBounds_comm _ _ (h k (List.mem_cons_self ..)).symm]

/-- One operation, whether or not another's value lies already in its slot. -/
theorem wpOp_under {j : Nat} {oj : Oper} {d : Tmp} {v : Value} (hj : ops[j]? = some oj) (hlook : d ∉ oj.looksAt ops) (hdst : oj.dst ≠ some d)
    (hsj : ∀ cs b, oj.op ≠ .select cs b) (hQ : ∀ c a w, Q (.panic c) a w → Q (.panic c) (a.put (some d) v) w) {K : Act → World → Prop} {a : Act} {w : World}
    (h : wpOp P ops Q j K a w) : wpOp P ops Q j (fun a' w' => ∃ a0, a' = a0.put (some d) v ∧ K a0 w') (a.put (some d) v) w := by
  have hl : ∀ d', some d = some d' → d' ∉ oj.looksAt ops := fun d' h => by injection h with h; subst h; exact hlook
  have hc : ∀ (a : Act) u, (a.put (some d) v).put oj.dst u = (a.put oj.dst u).put (some d) v := fun a u => Act.put_comm a v u (fun d' h => by injection h with h; subst h; exact hdst)
  unfold wpOp at *
  simp only [hj] at *
  rw [wanted_put oj a (some d) v hl]
  split
  · rename_i hw
    simp only [hw, if_true] at h
    rcases h with h | ⟨hasks, hlets⟩
    case inr => exact .inr ⟨by unfold Oper.asks at *; rw [execOp_put oj hsj a (some d) v hl]; exact hasks, hlets⟩
    refine .inl ?_
    unfold Oper.wp at *
    rw [execOp_put oj hsj a (some d) v hl]
    generalize (execOp a.eval oj).run P w = r at *
    cases r with
    | ok n w' =>
      cases n <;> simp only [Oper.upon] at h ⊢
      case value u => exact ⟨_, hc a u, h⟩
      case skip => exact ⟨_, hc a undef, h⟩
      case defer dd => exact ⟨({ a with defers := dd :: a.defers } : Act).put oj.dst undef, by rw [Act.put_defers]; exact hc _ _, h⟩
      case enter f args =>
        refine Calls.mono h fun e w'' he => ?_
        cases e with
        | returned u => exact ⟨_, hc a u, he⟩
        | panicked c => exact hQ _ _ _ he
        | outgrown => exact he
      case row row args => exact Rows.mono h fun u w'' he => ⟨_, hc a u, he⟩
    | halt x w' =>
      cases x <;> simp only [Oper.upon] at h ⊢
      case panic u => exact hQ _ _ _ h
  · rename_i hw
    simp only [hw] at h
    exact ⟨_, hc a undef, h⟩

/-- What an operation leaves of the frame. -/
theorem wpOp_frame {j : Nat} {oj : Oper} (hj : ops[j]? = some oj) {K : Act → World → Prop} {a : Act} {w : World} (h : wpOp P ops Q j K a w) :
    wpOp P ops Q j (fun a' w' => K a' w' ∧ ∃ u ds, a' = ({ a with defers := ds } : Act).put oj.dst u) a w := by
  unfold wpOp at *
  simp only [hj] at *
  split
  · rename_i hw
    simp only [hw, if_true] at h
    rcases h with h | h
    case inr => exact .inr h
    refine .inl ?_
    unfold Oper.wp at *
    generalize (execOp a.eval oj).run P w = r at *
    cases r with
    | ok n w' =>
      cases n <;> simp only [Oper.upon] at h ⊢
      case value u => exact ⟨h, u, _, rfl⟩
      case skip => exact ⟨h, undef, _, rfl⟩
      case defer dd => exact ⟨h, undef, _, rfl⟩
      case enter f args =>
        refine Calls.mono h fun e w'' he => ?_
        cases e with
        | returned u => exact ⟨he, u, _, rfl⟩
        | panicked c => exact he
        | outgrown => exact he
      case row row args => exact Rows.mono h fun u w'' he => ⟨he, u, _, rfl⟩
    | halt x w' => cases x <;> simp only [Oper.upon] at h ⊢ <;> exact h
  · rename_i hw
    simp only [hw] at h
    exact ⟨h, undef, _, rfl⟩

theorem apartOf_spec {m : Mk} {j : Nat} {oj : Oper} (h : apartOf ops m j oj = true) : m.i ≠ j ∧ ∃ om, ops[m.i]? = some om ∧ om.dst = some m.d ∧ m.d ∉ oj.looksAt ops ∧ oj.dst ≠ some m.d ∧ ∀ d, oj.dst = some d → d ∉ om.looksAt ops := by
  unfold apartOf at h
  simp only [Bool.and_eq_true, bne_iff_ne] at h
  obtain ⟨h1, h2⟩ := h
  cases ho : ops[m.i]? with
  | none => simp [ho] at h2
  | some om =>
    simp only [ho, Bool.and_eq_true, beq_iff_eq] at h2
    obtain ⟨⟨hd, ha⟩, hb⟩ := h2
    obtain ⟨s1, s2, s3⟩ := Oper.apart_spec ha
    exact ⟨h1, om, rfl, hd, s1 _ hd, s2 _ hd, s3⟩

theorem Mk.Makes.put {m : Mk} {a : Act} {j : Nat} {oj : Oper} {u : Value} (hs : Region.noSelect ops = true) (h : m.Makes P ops a) (hap : apartOf ops m j oj = true) : m.Makes P ops (a.put oj.dst u) := by
  obtain ⟨om, ho, hd, hw, hr⟩ := h
  obtain ⟨_, om', ho', _, _, _, hl⟩ := apartOf_spec hap
  rw [ho] at ho'
  injection ho' with ho'
  subst ho'
  refine ⟨om, ho, hd, ?_, fun W => ?_⟩
  · rw [wanted_put om a oj.dst u hl]; exact hw
  · rw [execOp_put om (fun cs b => Region.noSelect_spec hs _ _ cs b ho) a oj.dst u hl]; exact hr W

theorem Mk.Makes.frame {m : Mk} {a : Act} {ds : List Deferred} (h : m.Makes P ops a) : m.Makes P ops { a with defers := ds } := h

/-- A walk from the worlds that meet T (which stands when things are added), whichever of the makers have come up; what is taken first leans on S alone. -/
def WalkS (P : Program) (md : Region.Mode) (ops : Array Oper) (Q : Exit → Act → World → Prop) (j0 : Nat) (F : Nat → Prop) (f : Nat) (pend : List Mk) (l : Array Bool) (a : Act) (S T : World → Prop) : Prop :=
  (∀ W, T W → F W.heap.size) → (∀ W, T W → S W) → Closed T → (∀ m ∈ pend, m.Makes P ops a) → ∀ (Y : List Mk) (X : List (Mk × Nat)) (W : World), (Y ++ X.map Prod.fst).Perm pend → T W → Lies F W X →
    wpAnyJ P md ops Q j0 S (f + Y.length) (marks l (nums X)) (puts a X) W

theorem walk_start {id : Nat} (j0 : Nat) {a : Act} {w : World} {S T : World → Prop} (hm : P.follows .mixedOrders = true) (F : Nat → Prop) (hB : ∀ W, T W → F W.heap.size) (hST : ∀ W, T W → S W) (hc : Closed T) (hT : T w.drew) (h : WalkS P .any ops Q j0 F ops.size [] (Array.replicate ops.size false) a S T) : (Code.region id ops true).wp P Q a w :=
  wp_region_any hm (wpAny_of_J (j0 := j0) (S := S) _ _ _ _ (
    h hB hST hc (fun _ h => (by cases h)) [] [] w.drew (List.Perm.refl _) hT ⟨(fun _ h => by cases h), List.nodup_nil⟩))

/-- A maker whose operands are there goes among the pending ones. -/
theorem walk_pend {F : Nat → Prop} {f : Nat} {pend : List Mk} {l : Array Bool} {a : Act} {S T : World → Prop} (m : Mk) (hm : m.Makes P ops a) (h : WalkS P md ops Q j0 F f (m :: pend) l a S T) : WalkS P md ops Q j0 F (f + 1) pend l a S T := by
  intro hB hST hc hM Y X W hY hl hX
  have := h hB hST hc (fun x hx => by rcases List.mem_cons.1 hx with rfl | hx; exact hm; exact hM x hx) (m :: Y) X W (by simpa using hY) hl hX
  rw [show f + 1 + Y.length = f + (m :: Y).length by simp; omega]
  exact this

def freeOf (ops : Array Oper) (pend : List Mk) (j : Nat) (oj : Oper) : Bool := pend.all fun m => apartOf ops m j oj

theorem freeOf_spec {pend : List Mk} {j : Nat} {oj : Oper} (h : freeOf ops pend j oj = true) {X : List (Mk × Nat)} {Y : List Mk} (hY : (Y ++ X.map Prod.fst).Perm pend) : ∀ x ∈ X, apartOf ops x.1 j oj = true := fun x hx =>
  List.all_eq_true.1 h _ (hY.mem_iff.1 (List.mem_append_right _ (List.mem_map_of_mem (f := Prod.fst) hx)))

def takeOK (md : Region.Mode) (ops : Array Oper) (pend : List Mk) (j0 : Nat) (l : Array Bool) (i : Nat) (oi : Oper) : Bool :=
  Region.noSelect ops && Region.free md ops l i && (Region.ready md ops l).contains i && freeOf ops pend i oi && (waitsFor md ops j0 i && i != j0 && !l.getD j0 false && pend.all (fun m => m.i != j0 && (Region.ready md ops l).contains m.i) && downB md ops l)

theorem walk_take {F : Nat → Prop} {f : Nat} {pend : List Mk} {l : Array Bool} {a : Act} {S T : World → Prop} {i : Nat} {oi : Oper} {d : Option Tmp} {v : Value} (hi : ops[i]? = some oi) (hd : oi.dst = d)
    (hok : takeOK md ops pend j0 l i oi = true)
    (hQ : ∀ c a w, Q (.panic c) (a.put d v) w → Q (.panic c) a w) (hy : YieldsIf P ops S oi v a)
    (h : WalkS P md ops Q j0 F f pend (l.setIfInBounds i true) (a.put d v) S T) : WalkS P md ops Q j0 F (f + 1) pend l a S T := by
  subst hd
  have hok' := hok
  unfold takeOK at hok'
  rw [Bool.and_eq_true, Bool.and_eq_true, Bool.and_eq_true, Bool.and_eq_true] at hok'
  obtain ⟨⟨⟨⟨hs, hf⟩, hr⟩, hp⟩, hw0⟩ := hok'
  intro hB hST hc hM Y X W hY hl hX
  have hap := freeOf_spec hp hY
  have hne : ∀ k ∈ nums X, k ≠ i := fun k hk => by
    obtain ⟨x, hx, rfl⟩ := List.mem_map.1 hk
    exact (apartOf_spec (hap x hx)).1
  have hM' : ∀ m ∈ pend, m.Makes P ops (a.put oi.dst v) := fun m hm => (hM m hm).put hs (List.all_eq_true.1 hp m hm)
  have h' := h hB hST hc hM' Y X W hY hl hX
  rw [marks_set _ hne, puts_put X (fun x hx => (apartOf_spec (hap x hx)).2.choose_spec.2.2.2.1)] at h'
  rw [show f + 1 + Y.length = f + Y.length + 1 by omega]
  have hy' : ∀ X : List (Mk × Nat), (∀ x ∈ X, apartOf ops x.1 i oi = true) → YieldsIf P ops S oi v (puts a X) := by
    intro X
    induction X with
    | nil => exact fun _ => hy
    | cons x X ih =>
      intro hx
      obtain ⟨_, om, _, _, hlk, _, _⟩ := apartOf_spec (hx x (List.mem_cons_self ..))
      have hl2 : ∀ d', some x.1.d = some d' → d' ∉ oi.looksAt ops := fun d' h => by injection h with h; subst h; exact hlk
      exact (ih fun y hy => hx y (List.mem_cons_of_mem _ hy)).of_same (execOp_put oi (fun cs b => Region.noSelect_spec hs _ _ cs b hi) _ _ _ hl2) (wanted_put oi _ _ _ hl2)
  simp only [Bool.and_eq_true, bne_iff_ne, Bool.not_eq_true', List.all_eq_true] at hw0
  obtain ⟨⟨⟨⟨hwa, hwb⟩, hwc⟩, hwd⟩, hwe⟩ := hw0
  have hdn : ∀ X : List (Mk × Nat), (∀ x ∈ X, x.1 ∈ pend) → Down md ops (marks l (nums X)) := fun X hX j o ho hl e he hb => by
    rw [getD_marks] at hl ⊢
    have key : l.getD e.on false = true := by
      split at hl
      · rename_i h
        obtain ⟨x, hx, rfl⟩ := List.mem_map.1 h.1
        obtain ⟨_, o', ho', hall⟩ := mem_ready.1 (show x.1.i ∈ Region.ready md ops l by simpa using (hwd _ (hX x hx)).2)
        rw [ho] at ho'
        injection ho' with ho'
        subst ho'
        exact hall e he hb
      · exact downB_spec hwe j o ho hl e he hb
    split
    · rfl
    · exact key
  have hXp : ∀ x ∈ X, x.1 ∈ pend := fun x hx => hY.mem_iff.1 (List.mem_append_right _ (List.mem_map_of_mem (f := Prod.fst) hx))
  refine wpAnyJ_first hi (Region.noSelect_spec hs) hQ hwa hwb _ _ _ W (fun j oj hoj hji hun hno => Region.free_spec hi hf j oj hoj hji ?_ hno) ?_ (hdn X hXp) (by
    rw [getD_marks, if_neg (fun h => ?_)]
    · exact hwc
    · obtain ⟨x, hx, he⟩ := List.mem_map.1 h.1
      exact (hwd x.1 (hXp x hx)).1 he) (hy' X hap) (hST _ hl) h'
  · rw [getD_marks] at hun
    split at hun
    · cases hun
    · exact hun
  · have : i ∈ Region.ready md ops (marks l []) := by simpa [marks] using hr
    exact ready_marks (fun _ h => by cases h) (fun hk => hne i hk rfl) this

theorem makes_run {a : Act} {y : Mk} (hs : Region.noSelect ops = true) (hM : y.Makes P ops a) : ∀ X : List (Mk × Nat), (∀ x ∈ X, ∃ oy, ops[y.i]? = some oy ∧ apartOf ops x.1 y.i oy = true) → y.Makes P ops (puts a X)
  | [], _ => hM
  | x :: X, h => by
    obtain ⟨om, ho, hd, hw, hr⟩ := makes_run  hs hM X fun z hz => h z (List.mem_cons_of_mem _ hz)
    obtain ⟨oy, hoy, hap⟩ := h x (List.mem_cons_self ..)
    rw [ho] at hoy
    injection hoy with hoy
    subst hoy
    obtain ⟨_, _, _, _, hlk, _, _⟩ := apartOf_spec hap
    have hl2 : ∀ d', some x.1.d = some d' → d' ∉ om.looksAt ops := fun d' h => by injection h with h; subst h; exact hlk
    exact ⟨om, ho, hd, by rw [puts, wanted_put om _ _ _ hl2]; exact hw, fun W => by rw [puts, execOp_put om (fun cs b => Region.noSelect_spec hs _ _ cs b ho) _ _ _ hl2]; exact hr W⟩

theorem pendOK_pair {x y : Mk} : ∀ {pend : List Mk}, pendOK ops pend = true → x ∈ pend → y ∈ pend → x.i ≠ y.i → ∃ oy, ops[y.i]? = some oy ∧ apartOf ops x y.i oy = true
  | [], _, hx, _, _ => by cases hx
  | m :: ms, h, hx, hy, hne => by
    simp only [pendOK, Bool.and_eq_true, List.all_eq_true] at h
    obtain ⟨h1, h2⟩ := h
    rcases List.mem_cons.1 hx with rfl | hx'
    · rcases List.mem_cons.1 hy with rfl | hy'
      · exact absurd rfl hne
      · have := h1 y hy'
        cases ho : ops[y.i]? with
        | none => simp [ho] at this
        | some oy => simp only [ho, Bool.and_eq_true] at this; exact ⟨oy, rfl, this.1⟩
    · rcases List.mem_cons.1 hy with rfl | hy'
      · have := h1 x hx'
        cases ho : ops[x.i]? with
        | none => simp [ho] at this
        | some ox =>
          simp only [ho, Bool.and_eq_true, beq_iff_eq] at this
          obtain ⟨ha, hd⟩ := this
          unfold apartOf at ha
          cases hoy : ops[y.i]? with
          | none => simp [hoy] at ha
          | some oy =>
            simp only [hoy, Bool.and_eq_true, bne_iff_ne, beq_iff_eq] at ha
            refine ⟨oy, rfl, ?_⟩
            unfold apartOf
            simp only [ho, Bool.and_eq_true, bne_iff_ne, beq_iff_eq]
            exact ⟨hne, ⟨hd, ha.2.2⟩, ha.2.1.2⟩
      · exact pendOK_pair h2 hx' hy' hne

theorem pendOK_inj {x y : Mk} : ∀ {pend : List Mk}, pendOK ops pend = true → x ∈ pend → y ∈ pend → x.i = y.i → x = y
  | [], _, hx, _, _ => by cases hx
  | m :: ms, h, hx, hy, he => by
    simp only [pendOK, Bool.and_eq_true, List.all_eq_true] at h
    obtain ⟨h1, h2⟩ := h
    have far : ∀ z ∈ ms, m.i ≠ z.i := fun z hz => by
      have := h1 z hz
      cases ho : ops[z.i]? with
      | none => simp [ho] at this
      | some oz => simp only [ho, Bool.and_eq_true] at this; exact (apartOf_spec this.1).1
    rcases List.mem_cons.1 hx with rfl | hx'
    · rcases List.mem_cons.1 hy with rfl | hy'
      · rfl
      · exact absurd he (far y hy')
    · rcases List.mem_cons.1 hy with rfl | hy'
      · exact absurd he.symm (far x hx')
      · exact pendOK_inj h2 hx' hy' he

theorem pendOK_nodup : ∀ {pend : List Mk}, pendOK ops pend = true → pend.Nodup
  | [], _ => List.nodup_nil
  | m :: ms, h => by
    simp only [pendOK, Bool.and_eq_true, List.all_eq_true] at h
    refine List.nodup_cons.2 ⟨fun hm => ?_, pendOK_nodup h.2⟩
    have := h.1 m hm
    cases ho : ops[m.i]? with
    | none => simp [ho] at this
    | some om => simp only [ho, Bool.and_eq_true] at this; exact (apartOf_spec this.1).1 rfl

/-- A maker that comes up. -/
theorem wpOp_maker {pend : List Mk} {a : Act} {W : World} {Y : List Mk} {X : List (Mk × Nat)} {K : Act → World → Prop} (hs : Region.noSelect ops = true) (hp : pendOK ops pend = true)
    (hM : ∀ m ∈ pend, m.Makes P ops a) (hY : (Y ++ X.map Prod.fst).Perm pend) {y : Mk} (hy : y ∈ Y)
    (h : K (puts a ((y, W.heap.size) :: X)) (W.alloc y.o)) : wpOp P ops Q y.i K (puts a X) W := by
  have hyp : y ∈ pend := hY.mem_iff.1 (List.mem_append_left _ hy)
  have hnd : (Y ++ X.map Prod.fst).Nodup := hY.nodup_iff.2 (pendOK_nodup hp)
  have hmk := makes_run  hs (hM y hyp) X fun x hx => by
    have hxp : x.1 ∈ pend := hY.mem_iff.1 (List.mem_append_right _ (List.mem_map_of_mem (f := Prod.fst) hx))
    refine pendOK_pair hp hxp hyp fun e => ?_
    have := pendOK_inj hp hxp hyp e
    exact (List.nodup_append.1 hnd).2.2 y hy x.1 (List.mem_map_of_mem (f := Prod.fst) hx) this.symm
  obtain ⟨om, ho, hd, hw, hr⟩ := hmk
  unfold wpOp
  simp only [ho, hw, if_true, Oper.wp, hr W, Oper.upon]
  refine .inl ?_
  rw [hd]
  exact h

theorem perm_move {Y : List Mk} {X : List (Mk × Nat)} {pend : List Mk} {y : Mk} (hY : (Y ++ X.map Prod.fst).Perm pend) {Y1 Y2 : List Mk} (e : Y = Y1 ++ y :: Y2) (n : Nat) :
    ((Y1 ++ Y2) ++ (((y, n) :: X).map Prod.fst)).Perm pend := by
  subst e
  refine List.Perm.trans ?_ hY
  simp only [List.map_cons, List.append_assoc, List.cons_append]
  refine List.Perm.append_left Y1 ?_
  exact List.perm_middle

def coreOK (md : Region.Mode) (ops : Array Oper) (pend : List Mk) (l : Array Bool) (j : Nat) (oj : Oper) : Bool :=
  Region.noSelect ops && pendOK ops pend && (Region.ready md ops l).contains j && (Region.ready md ops (marks l (pend.map Mk.i)) == [j]) && freeOf ops pend j oj

/-- The one operation that may come up beside the makers. -/
theorem walk_core {F : Nat → Prop} {f : Nat} {pend : List Mk} {l : Array Bool} {a : Act} {S T : World → Prop} (j : Nat) {oj : Oper} (hj : ops[j]? = some oj) (hok : coreOK md ops pend l j oj = true)
    (hQ : ∀ c a w d v, Q (.panic c) a w → Q (.panic c) (a.put (some d) v) w)
    (h : ∀ W, T W → ∀ K' : Act → World → Prop, Shut (∀ a' W' S' T' F', (∀ r, F r → r < W.heap.size → W'.heap[r]? = W.heap[r]?) → (∀ r, F r → r < W.heap.size → F' r) → (∀ V, S' V → S V) → (∀ V, T' V → S' V) → (∀ V, T' V → F' V.heap.size) → T' W' → Closed T' → WalkS P md ops Q j0 F' f pend (l.setIfInBounds j true) a' S' T' → K' a' W') →
      if Region.wanted oj (yielded ops a.tmps) = true then Oper.wp P oj a W K' Q else K' (a.put oj.dst undef) W) : WalkS P md ops Q j0 F (f + 1) pend l a S T := by
  have hok' := hok
  unfold coreOK at hok'
  rw [Bool.and_eq_true, Bool.and_eq_true, Bool.and_eq_true, Bool.and_eq_true] at hok'
  obtain ⟨⟨⟨⟨hs, hp⟩, hr⟩, hr2⟩, hf⟩ := hok'
  rw [beq_iff_eq] at hr2
  intro hB hST hc hM
  suffices H : ∀ n (Y : List Mk) (X : List (Mk × Nat)) (W : World), Y.length = n → (Y ++ X.map Prod.fst).Perm pend → T W → Lies F W X →
      wpAnyJ P md ops Q j0 S (f + 1 + Y.length) (marks l (nums X)) (puts a X) W from fun Y X W => H _ Y X W rfl
  intro n
  induction n with
  | zero =>
    intro Y X W hn hY hl hX
    cases Y with
    | cons _ _ => cases hn
    | nil => exact core [] X W hs hp hr hr2 hf hB hST hc hM hY hl hX fun y hy => by cases hy
  | succ n ih =>
    intro Y X W hn hY hl hX
    refine core Y X W hs hp hr hr2 hf hB hST hc hM hY hl hX fun y hy => ?_
    obtain ⟨Y1, Y2, rfl⟩ := List.append_of_mem hy
    have hlen : (Y1 ++ Y2).length = n := by simp at hn ⊢; omega
    have := ih (Y1 ++ Y2) ((y, W.heap.size) :: X) (W.alloc y.o) hlen (perm_move hY rfl _) (hc _ _ hl ((Below.refl _ _).alloc (Nat.le_refl _) _)) (hX.cons (hB _ hl) y)
    rw [show f + (Y1 ++ y :: Y2).length = f + 1 + (Y1 ++ Y2).length by simp; omega]
    exact this
where
  core (Y : List Mk) (X : List (Mk × Nat)) (W : World) (hs : Region.noSelect ops = true) (hp : pendOK ops pend = true) (hr : (Region.ready md ops l).contains j = true) (hr2 : Region.ready md ops (marks l (pend.map Mk.i)) = [j]) (hf : freeOf ops pend j oj = true) (hB : ∀ W, T W → F W.heap.size) (hST : ∀ W, T W → S W) (hc : Closed T) (hM : ∀ m ∈ pend, m.Makes P ops a) (hY : (Y ++ X.map Prod.fst).Perm pend) (hl : T W) (hX : Lies F W X)
      (hmk : ∀ y ∈ Y, wpAnyJ P md ops Q j0 S (f + Y.length) (marks l (nums ((y, W.heap.size) :: X))) (puts a ((y, W.heap.size) :: X)) (W.alloc y.o)) :
      wpAnyJ P md ops Q j0 S (f + 1 + Y.length) (marks l (nums X)) (puts a X) W := by
    have hap := freeOf_spec hf hY
    have hnX : ∀ k ∈ nums X, k ≠ j := fun k hk => by
      obtain ⟨x, hx, rfl⟩ := List.mem_map.1 hk
      exact (apartOf_spec (hap x hx)).1
    have hjr : j ∈ Region.ready md ops (marks l (nums X)) := by
      have : j ∈ Region.ready md ops (marks l []) := by simpa [marks] using hr
      exact ready_marks (fun _ h => by cases h) (fun hk => hnX j hk rfl) this
    rw [show f + 1 + Y.length = f + Y.length + 1 by omega]
    refine ⟨fun h0 => (by rw [h0] at hjr; cases hjr), fun k hk => ?_⟩
    by_cases hkj : k = j
    · subst hkj
      have h1 : wpOp P ops Q k (fun a' W' => ∃ S' T' F', (∀ r, F r → r < W.heap.size → W'.heap[r]? = W.heap[r]?) ∧ (∀ r, F r → r < W.heap.size → F' r) ∧ (∀ V, S' V → S V) ∧ (∀ V, T' V → S' V) ∧ (∀ V, T' V → F' V.heap.size) ∧ T' W' ∧ Closed T' ∧ WalkS P md ops Q j0 F' f pend (l.setIfInBounds k true) a' S' T') a W :=
        wpOp_step hj (fun K' hK => h W hl K' (fun a' W' S' T' F' hb h0 h1 h2 h3 h4 h5 hw => hK a' W' ⟨S', T', F', hb, h0, h1, h2, h3, h4, h5, hw⟩))
      have h2 := wpOp_frame hj h1
      have h3 : ∀ X : List (Mk × Nat), (∀ x ∈ X, apartOf ops x.1 k oj = true) → wpOp P ops Q k (fun a' W' => ∃ a0, a' = puts a0 X ∧ ((∃ S' T' F', (∀ r, F r → r < W.heap.size → W'.heap[r]? = W.heap[r]?) ∧ (∀ r, F r → r < W.heap.size → F' r) ∧ (∀ V, S' V → S V) ∧ (∀ V, T' V → S' V) ∧ (∀ V, T' V → F' V.heap.size) ∧ T' W' ∧ Closed T' ∧ WalkS P md ops Q j0 F' f pend (l.setIfInBounds k true) a0 S' T') ∧ ∃ u ds, a0 = ({ a with defers := ds } : Act).put oj.dst u)) (puts a X) W := by
        intro X
        induction X with
        | nil => exact fun _ => wpOp_mono (fun a' W' h => ⟨a', rfl, h⟩) h2
        | cons x X ih =>
          intro hx
          obtain ⟨_, om, _, _, hlk, hds, _⟩ := apartOf_spec (hx x (List.mem_cons_self ..))
          refine wpOp_mono ?_ (wpOp_under hj hlk hds (fun cs b => Region.noSelect_spec hs _ _ cs b hj) (fun c a w => hQ c a w _ _) (ih fun y hy => hx y (List.mem_cons_of_mem _ hy)))
          rintro a' W' ⟨a0, rfl, a1, rfl, h⟩
          exact ⟨a1, rfl, h⟩
      refine wpOp_mono ?_ (h3 X hap)
      rintro a' W' ⟨a0, rfl, ⟨S', T', F', hb, h0, h1, h2, h3, h4, h5, hw⟩, u, ds, rfl⟩
      refine ⟨fun _ _ => h1 _ (h2 _ h4), ?_⟩
      have := hw h3 h2 h5 (fun m hm => ((hM m hm).frame (ds := ds)).put hs (List.all_eq_true.1 hf m hm)) Y X W' hY h4 (hX.kept hb h0)
      rw [marks_set _ hnX] at this
      exact wpAnyJ_weak h1 _ _ _ _ this
    · have hkY : k ∈ Y.map Mk.i := by
        refine Classical.byContradiction fun hno => ?_
        have hkp : k ∉ pend.map Mk.i := fun hm => by
          obtain ⟨m, hm', rfl⟩ := List.mem_map.1 hm
          rcases List.mem_append.1 (hY.mem_iff.2 hm') with h | h
          · exact hno (List.mem_map_of_mem (f := Mk.i) h)
          · obtain ⟨x, hx, rfl⟩ := List.mem_map.1 h
            have := (mem_ready.1 hk).1
            rw [getD_marks] at this
            have hin : x.1.i ∈ nums X := List.mem_map_of_mem (f := fun x : Mk × Nat => x.1.i) hx
            by_cases hsz : x.1.i < l.size
            · rw [if_pos ⟨hin, hsz⟩] at this; cases this
            · rw [if_neg (fun h => hsz h.2)] at this; simp [Array.getElem?_eq_none (Nat.le_of_not_lt hsz)] at this
        have : k ∈ Region.ready md ops (marks l (pend.map Mk.i)) := ready_marks (fun i hi => by
          obtain ⟨x, hx, rfl⟩ := List.mem_map.1 hi
          exact List.mem_map_of_mem (f := Mk.i) (hY.mem_iff.1 (List.mem_append_right _ (List.mem_map_of_mem (f := Prod.fst) hx)))) hkp hk
        rw [hr2] at this
        simp at this
        exact hkj this
      obtain ⟨y, hy, rfl⟩ := List.mem_map.1 hkY
      refine wpOp_maker  hs hp hM hY hy ⟨fun _ _ => hST _ (hc _ _ hl ((Below.refl _ _).alloc (Nat.le_refl _) _)), ?_⟩
      exact hmk y hy

/-- No maker is pending: on with the kit's moves. -/
theorem walk_exit {F : Nat → Prop} {f : Nat} {l : Array Bool} {a : Act} {S T : World → Prop} (h : ∀ W, T W → wpAnyJ P md ops Q j0 S f l a W) : WalkS P md ops Q j0 F f [] l a S T := by
  intro _ _ _ _ Y X W hY hl _
  have := hY.length_eq
  simp at this
  obtain ⟨rfl, rfl⟩ := this
  exact h W hl

theorem puts_split {a : Act} {m : Mk} {r : Nat} {X2 : List (Mk × Nat)} : ∀ (X1 : List (Mk × Nat)), (∀ x ∈ X1, x.1.d ≠ m.d) → (∀ x ∈ X2, x.1.d ≠ m.d) → puts (a.put (some m.d) (m.v r)) (X1 ++ X2) = puts a (X1 ++ (m, r) :: X2)
  | [], _, h2 => by
    show puts (a.put (some m.d) (m.v r)) X2 = (puts a X2).put (some m.d) (m.v r)
    exact puts_put X2 fun x hx e => by injection e with e; exact h2 x hx e.symm
  | x :: X1, h1, h2 => by
    show (puts _ (X1 ++ X2)).put _ _ = (puts _ (X1 ++ (m, r) :: X2)).put _ _
    rw [puts_split X1 (fun y hy => h1 y (List.mem_cons_of_mem _ hy)) h2]

theorem pendOK_dst {x y : Mk} {pend : List Mk} (hp : pendOK ops pend = true) (hx : x ∈ pend) (hy : y ∈ pend) (hne : x.i ≠ y.i) : x.d ≠ y.d := by
  obtain ⟨oy, hoy, ha⟩ := pendOK_pair hp hx hy hne
  obtain ⟨ox, hox, hb⟩ := pendOK_pair hp hy hx (Ne.symm hne)
  obtain ⟨_, _, _, _, _, hd, _⟩ := apartOf_spec ha
  obtain ⟨_, om, hom, hdm, _, _, _⟩ := apartOf_spec hb
  rw [hoy] at hom
  injection hom with hom
  subst hom
  intro e
  exact hd (by rw [hdm, e])

/-- One maker, for which (but for other makers) all else waits, comes up. -/
theorem walk_force {F : Nat → Prop} {f : Nat} {m : Mk} {rest : List Mk} {l : Array Bool} {a : Act} {S T : World → Prop} (hs : Region.noSelect ops = true) (hp : pendOK ops (m :: rest) = true)
    (hr0 : (Region.ready md ops l).contains m.i = true) (hr : Region.ready md ops (marks l (rest.map Mk.i)) = [m.i])
    (h : ∀ r W, T W → W.heap[r]? = some m.o → F r → ∃ S' T' : World → Prop, T' W ∧ (∀ V, S' V → S V) ∧ (∀ V, T' V → S' V) ∧ (∀ V, T' V → F V.heap.size) ∧ (∀ V, T' V → r < V.heap.size) ∧ Closed T' ∧ WalkS P md ops Q j0 (fun s => F s ∧ s ≠ r) f rest (l.setIfInBounds m.i true) (a.put (some m.d) (m.v r)) S' T') :
    WalkS P md ops Q j0 F f (m :: rest) l a S T := by
  intro hB hST hc hM
  have hmM := hM m (List.mem_cons_self ..)
  have hdm : ∀ x ∈ rest, x.i ≠ m.i := fun x hx e => by
    have := pendOK_nodup hp
    have he := pendOK_inj hp (List.mem_cons_of_mem _ hx) (List.mem_cons_self ..) e
    subst he
    exact (List.nodup_cons.1 this).1 hx
  have hMr : ∀ v, ∀ x ∈ rest, x.Makes P ops (a.put (some m.d) v) := fun v x hx => by
    obtain ⟨om, hom, hdo, _, _⟩ := hmM
    obtain ⟨oy, hoy, hap⟩ := pendOK_pair hp (List.mem_cons_of_mem m hx) (List.mem_cons_self ..) (hdm x hx)
    rw [hom] at hoy
    injection hoy with hoy
    subst hoy
    have := (hM x (List.mem_cons_of_mem _ hx)).put (u := v) hs hap
    rw [hdo] at this
    exact this
  suffices H : ∀ n (Y : List Mk) (X : List (Mk × Nat)) (W : World), Y.length = n → (Y ++ X.map Prod.fst).Perm (m :: rest) → T W → Lies F W X →
      wpAnyJ P md ops Q j0 S (f + Y.length) (marks l (nums X)) (puts a X) W from fun Y X W => H _ Y X W rfl
  intro n
  induction n with
  | zero =>
    intro Y X W hn hY hl hX
    exact done Y X W hB hST hM hMr hdm hp hY hl hX (fun hmY => by cases Y with | nil => cases hmY | cons _ _ => cases hn)
  | succ n ih =>
    intro Y X W hn hY hl hX
    by_cases hmY : m ∈ Y
    · have hnd : (Y ++ X.map Prod.fst).Nodup := hY.nodup_iff.2 (pendOK_nodup hp)
      have hsub : ∀ i ∈ nums X, i ∈ rest.map Mk.i := fun i hi => by
        obtain ⟨x, hx, rfl⟩ := List.mem_map.1 hi
        have hxp := hY.mem_iff.1 (List.mem_append_right Y (List.mem_map_of_mem (f := Prod.fst) hx))
        rcases List.mem_cons.1 hxp with e | hxr
        · exact absurd e.symm ((List.nodup_append.1 hnd).2.2 m hmY x.1 (List.mem_map_of_mem (f := Prod.fst) hx))
        · exact List.mem_map_of_mem (f := Mk.i) hxr
      have hrdy : m.i ∈ Region.ready md ops (marks l (nums X)) := by
        have h1 : m.i ∈ Region.ready md ops (marks l []) := by simpa [marks] using hr0
        refine ready_marks (fun _ h => by cases h) (fun hk => ?_) h1
        obtain ⟨x, hx, he⟩ := List.mem_map.1 (hsub _ hk)
        exact hdm x hx he
      rw [show f + Y.length = f + n + 1 by omega]
      refine ⟨fun h0 => (by rw [h0] at hrdy; cases hrdy), fun k hk => ?_⟩
      have hkY : k ∈ Y.map Mk.i := by
        refine Classical.byContradiction fun hno => ?_
        have hk0 : k ∉ rest.map Mk.i := fun hm' => by
          obtain ⟨q, hq, rfl⟩ := List.mem_map.1 hm'
          rcases List.mem_append.1 (hY.mem_iff.2 (List.mem_cons_of_mem m hq)) with h | h
          · exact hno (List.mem_map_of_mem (f := Mk.i) h)
          · obtain ⟨x, hx, rfl⟩ := List.mem_map.1 h
            have := (mem_ready.1 hk).1
            rw [getD_marks] at this
            have hin : x.1.i ∈ nums X := List.mem_map_of_mem (f := fun x : Mk × Nat => x.1.i) hx
            by_cases hsz : x.1.i < l.size
            · rw [if_pos ⟨hin, hsz⟩] at this; cases this
            · rw [if_neg (fun h => hsz h.2)] at this; simp [Array.getElem?_eq_none (Nat.le_of_not_lt hsz)] at this
        have h2 := ready_marks hsub hk0 hk
        rw [hr] at h2
        simp at h2
        exact hno (by rw [h2]; exact List.mem_map_of_mem (f := Mk.i) hmY)
      obtain ⟨y, hy, rfl⟩ := List.mem_map.1 hkY
      obtain ⟨Y1, Y2, e⟩ := List.append_of_mem hy
      have hlen : (Y1 ++ Y2).length = n := by rw [e] at hn; simp at hn ⊢; omega
      refine wpOp_maker hs hp hM hY hy ⟨fun _ _ => hST _ (hc _ _ hl ((Below.refl _ _).alloc (Nat.le_refl _) _)), ?_⟩
      have := ih (Y1 ++ Y2) ((y, W.heap.size) :: X) (W.alloc y.o) hlen (perm_move hY e _) (hc _ _ hl ((Below.refl _ _).alloc (Nat.le_refl _) _)) (hX.cons (hB _ hl) y)
      rw [show f + n = f + (Y1 ++ Y2).length by omega]
      exact this
    · exact done Y X W hB hST hM hMr hdm hp hY hl hX (fun h => absurd h hmY)
where
  done (Y : List Mk) (X : List (Mk × Nat)) (W : World) (hB : ∀ W, T W → F W.heap.size) (hST : ∀ W, T W → S W) (hM : ∀ x ∈ m :: rest, x.Makes P ops a) (hMr : ∀ v, ∀ x ∈ rest, x.Makes P ops (a.put (some m.d) v)) (hdm : ∀ x ∈ rest, x.i ≠ m.i) (hp : pendOK ops (m :: rest) = true)
      (hY : (Y ++ X.map Prod.fst).Perm (m :: rest)) (hl : T W) (hX : Lies F W X) (hmY : m ∈ Y → False) : wpAnyJ P md ops Q j0 S (f + Y.length) (marks l (nums X)) (puts a X) W := by
    have hmX : m ∈ X.map Prod.fst := by
      rcases List.mem_append.1 (hY.mem_iff.2 (List.mem_cons_self (a := m) (l := rest))) with h | h
      · exact (hmY h).elim
      · exact h
    obtain ⟨x, hx, hxm⟩ := List.mem_map.1 hmX
    obtain ⟨x1, r⟩ := x
    simp only at hxm
    subst hxm
    obtain ⟨X1, X2, rfl⟩ := List.append_of_mem hx
    obtain ⟨hat, hF⟩ := hX.at_ _ hx
    obtain ⟨S', T', hT', hSS, hTS, hF', hlt, hc', hw⟩ := h r W hl hat hF
    have hperm : (Y ++ (X1 ++ X2).map Prod.fst).Perm rest := by
      refine (List.perm_cons x1).1 (List.Perm.trans ?_ hY)
      simp only [List.map_append, List.map_cons]
      rw [← List.append_assoc, ← List.append_assoc]
      exact List.perm_middle.symm
    have hin : ∀ x ∈ X1 ++ X2, x ∈ X1 ++ (x1, r) :: X2 := fun x hx => by
      rcases List.mem_append.1 hx with h | h
      · exact List.mem_append_left _ h
      · exact List.mem_append_right _ (List.mem_cons_of_mem _ h)
    have hrest : ∀ x ∈ X1 ++ X2, x.1 ∈ rest := fun x hx => hperm.mem_iff.1 (List.mem_append_right _ (List.mem_map_of_mem (f := Prod.fst) hx))
    have hnr := hX.nd
    simp only [List.map_append, List.map_cons] at hnr
    have hnr := List.nodup_cons.1 ((List.perm_middle.nodup_iff).1 hnr)
    have hLi : Lies (fun s => F s ∧ s ≠ r) W (X1 ++ X2) := by
      refine ⟨fun x hx => ?_, ?_⟩
      · obtain ⟨h1, h2⟩ := hX.at_ x (hin x hx)
        refine ⟨h1, h2, fun e => hnr.1 ?_⟩
        rw [← e, ← List.map_append]
        exact List.mem_map_of_mem (f := Prod.snd) hx
      · rw [List.map_append]
        exact hnr.2
    have := hw (fun V hV => ⟨hF' V hV, Nat.ne_of_gt (hlt V hV)⟩) hTS hc' (hMr _) Y (X1 ++ X2) W hperm hT' hLi
    have hdd : ∀ x ∈ X1 ++ X2, x.1.d ≠ x1.d := fun x hx => pendOK_dst hp (List.mem_cons_of_mem _ (hrest x hx)) (List.mem_cons_self ..) (hdm _ (hrest x hx))
    rw [puts_split X1 (fun x hx => hdd x (List.mem_append_left _ hx)) (fun x hx => hdd x (List.mem_append_right _ hx))] at this
    have hmk : marks (l.setIfInBounds x1.i true) (nums (X1 ++ X2)) = marks l (nums (X1 ++ (x1, r) :: X2)) := by
      have far : ∀ x ∈ X1 ++ X2, x.1.i ≠ x1.i := fun x hx => hdm _ (hrest x hx)
      have : ∀ (Z : List (Mk × Nat)), (∀ x ∈ Z, x.1.i ≠ x1.i) → marks (l.setIfInBounds x1.i true) (nums (Z ++ X2)) = marks l (nums (Z ++ (x1, r) :: X2)) := fun Z => by
        induction Z with
        | nil =>
          intro _
          show marks _ (nums X2) = (marks l (nums X2)).setIfInBounds x1.i true
          exact marks_set _ fun k hk => by
            obtain ⟨x, hx, rfl⟩ := List.mem_map.1 hk
            exact far x (List.mem_append_right _ hx)
        | cons z Z ih =>
          intro hz
          show (marks _ (nums (Z ++ X2))).setIfInBounds _ _ = (marks _ (nums (Z ++ (x1, r) :: X2))).setIfInBounds _ _
          rw [ih fun x hx => hz x (List.mem_cons_of_mem _ hx)]
      exact this X1 fun x hx => far x (List.mem_append_left _ hx)
    rw [hmk] at this
    exact wpAnyJ_weak hSS _ _ _ _ this
/-- The same, short: what is taken answers v; or its guard is not met. -/
theorem wt {F : Nat → Prop} {f : Nat} {pend : List Mk} {l : Array Bool} {a : Act} {S T : World → Prop} {oi : Oper} (i : Nat) (d : Tmp) (v : Value) (hr : ∀ V, S V → (execOp a.eval oi).run P V = .ok (.value v) V) (h : WalkS P md ops Q j0 F f pend (l.setIfInBounds i true) (a.put (some d) v) S T)
    (hi : ops[i]? = some oi := by rfl) (hd : oi.dst = some d := by rfl) (hok : takeOK md ops pend j0 l i oi = true := by kernel_rfl) (hQ : ∀ c a w, Q (.panic c) (a.put (some d) v) w → Q (.panic c) a w := by exact fun _ _ _ h => h) (hw : Region.wanted oi (yielded ops a.tmps) = true := by rfl) : WalkS P md ops Q j0 F (f + 1) pend l a S T :=
  walk_take hi hd hok hQ (.inl ⟨hw, hr⟩) h
theorem ws {F : Nat → Prop} {f : Nat} {pend : List Mk} {l : Array Bool} {a : Act} {S T : World → Prop} {oi : Oper} (i : Nat) (d : Tmp) (h : WalkS P md ops Q j0 F f pend (l.setIfInBounds i true) (a.put (some d) undef) S T)
    (hi : ops[i]? = some oi := by rfl) (hd : oi.dst = some d := by rfl) (hok : takeOK md ops pend j0 l i oi = true := by kernel_rfl) (hQ : ∀ c a w, Q (.panic c) (a.put (some d) undef) w → Q (.panic c) a w := by exact fun _ _ _ h => h) (hw : Region.wanted oi (yielded ops a.tmps) = false := by rfl) : WalkS P md ops Q j0 F (f + 1) pend l a S T :=
  walk_take hi hd hok hQ (.inr ⟨hw, rfl⟩) h
theorem pa (t : List Value) (D : List Deferred) (d : Tmp) (v : Value) : Act.put ⟨t.toArray, D⟩ (some d) v = ⟨(t.set d v).toArray, D⟩ := by simp [Act.put]
end
end Go.Proofs.Ytlbikfamjogpnaa
end

/- law6.same of a page and the same one: true. Conditions: both read in memory; few keys. -/
section
namespace Go.Proofs.Ytlbikfamjogpnaa
open Go.RowKit Go.Proofs.YtlbikfamjogpnaaW.PrintWords Go.Proofs.Ytlbikfamjogpnaa.QPage
set_option linter.unusedVariables false
set_option linter.unusedSimpArgs false

theorem int_at {w : World} {A : Option Addr} {l : List Int} (h : Kd.C (Kd.int .u64) w A l.length l) {i : Nat} (hi : i < l.length) : ∃ ad, A = some ad ∧ ∀ w', Below w.heap.size w w' → w'.cell? (ad.add i) = some (.int .u64 (l.getD i 0)) := by
  have hr := reads_of_C h
  obtain ⟨ad, u, e, hlt, h1, h2⟩ := hr.at_ (k := i) (by simpa using hi)
  rw [List.getElem?_map, List.getElem?_eq_getElem hi] at h1
  injection h1 with h1
  refine ⟨ad, e, fun w' hb => ?_⟩
  rw [hb.cell (p := ad.add i) (World.block_lt_of_cell? _ _ h2), h2, ← h1, List.getD_eq_getElem?_getD, List.getElem?_eq_getElem hi]
  rfl

section
variable {w : World} {A1 A2 A3 B1 B2 B3 : Option Addr} {c1 c2 c3 d1 d2 d3 : Nat} {p : Pg}
set_option maxRecDepth 100000 in
set_option maxHeartbeats 4000000 in
theorem same_any (h : PgR w A1 c1 A2 c2 A3 c3 p) (h' : PgR w B1 d1 B2 d2 B3 d3 p) (hf : Few p) : Calls Try.prog 45 #[pgv A1 c1 A2 c2 A3 c3 p, pgv B1 d1 B2 d2 B3 d3 p] w fun e w' => e = .returned (.bool true) ∧ Below w.heap.size w w' := by
  obtain ⟨lf, ks, vs, ns⟩ := p
  have hk := hf.k
  have hv := hf.v
  have hn := hf.n
  dsimp only at hk hv hn
  unfold pgv
  dsimp only
  obtain ⟨W1, hW1⟩ : ∃ W1, W1 = (w.alloc (.cells #[.bool lf, .slice A1 ks.length c1, .slice A2 vs.length c2, .slice A3 ns.length c3] 67)).alloc (.cells #[.bool lf, .slice B1 ks.length d1, .slice B2 vs.length d2, .slice B3 ns.length d3] 73) := ⟨_, rfl⟩
  have hb1 : Below w.heap.size w W1 := by rw [hW1]; exact ((Below.refl _ _).alloc (Nat.le_refl _) _).alloc (by simp) _
  have kp : Blk W1 w.heap.size 67 #[.bool lf, .slice A1 ks.length c1, .slice A2 vs.length c2, .slice A3 ns.length c3] := by rw [hW1]; exact (Blk.new _ _ _).alloc _
  have kz : Blk W1 (w.heap.size + 1) 73 #[.bool lf, .slice B1 ks.length d1, .slice B2 vs.length d2, .slice B3 ns.length d3] := by
    have := Blk.new (w.alloc (.cells #[.bool lf, .slice A1 ks.length c1, .slice A2 vs.length c2, .slice A3 ns.length c3] 67)) 73 #[.bool lf, .slice B1 ks.length d1, .slice B2 vs.length d2, .slice B3 ns.length d3]
    rw [← hW1] at this
    simpa using this
  have SP : Hid (∀ V, Later W1 V → V.cell? ⟨w.heap.size, 0, none⟩ = some (.bool lf) ∧ V.cell? ⟨w.heap.size, 1, none⟩ = some (.slice A1 ks.length c1) ∧ V.cell? ⟨w.heap.size, 2, none⟩ = some (.slice A2 vs.length c2) ∧ V.cell? ⟨w.heap.size, 3, none⟩ = some (.slice A3 ns.length c3)) := Lib.hid fun V hV => cells4 (kp.below hV kp.lt)
  have SQ : Hid (∀ V, Later W1 V → V.cell? ⟨w.heap.size + 1, 0, none⟩ = some (.bool lf) ∧ V.cell? ⟨w.heap.size + 1, 1, none⟩ = some (.slice B1 ks.length d1) ∧ V.cell? ⟨w.heap.size + 1, 2, none⟩ = some (.slice B2 vs.length d2) ∧ V.cell? ⟨w.heap.size + 1, 3, none⟩ = some (.slice B3 ns.length d3)) := Lib.hid fun V hV => cells4 (kz.below hV kz.lt)
  obtain ⟨p0, p1, p2, p3⟩ := SP.out W1 (Later.refl _)
  obtain ⟨q0, q1, q2, q3⟩ := SQ.out W1 (Later.refl _)
  have HP := Lib.hid (h.below hb1)
  have HQ := Lib.hid (h'.below hb1)
  have HW1 := Lib.hid hW1
  have HB1 := Lib.hid hb1
  clear h h' hf hW1 hb1 kp kz
  go_enter Try.func45, Try.ntmps45
  go_upto_region 1 with fail
  rw [← HW1.out]
  go_wp2_with fail
  have HW0 := Lib.hid (Later.refl W1)
  go_loopw [5] (fun iv wr => ∃ j : Nat, j ≤ ks.length ∧ iv = .int .i64 (j : Int) ∧ Hid (Later W1 wr)) (fun iv _ => ks.length - (intOf iv).toNat)
  case atStart => exact ⟨0, Nat.zero_le _, rfl, HW0⟩
  case round =>
    obtain ⟨j, hj, rfl, HJ⟩ := hrel
    obtain ⟨p0, p1, p2, p3⟩ := SP.out wr HJ.out
    obtain ⟨q0, q1, q2, q3⟩ := SQ.out wr HJ.out
    by_cases hlt : j < ks.length
    · obtain ⟨ad, rfl, hc⟩ := str_at HP.out.k (i := j) hlt
      obtain ⟨ad', rfl, hc'⟩ := str_at HQ.out.k (i := j) hlt
      have SC : Hid (∀ V, Later W1 V → V.cell? (ad.add j) = some (.string (ks.getD j ByteArray.empty)) ∧ V.cell? (ad'.add j) = some (.string (ks.getD j ByteArray.empty))) := Lib.hid fun V hV => ⟨hc V hV, hc' V hV⟩
      have i0 : (0 : Int) ≤ (j : Int) := by omega
      have i1 : (j : Int) < (ks.length : Int) := by omega
      clear hc hc'
      generalize ks.getD j ByteArray.empty = s at *
      go_wp2_with fail
      have HL0 := Lib.hid (Later.refl wr)
      have ZF0 : Hid (∀ s, wr.heap.size ≤ s → wr.heap.size ≤ s) := Lib.hid (fun _ h => h)
      have ZS0 : Hid (∀ V, Later wr V → (Later wr) V) := Lib.hid (fun _ h => h)
      refine walk_start 11 (S := Later wr) (T := Later wr) (by kernel_rfl) (fun r => wr.heap.size ≤ r) (fun _ h => h.size) ZS0.out (closed_later _) (Later.refl _).drew ?_
      refine wt 0 47 ?_ (fun V hV => ?_) ?_
      rotate_left 1
      · (clear hV; go_simp; (try with_reducible rfl))
      try simp only [pa, List.set]
      refine wt 1 48 ?_ (fun V hV => ?_) ?_
      rotate_left 1
      · (obtain ⟨p0, p1, p2, p3⟩ := SP.out V (HJ.out.trans (HL0.out.trans hV)); obtain ⟨q0, q1, q2, q3⟩ := SQ.out V (HJ.out.trans (HL0.out.trans hV)); obtain ⟨e0, e1⟩ := SC.out V (HJ.out.trans (HL0.out.trans hV)); clear hV; go_simp; (try with_reducible rfl))
      try simp only [pa, List.set]
      refine wt 2 49 ?_ (fun V hV => ?_) ?_
      rotate_left 1
      · (clear hV; go_simp; (try with_reducible rfl))
      try simp only [pa, List.set]
      refine wt 3 50 ?_ (fun V hV => ?_) ?_
      rotate_left 1
      · (clear hV; go_simp; (try with_reducible rfl))
      try simp only [pa, List.set]
      refine wt 4 51 ?_ (fun V hV => ?_) ?_
      rotate_left 1
      · (obtain ⟨p0, p1, p2, p3⟩ := SP.out V (HJ.out.trans (HL0.out.trans hV)); obtain ⟨q0, q1, q2, q3⟩ := SQ.out V (HJ.out.trans (HL0.out.trans hV)); obtain ⟨e0, e1⟩ := SC.out V (HJ.out.trans (HL0.out.trans hV)); clear hV; go_simp; (try with_reducible rfl))
      try simp only [pa, List.set]
      refine wt 5 52 ?_ (fun V hV => ?_) ?_
      rotate_left 1
      · (clear hV; go_simp; (try with_reducible rfl))
      try simp only [pa, List.set]
      refine wt 6 53 ?_ (fun V hV => ?_) ?_
      rotate_left 1
      · (obtain ⟨p0, p1, p2, p3⟩ := SP.out V (HJ.out.trans (HL0.out.trans hV)); obtain ⟨q0, q1, q2, q3⟩ := SQ.out V (HJ.out.trans (HL0.out.trans hV)); obtain ⟨e0, e1⟩ := SC.out V (HJ.out.trans (HL0.out.trans hV)); clear hV; go_simp; (try with_reducible rfl))
      try simp only [pa, List.set]
      refine wt 7 54 ?_ (fun V hV => ?_) ?_
      rotate_left 1
      · (clear hV; go_simp; (try with_reducible rfl))
      try simp only [pa, List.set]
      refine wt 8 55 ?_ (fun V hV => ?_) ?_
      rotate_left 1
      · (clear hV; go_simp; (try with_reducible rfl))
      try simp only [pa, List.set]
      refine wt 9 56 ?_ (fun V hV => ?_) ?_
      rotate_left 1
      · (obtain ⟨p0, p1, p2, p3⟩ := SP.out V (HJ.out.trans (HL0.out.trans hV)); obtain ⟨q0, q1, q2, q3⟩ := SQ.out V (HJ.out.trans (HL0.out.trans hV)); obtain ⟨e0, e1⟩ := SC.out V (HJ.out.trans (HL0.out.trans hV)); clear hV; go_simp; (try with_reducible rfl))
      try simp only [pa, List.set]
      refine wt 10 57 ?_ (fun V hV => ?_) ?_
      rotate_left 1
      · (clear hV; go_simp; (try with_reducible rfl))
      try simp only [pa, List.set]
      refine walk_exit (fun V hV => wpAnyJ_done (by kernel_rfl) ?_ _)
      have hV0 := HL0.out.trans hV
      have HV0 := Lib.hid (HJ.out.trans hV0)
      clear hV hV0 p0 p1 p2 p3 q0 q1 q2 q3
      go_wp2_with fail
      go_roundw
      case rel => exact ⟨j + 1, by omega, by go_num, HV0⟩
      case measure => simp [intOf]; omega
    · obtain rfl : j = ks.length := by omega
      clear hlt hj
      go_wp2_with fail
      obtain ⟨wo, rfl⟩ : ∃ wo : World, wo = wr := ⟨_, rfl⟩
      have HW0 := HJ
      clear HJ p0 p1 p2 p3 q0 q1 q2 q3
      obtain ⟨p0, p1, p2, p3⟩ := SP.out wo HW0.out
      obtain ⟨q0, q1, q2, q3⟩ := SQ.out wo HW0.out
      go_loopw [6] (fun iv wr => ∃ j : Nat, j ≤ vs.length ∧ iv = .int .i64 (j : Int) ∧ Hid (Later W1 wr)) (fun iv _ => vs.length - (intOf iv).toNat)
      case atStart => exact ⟨0, Nat.zero_le _, rfl, HW0⟩
      case round =>
        obtain ⟨j, hj, rfl, HJ⟩ := hrel
        obtain ⟨p0, p1, p2, p3⟩ := SP.out wr HJ.out
        obtain ⟨q0, q1, q2, q3⟩ := SQ.out wr HJ.out
        by_cases hlt : j < vs.length
        · obtain ⟨ad, rfl, hc⟩ := str_at HP.out.v (i := j) hlt
          obtain ⟨ad', rfl, hc'⟩ := str_at HQ.out.v (i := j) hlt
          have SC : Hid (∀ V, Later W1 V → V.cell? (ad.add j) = some (.string (vs.getD j ByteArray.empty)) ∧ V.cell? (ad'.add j) = some (.string (vs.getD j ByteArray.empty))) := Lib.hid fun V hV => ⟨hc V hV, hc' V hV⟩
          have i0 : (0 : Int) ≤ (j : Int) := by omega
          have i1 : (j : Int) < (vs.length : Int) := by omega
          clear hc hc'
          generalize vs.getD j ByteArray.empty = s at *
          go_wp2_with fail
          have HL0 := Lib.hid (Later.refl wr)
          have ZF0 : Hid (∀ s, wr.heap.size ≤ s → wr.heap.size ≤ s) := Lib.hid (fun _ h => h)
          have ZS0 : Hid (∀ V, Later wr V → (Later wr) V) := Lib.hid (fun _ h => h)
          refine walk_start 11 (S := Later wr) (T := Later wr) (by kernel_rfl) (fun r => wr.heap.size ≤ r) (fun _ h => h.size) ZS0.out (closed_later _) (Later.refl _).drew ?_
          refine wt 0 65 ?_ (fun V hV => ?_) ?_
          rotate_left 1
          · (clear hV; go_simp; (try with_reducible rfl))
          try simp only [pa, List.set]
          refine wt 1 66 ?_ (fun V hV => ?_) ?_
          rotate_left 1
          · (obtain ⟨p0, p1, p2, p3⟩ := SP.out V (HJ.out.trans (HL0.out.trans hV)); obtain ⟨q0, q1, q2, q3⟩ := SQ.out V (HJ.out.trans (HL0.out.trans hV)); obtain ⟨e0, e1⟩ := SC.out V (HJ.out.trans (HL0.out.trans hV)); clear hV; go_simp; (try with_reducible rfl))
          try simp only [pa, List.set]
          refine wt 2 67 ?_ (fun V hV => ?_) ?_
          rotate_left 1
          · (clear hV; go_simp; (try with_reducible rfl))
          try simp only [pa, List.set]
          refine wt 3 68 ?_ (fun V hV => ?_) ?_
          rotate_left 1
          · (clear hV; go_simp; (try with_reducible rfl))
          try simp only [pa, List.set]
          refine wt 4 69 ?_ (fun V hV => ?_) ?_
          rotate_left 1
          · (obtain ⟨p0, p1, p2, p3⟩ := SP.out V (HJ.out.trans (HL0.out.trans hV)); obtain ⟨q0, q1, q2, q3⟩ := SQ.out V (HJ.out.trans (HL0.out.trans hV)); obtain ⟨e0, e1⟩ := SC.out V (HJ.out.trans (HL0.out.trans hV)); clear hV; go_simp; (try with_reducible rfl))
          try simp only [pa, List.set]
          refine wt 5 70 ?_ (fun V hV => ?_) ?_
          rotate_left 1
          · (clear hV; go_simp; (try with_reducible rfl))
          try simp only [pa, List.set]
          refine wt 6 71 ?_ (fun V hV => ?_) ?_
          rotate_left 1
          · (obtain ⟨p0, p1, p2, p3⟩ := SP.out V (HJ.out.trans (HL0.out.trans hV)); obtain ⟨q0, q1, q2, q3⟩ := SQ.out V (HJ.out.trans (HL0.out.trans hV)); obtain ⟨e0, e1⟩ := SC.out V (HJ.out.trans (HL0.out.trans hV)); clear hV; go_simp; (try with_reducible rfl))
          try simp only [pa, List.set]
          refine wt 7 72 ?_ (fun V hV => ?_) ?_
          rotate_left 1
          · (clear hV; go_simp; (try with_reducible rfl))
          try simp only [pa, List.set]
          refine wt 8 73 ?_ (fun V hV => ?_) ?_
          rotate_left 1
          · (clear hV; go_simp; (try with_reducible rfl))
          try simp only [pa, List.set]
          refine wt 9 74 ?_ (fun V hV => ?_) ?_
          rotate_left 1
          · (obtain ⟨p0, p1, p2, p3⟩ := SP.out V (HJ.out.trans (HL0.out.trans hV)); obtain ⟨q0, q1, q2, q3⟩ := SQ.out V (HJ.out.trans (HL0.out.trans hV)); obtain ⟨e0, e1⟩ := SC.out V (HJ.out.trans (HL0.out.trans hV)); clear hV; go_simp; (try with_reducible rfl))
          try simp only [pa, List.set]
          refine wt 10 75 ?_ (fun V hV => ?_) ?_
          rotate_left 1
          · (clear hV; go_simp; (try with_reducible rfl))
          try simp only [pa, List.set]
          refine walk_exit (fun V hV => wpAnyJ_done (by kernel_rfl) ?_ _)
          have hV0 := HL0.out.trans hV
          have HV0 := Lib.hid (HJ.out.trans hV0)
          clear hV hV0 p0 p1 p2 p3 q0 q1 q2 q3
          go_wp2_with fail
          go_roundw
          case rel => exact ⟨j + 1, by omega, by go_num, HV0⟩
          case measure => simp [intOf]; omega
        · obtain rfl : j = vs.length := by omega
          clear hlt hj
          go_wp2_with fail
          obtain ⟨wo, rfl⟩ : ∃ wo : World, wo = wr := ⟨_, rfl⟩
          have HW0 := HJ
          clear HJ p0 p1 p2 p3 q0 q1 q2 q3
          obtain ⟨p0, p1, p2, p3⟩ := SP.out wo HW0.out
          obtain ⟨q0, q1, q2, q3⟩ := SQ.out wo HW0.out
          go_loopw [7] (fun iv wr => ∃ j : Nat, j ≤ ns.length ∧ iv = .int .i64 (j : Int) ∧ Hid (Later W1 wr)) (fun iv _ => ns.length - (intOf iv).toNat)
          case atStart => exact ⟨0, Nat.zero_le _, rfl, HW0⟩
          case round =>
            obtain ⟨j, hj, rfl, HJ⟩ := hrel
            obtain ⟨p0, p1, p2, p3⟩ := SP.out wr HJ.out
            obtain ⟨q0, q1, q2, q3⟩ := SQ.out wr HJ.out
            by_cases hlt : j < ns.length
            · obtain ⟨ad, rfl, hc⟩ := int_at HP.out.n (i := j) hlt
              obtain ⟨ad', rfl, hc'⟩ := int_at HQ.out.n (i := j) hlt
              have SC : Hid (∀ V, Later W1 V → V.cell? (ad.add j) = some (.int .u64 (ns.getD j 0)) ∧ V.cell? (ad'.add j) = some (.int .u64 (ns.getD j 0))) := Lib.hid fun V hV => ⟨hc V hV, hc' V hV⟩
              have i0 : (0 : Int) ≤ (j : Int) := by omega
              have i1 : (j : Int) < (ns.length : Int) := by omega
              clear hc hc'
              generalize ns.getD j 0 = s at *
              go_wp2_with fail
              have HL0 := Lib.hid (Later.refl wr)
              have ZF0 : Hid (∀ s, wr.heap.size ≤ s → wr.heap.size ≤ s) := Lib.hid (fun _ h => h)
              have ZS0 : Hid (∀ V, Later wr V → (Later wr) V) := Lib.hid (fun _ h => h)
              refine walk_start 11 (S := Later wr) (T := Later wr) (by kernel_rfl) (fun r => wr.heap.size ≤ r) (fun _ h => h.size) ZS0.out (closed_later _) (Later.refl _).drew ?_
              refine wt 0 83 ?_ (fun V hV => ?_) ?_
              rotate_left 1
              · (clear hV; go_simp; (try with_reducible rfl))
              try simp only [pa, List.set]
              refine wt 1 84 ?_ (fun V hV => ?_) ?_
              rotate_left 1
              · (obtain ⟨p0, p1, p2, p3⟩ := SP.out V (HJ.out.trans (HL0.out.trans hV)); obtain ⟨q0, q1, q2, q3⟩ := SQ.out V (HJ.out.trans (HL0.out.trans hV)); obtain ⟨e0, e1⟩ := SC.out V (HJ.out.trans (HL0.out.trans hV)); clear hV; go_simp; (try with_reducible rfl))
              try simp only [pa, List.set]
              refine wt 2 85 ?_ (fun V hV => ?_) ?_
              rotate_left 1
              · (clear hV; go_simp; (try with_reducible rfl))
              try simp only [pa, List.set]
              refine wt 3 86 ?_ (fun V hV => ?_) ?_
              rotate_left 1
              · (clear hV; go_simp; (try with_reducible rfl))
              try simp only [pa, List.set]
              refine wt 4 87 ?_ (fun V hV => ?_) ?_
              rotate_left 1
              · (obtain ⟨p0, p1, p2, p3⟩ := SP.out V (HJ.out.trans (HL0.out.trans hV)); obtain ⟨q0, q1, q2, q3⟩ := SQ.out V (HJ.out.trans (HL0.out.trans hV)); obtain ⟨e0, e1⟩ := SC.out V (HJ.out.trans (HL0.out.trans hV)); clear hV; go_simp; (try with_reducible rfl))
              try simp only [pa, List.set]
              refine wt 5 88 ?_ (fun V hV => ?_) ?_
              rotate_left 1
              · (clear hV; go_simp; (try with_reducible rfl))
              try simp only [pa, List.set]
              refine wt 6 89 ?_ (fun V hV => ?_) ?_
              rotate_left 1
              · (obtain ⟨p0, p1, p2, p3⟩ := SP.out V (HJ.out.trans (HL0.out.trans hV)); obtain ⟨q0, q1, q2, q3⟩ := SQ.out V (HJ.out.trans (HL0.out.trans hV)); obtain ⟨e0, e1⟩ := SC.out V (HJ.out.trans (HL0.out.trans hV)); clear hV; go_simp; (try with_reducible rfl))
              try simp only [pa, List.set]
              refine wt 7 90 ?_ (fun V hV => ?_) ?_
              rotate_left 1
              · (clear hV; go_simp; (try with_reducible rfl))
              try simp only [pa, List.set]
              refine wt 8 91 ?_ (fun V hV => ?_) ?_
              rotate_left 1
              · (clear hV; go_simp; (try with_reducible rfl))
              try simp only [pa, List.set]
              refine wt 9 92 ?_ (fun V hV => ?_) ?_
              rotate_left 1
              · (obtain ⟨p0, p1, p2, p3⟩ := SP.out V (HJ.out.trans (HL0.out.trans hV)); obtain ⟨q0, q1, q2, q3⟩ := SQ.out V (HJ.out.trans (HL0.out.trans hV)); obtain ⟨e0, e1⟩ := SC.out V (HJ.out.trans (HL0.out.trans hV)); clear hV; go_simp; (try with_reducible rfl))
              try simp only [pa, List.set]
              refine wt 10 93 ?_ (fun V hV => ?_) ?_
              rotate_left 1
              · (clear hV; go_simp; (try with_reducible rfl))
              try simp only [pa, List.set]
              refine walk_exit (fun V hV => wpAnyJ_done (by kernel_rfl) ?_ _)
              have hV0 := HL0.out.trans hV
              have HV0 := Lib.hid (HJ.out.trans hV0)
              clear hV hV0 p0 p1 p2 p3 q0 q1 q2 q3
              go_wp2_with fail
              go_roundw
              case rel => exact ⟨j + 1, by omega, by go_num, HV0⟩
              case measure => simp [intOf]; omega
            · obtain rfl : j = ns.length := by omega
              clear hlt hj
              go_wp2_with fail
              go_ret
              exact ⟨rfl, HB1.out.trans ((show Below _ _ _ from HJ.out).mono HB1.out.size)⟩
end
end Go.Proofs.Ytlbikfamjogpnaa
end

/- The order of keys, and where one stands. No program here. Conditions: the keys rise. -/
section
namespace Go.Proofs.Ytlbikfamjogpnaa
open Go.RowKit Go.Proofs.YtlbikfamjogpnaaW.PrintWords Go.Proofs.Ytlbikfamjogpnaa.QPage

theorem lessB_iff (a b : ByteArray) : lessB a b = true ↔ a.toList < b.toList := by
  unfold lessB
  rw [bytesLess_eq, decide_eq_true_eq]
theorem lessB_irrefl (a : ByteArray) : lessB a a = false := by
  cases h : lessB a a with
  | false => rfl
  | true => exact absurd ((lessB_iff a a).1 h) (List.lt_irrefl _)
theorem lessB_trans {a b c : ByteArray} (h1 : lessB a b = true) (h2 : lessB b c = true) : lessB a c = true := by
  rw [lessB_iff] at *
  exact List.lt_trans h1 h2
theorem lessB_tri {a b : ByteArray} (h1 : lessB a b = false) (h2 : lessB b a = false) : a = b := by
  have k1 : ¬ a.toList < b.toList := fun h => by rw [(lessB_iff a b).2 h] at h1; cases h1
  have k2 : ¬ b.toList < a.toList := fun h => by rw [(lessB_iff b a).2 h] at h2; cases h2
  have e : a.toList = b.toList := List.le_antisymm (List.not_lt.1 k2) (List.not_lt.1 k1)
  rw [ByteArray.toList_eq, ByteArray.toList_eq] at e
  exact Go.WideShapes.bytes_inj e

/-- Keys that rise. -/
def Rise (ks : List ByteArray) : Prop := ks.Pairwise fun a b => lessB a b = true
theorem good_rise {p : Pg} (h : goodB p = true) : Rise p.keys := by
  have hok := good_keys h
  have step : ∀ d i, i + d + 1 < p.keys.length → lessB (p.keys.getD i ByteArray.empty) (p.keys.getD (i + d + 1) ByteArray.empty) = true := by
    intro d
    induction d with
    | zero =>
      intro i hi
      have := hok (i + 1) hi
      unfold okAt at this
      simp only [Bool.and_eq_true, Bool.or_eq_true, decide_eq_true_eq] at this
      rcases this.2.2 with h0 | h0
      · omega
      · simpa using h0
    | succ d ih =>
      intro i hi
      have h1 := ih i (by omega)
      have h2 := hok (i + (d + 1) + 1) hi
      unfold okAt at h2
      simp only [Bool.and_eq_true, Bool.or_eq_true, decide_eq_true_eq] at h2
      rcases h2.2.2 with h0 | h0
      · omega
      · exact lessB_trans h1 (by simpa [Nat.add_assoc] using h0)
  refine List.pairwise_iff_getElem.2 fun i j hi hj hij => ?_
  have := step (j - i - 1) i (by omega)
  rw [show i + (j - i - 1) + 1 = j by omega] at this
  rw [List.getD_eq_getElem?_getD, List.getD_eq_getElem?_getD, List.getElem?_eq_getElem hi, List.getElem?_eq_getElem hj] at this
  exact this

/-- Where a key stands, or would. -/
def findN (ks : List ByteArray) (key : ByteArray) : Nat := (ks.takeWhile fun k => lessB k key).length
theorem findN_le (ks : List ByteArray) (key : ByteArray) : findN ks key ≤ ks.length := by
  unfold findN; exact (List.takeWhile_prefix _).length_le
theorem findN_cons (k : ByteArray) (ks : List ByteArray) (key : ByteArray) : findN (k :: ks) key = if lessB k key then findN ks key + 1 else 0 := by
  unfold findN; rw [List.takeWhile_cons]; split <;> simp
theorem findN_before (key : ByteArray) : ∀ (ks : List ByteArray) (i : Nat), i < findN ks key → lessB (ks.getD i ByteArray.empty) key = true
  | [], i, h => by simp [findN] at h
  | k :: ks, i, h => by
    rw [findN_cons] at h
    split at h
    · cases i with
      | zero => simpa
      | succ i => simpa using findN_before key ks i (by omega)
    · omega
theorem findN_at (key : ByteArray) : ∀ (ks : List ByteArray), findN ks key < ks.length → lessB (ks.getD (findN ks key) ByteArray.empty) key = false
  | [], h => by simp at h
  | k :: ks, h => by
    rw [findN_cons] at h ⊢
    by_cases hk : lessB k key = true
    · rw [if_pos hk] at h ⊢
      simpa using findN_at key ks (by simpa using h)
    · rw [if_neg hk]
      simpa using hk
theorem rise_at {ks : List ByteArray} (h : Rise ks) {i j : Nat} (hij : i < j) (hj : j < ks.length) : lessB (ks.getD i ByteArray.empty) (ks.getD j ByteArray.empty) = true := by
  have := List.pairwise_iff_getElem.1 h i j (by omega) hj hij
  rw [List.getD_eq_getElem?_getD, List.getD_eq_getElem?_getD, List.getElem?_eq_getElem (by omega), List.getElem?_eq_getElem hj]
  exact this
theorem findN_behind {ks : List ByteArray} (h : Rise ks) (key : ByteArray) {i : Nat} (h1 : findN ks key ≤ i) (h2 : i < ks.length) : lessB (ks.getD i ByteArray.empty) key = false := by
  have h0 := findN_at key ks (by omega)
  rcases Nat.eq_or_lt_of_le h1 with e | e
  · rw [← e]; exact h0
  · cases hc : lessB (ks.getD i ByteArray.empty) key with
    | false => rfl
    | true => rw [lessB_trans (rise_at h e h2) hc] at h0; cases h0
theorem search_f {ks : List ByteArray} (h : Rise ks) (key : ByteArray) (hn : ks.length < 1000000) : sort_SearchStrings.f ks key = some ((findN ks key : Nat) : Int) := by
  unfold sort_SearchStrings.f
  rw [if_pos (by omega)]
  have := bs_first (fun i => !(lessB (ks.getD i ByteArray.empty) key)) (findN ks key) ks.length (fun i hi => by have := findN_before key ks i hi; rw [this]; rfl) (fun i hi hj => by have := findN_behind h key hi hj; rw [this]; rfl) ks.length 0 ks.length (by omega) (by omega) (findN_le ks key) (by omega)
  unfold lessB at this
  rw [this]
/-- Is a key there? -/
def thereB (ks : List ByteArray) (key : ByteArray) : Bool := decide (findN ks key < ks.length) && ((ks.getD (findN ks key) ByteArray.empty).toList == key.toList)
theorem find_f {ks : List ByteArray} (h : Rise ks) (lf : Bool) (vs : List ByteArray) (ns : List Int) (key : ByteArray) (hn : ks.length < 1000000) : page_Page_Find.f lf ks vs ns key = some (((findN ks key : Nat) : Int), thereB ks key) := by
  unfold page_Page_Find.f
  rw [search_f h key hn]
  simp only [Option.bind_some]
  have hle := findN_le ks key
  unfold thereB
  by_cases hc : findN ks key < ks.length
  · rw [if_pos (by omega), if_pos (by omega), decide_eq_true hc, Bool.true_and]
    have e : rdOf ByteArray.empty ks ((findN ks key : Nat) : Int) = ks.getD (findN ks key) ByteArray.empty := getD_str ks _
    rw [e]
  · rw [if_neg (by omega), decide_eq_false hc, Bool.false_and]
end Go.Proofs.Ytlbikfamjogpnaa
end

/- page.Find, Kid, Put, Drop on pages whose keys rise. Conditions: the page reads in memory; few keys; they rise. -/
section
namespace Go.Proofs.Ytlbikfamjogpnaa
open Go.RowKit Go.Proofs.YtlbikfamjogpnaaW.PrintWords Go.Proofs.Ytlbikfamjogpnaa.QPage

def putP (p : Pg) (key val : ByteArray) : Pg :=
  if p.leaf then
    if thereB p.keys key then ⟨p.leaf, p.keys, p.vals.set (findN p.keys key) val, p.kids⟩
    else ⟨p.leaf, p.keys.take (findN p.keys key) ++ [key] ++ p.keys.drop (findN p.keys key), p.vals.take (findN p.keys key) ++ [val] ++ p.vals.drop (findN p.keys key), p.kids⟩
  else p
def dropP (p : Pg) (key : ByteArray) : Pg :=
  if p.leaf && thereB p.keys key then ⟨p.leaf, p.keys.take (findN p.keys key) ++ p.keys.drop (findN p.keys key + 1), p.vals.take (findN p.keys key) ++ p.vals.drop (findN p.keys key + 1), p.kids⟩
  else p
def kidN (p : Pg) (key : ByteArray) : Nat := if p.leaf then 0 else if thereB p.keys key then findN p.keys key + 1 else findN p.keys key

section
variable {w : World} {A1 A2 A3 : Option Addr} {c1 c2 c3 : Nat} {p : Pg}
theorem find_any (key : ByteArray) (h : PgR w A1 c1 A2 c2 A3 c3 p) (hf : Few p) (hr : Rise p.keys) : Calls Try.prog 50 #[pgv A1 c1 A2 c2 A3 c3 p, .string key] w fun e w' => e = .returned (.tuple #[.int .i64 (findN p.keys key : Nat), .bool (thereB p.keys key)]) ∧ Below w.heap.size w w' :=
  page_Page_Find.calls p.leaf A1 c1 p.keys A2 c2 p.vals A3 c3 p.kids key _ _ w h.k h.kc h.v h.vc h.n h.nc (find_f hr _ _ _ key hf.k)
theorem kid_any (key : ByteArray) (h : PgR w A1 c1 A2 c2 A3 c3 p) (hf : Few p) (hr : Rise p.keys) : Calls Try.prog 48 #[pgv A1 c1 A2 c2 A3 c3 p, .string key] w fun e w' => e = .returned (.int .i64 (kidN p key : Nat)) ∧ Below w.heap.size w w' := by
  refine page_Page_Kid.calls p.leaf A1 c1 p.keys A2 c2 p.vals A3 c3 p.kids key _ w h.k h.kc h.v h.vc h.n h.nc ?_
  unfold page_Page_Kid.f kidN
  have hle := findN_le p.keys key
  have := hf.k
  cases p.leaf with
  | true => rfl
  | false =>
    rw [if_neg (by simp), if_neg (by simp), find_f hr _ _ _ key hf.k]
    simp only [Option.bind_some]
    cases thereB p.keys key with
    | true =>
      rw [if_pos rfl, if_pos rfl]
      congr 1
      unfold wrap64
      omega
    | false => rfl
theorem pgv_V {p : Pg} {A1 A2 A3 : Option Addr} {c1 c2 c3 : Nat} (h : PgR w A1 c1 A2 c2 A3 c3 p) : Kd.V Kd.string 9 w w.heap.size (fun k => k < w.heap.size) (.slice A1 p.keys.length c1) p.keys ∧ Kd.V Kd.string 9 w w.heap.size (fun k => k < w.heap.size) (.slice A2 p.vals.length c2) p.vals ∧ Kd.V (Kd.int .u64) 32 w w.heap.size (fun k => k < w.heap.size) (.slice A3 p.kids.length c3) p.kids :=
  ⟨Kd.V_mk h.kc (Kd.C_F Kd.heap_string h.k), Kd.V_mk h.vc (Kd.C_F Kd.heap_string h.v), Kd.V_mk h.nc (Kd.C_F (Kd.heap_int _) h.n)⟩
theorem ins_f (l : List ByteArray) (x : ByteArray) {i : Nat} (h : i ≤ l.length) (hl : l.length < 1000000) : slices_Insert_string_string.f l (i : Int) [x] = some (l.take i ++ [x] ++ l.drop i) := by
  have hc : 0 ≤ (i : Int) ∧ (i : Int) ≤ l.length ∧ 0 < [x].length ∧ l.length + [x].length < 8796093022208 := by
    have e : [x].length = 1 := rfl
    rw [e]
    omega
  unfold slices_Insert_string_string.f
  rw [if_pos hc, Int.toNat_natCast]
theorem del_f (l : List ByteArray) {i : Nat} (h : i < l.length) : slices_Delete_string_string.f l (i : Int) ((i + 1 : Nat) : Int) = some (l.take i ++ l.drop (i + 1)) := by
  have hc : 0 ≤ (i : Int) ∧ (i : Int) < ((i + 1 : Nat) : Int) ∧ ((i + 1 : Nat) : Int) ≤ l.length := by omega
  unfold slices_Delete_string_string.f
  rw [if_pos hc, Int.toNat_natCast, Int.toNat_natCast]
theorem drop_j (m : Nat) (x : Int) (lf : Bool) (ks vs : List ByteArray) (ns : List Int) : page_Page_Drop.j0 (m + 1) x true lf ks vs ns = some (lf, ks, vs, ns) := rfl
theorem drop_k (m : Nat) (x : Int) (lf : Bool) (ks vs : List ByteArray) (ns : List Int) {k2 v2 : List ByteArray} (hc : page_clone.f lf ks vs ns = some (lf, ks, vs, ns)) (h1 : slices_Delete_string_string.f ks x (wrap64 (x + 1)) = some k2) (h2 : slices_Delete_string_string.f vs x (wrap64 (x + 1)) = some v2) : page_Page_Drop.j0 (m + 1) x false lf ks vs ns = some (lf, k2, v2, ns) := by
  have e : page_Page_Drop.j0 (m + 1) x false lf ks vs ns = ((page_clone.f lf ks vs ns).bind fun bt235 => ((slices_Delete_string_string.f bt235.2.1 x (wrap64 (x + 1))).bind fun t245 => ((slices_Delete_string_string.f bt235.2.2.1 x (wrap64 (x + 1))).bind fun t248 => (some (bt235.1, t245, t248, bt235.2.2.2))))) := rfl
  rw [e, hc]
  simp only [Option.bind_some]
  rw [h1]
  simp only [Option.bind_some]
  rw [h2]
  rfl
theorem drop_f (m : Nat) (key : ByteArray) (hf : Few p) (hr : Rise p.keys) (hv : p.leaf = true → p.vals.length = p.keys.length) : page_Page_Drop.f (m + 1) p.leaf p.keys p.vals p.kids key = some ((dropP p key).leaf, (dropP p key).keys, (dropP p key).vals, (dropP p key).kids) := by
  have hle := findN_le p.keys key
  have hk := hf.k
  have hfv := hf.v
  have hfn := hf.n
  obtain ⟨lf, ks, vs, ns⟩ := p
  dsimp only at *
  unfold page_Page_Drop.f dropP
  rw [find_f hr _ _ _ key hk]
  simp only [Option.bind_some]
  cases lf with
  | false =>
    rw [if_neg Bool.false_ne_true, drop_j]
    rfl
  | true =>
    have hv' := hv rfl
    have hc := clone_f ⟨true, ks, vs, ns⟩ (by show ns.length < _; omega) (by show ks.length < _; omega) (by show vs.length < _; omega)
    dsimp only at hc
    simp only [if_true]
    cases hT : thereB ks key with
    | true =>
      have hlt : findN ks key < ks.length := by
        unfold thereB at hT
        simp only [Bool.and_eq_true, decide_eq_true_eq] at hT
        exact hT.1
      have e1 := del_f ks hlt
      have e2 := del_f vs (i := findN ks key) (by omega)
      have ew := wrap_up (n := ks.length) hlt (by omega)
      rw [Bool.not_true, drop_k m _ true ks vs ns hc (by rw [ew]; exact e1) (by rw [ew]; exact e2)]
      rfl
    | false =>
      rw [Bool.not_false, drop_j]
      rfl
theorem drop_any (key : ByteArray) (h : PgR w A1 c1 A2 c2 A3 c3 p) (hf : Few p) (hr : Rise p.keys) (hv : p.leaf = true → p.vals.length = p.keys.length) : Calls Try.prog 52 #[pgv A1 c1 A2 c2 A3 c3 p, .string key] w fun e w' => Below w.heap.size w w' ∧ ∃ B1 d1 B2 d2 B3 d3, e = .returned (pgv B1 d1 B2 d2 B3 d3 (dropP p key)) ∧ PgR w' B1 d1 B2 d2 B3 d3 (dropP p key) := by
  have ho := drop_f 0 key hf hr hv
  obtain ⟨k1, k2, k3⟩ := pgv_V h
  refine (page_Page_Drop.calls (0 + 1) p.leaf _ A1 c1 p.keys _ A2 c2 p.vals _ A3 c3 p.kids key _ _ _ _ w k1 k2 k3 ho).mono ?_
  rintro e w' ⟨v1, v2, v3, rfl, h1, h2, h3, hb⟩
  obtain ⟨B1, d1, B2, d2, B3, d3, e1, hp⟩ := pgr_of_V (p := dropP p key) h1 h2 h3
  exact ⟨hb, B1, d1, B2, d2, B3, d3, by rw [e1], hp⟩
end
end Go.Proofs.Ytlbikfamjogpnaa
end

/- What 'awake' of page's laws asks, in plain Lean. No program here. Conditions: none. -/
section
namespace Go.Proofs.Ytlbikfamjogpnaa
open Go.RowKit Go.Proofs.YtlbikfamjogpnaaW.PrintWords Go.Proofs.Ytlbikfamjogpnaa.QPage

def sa : ByteArray := ⟨#[97]⟩
def sb : ByteArray := ⟨#[98]⟩
def s1 : ByteArray := ⟨#[49]⟩
def s2 : ByteArray := ⟨#[50]⟩
def sm : ByteArray := ⟨#[109]⟩
def sn : ByteArray := ⟨#[110]⟩
def pP : Pg := ⟨true, [sa], [s1], []⟩
def pR : Pg := ⟨true, [sa, sb], [s1, s2], []⟩
def pS : Pg := ⟨true, [sb], [s2], []⟩
def pM : Pg := ⟨false, [sm], [], [1, 2]⟩
theorem less_ba (a b : Array UInt8) : lessB ⟨a⟩ ⟨b⟩ = Op.bytesLess a.toList b.toList := by
  unfold lessB
  rw [ByteArray.toList_eq, ByteArray.toList_eq]
theorem l_ab : lessB sa sb = true := by unfold sa sb; rw [less_ba]; rfl
theorem l_aa : lessB sa sa = false := lessB_irrefl _
theorem l_mn : lessB sm sn = true := by unfold sm sn; rw [less_ba]; rfl
theorem f_Pb : findN [sa] sb = 1 := by simp [findN, l_ab]
theorem f_Pa : findN [sa] sa = 0 := by simp [findN, l_aa]
theorem f_Ra : findN [sa, sb] sa = 0 := by simp [findN, l_aa]
theorem f_Mn : findN [sm] sn = 1 := by simp [findN, l_mn]
theorem t_Pb : thereB [sa] sb = false := by simp [thereB, f_Pb]
theorem t_Pa : thereB [sa] sa = true := by simp [thereB, f_Pa]
theorem t_Ra : thereB [sa, sb] sa = true := by simp [thereB, f_Ra]
theorem t_Mn : thereB [sm] sn = false := by simp [thereB, f_Mn]
theorem r_P : Rise pP.keys := List.pairwise_singleton _ _
theorem r_M : Rise pM.keys := List.pairwise_singleton _ _
theorem r_R : Rise pR.keys := List.pairwise_cons.2 ⟨fun x hx => by
  obtain rfl := List.mem_singleton.1 hx
  exact l_ab, List.pairwise_singleton _ _⟩
theorem put_P : putP pP sb s2 = pR := by simp [putP, pP, pR, t_Pb, f_Pb]
theorem drop_R : dropP pR sa = pS := by simp [dropP, pR, pS, t_Ra, f_Ra]
theorem kid_M : kidN pM sn = 1 := by simp [kidN, pM, t_Mn, f_Mn]
theorem put_one (n : Nat) (h : n < 128) : putU n = [UInt8.ofNat n] := putU_small h
theorem putS_a : putS sa = [1, 97] := by unfold putS; rw [show sa.size = 1 from rfl, put_one 1 (by omega)]; rfl
theorem putS_1 : putS s1 = [1, 49] := by unfold putS; rw [show s1.size = 1 from rfl, put_one 1 (by omega)]; rfl
theorem enc_P : encP pP = [76, 1, 1, 97, 1, 49] := by
  unfold encP encB pP
  simp only [if_true, List.length_cons, List.length_nil, encKV, putS_a, putS_1, put_one 1 (by omega)]
  rfl
theorem good_P : goodB pP = true := by
  unfold goodB keysFrom valsFrom kidsFrom shapeB pP
  simp [okAt, sa, s1]
  decide
theorem small_P : Small pP := by unfold Small pP sizes sa s1; simp; decide
theorem small_R : Small pR := by unfold Small pR sizes sa s1 sb s2; simp; decide
theorem split_R : splitAt pR = 1 := by
  unfold splitAt
  have e : pR.keys.length = 2 := rfl
  rw [e]
  rfl
end Go.Proofs.Ytlbikfamjogpnaa
end

/- append onto a slice that has no room and no elements: it makes a row of its own. Conditions: what is appended reads; it fits the reach. -/
section
namespace Go.Proofs.Ytlbikfamjogpnaa
open Go.RowKit
section
variable {P : Program} (w : World)

theorem loadCells_none (a : Addr) : loadCells a 0 = pure #[] := rfl
theorem run_append_empty (t ty e : TypeId) (i : TypeInfo) (ht : P.underlying t = some (.slice e)) (hi : P.info? e = some i) (ad0 : Addr) (A : Option Addr) (m c : Nat) (hm : 0 < m) (h63 : m ≤ maxLen) (hbytes : m * i.bytes ≤ 140737488355328) :
    (Builtin.append_ #[t, t] ty #[.slice (some ad0) 0 0, .slice A m c]).run P w = (Builtin.append_ #[t, t] ty #[.slice none 0 0, .slice A m c]).run P w := by
  have h1 : ¬ m ≤ 0 := by omega
  have h2 : Builtin.nextslicecap m 0 = m := by unfold Builtin.nextslicecap; simp [hm]
  have h3 : ¬ 281474976710656 < m * i.bytes := by omega
  have h4 : ¬ (9223372036854775807 < (m : Int) ∧ i.bytes = 0) := by unfold maxLen at h63; omega
  simp [Builtin.append_, run_underlying ht, sizeOf, typeInfo, hi, Builtin.lenOf, Builtin.firstCells, h2, h3, h4, Nat.ne_of_gt hm, loadCells_none]
theorem run_append_zero (t ty e : TypeId) (i : TypeInfo) (ht : P.underlying t = some (.slice e)) (hi : P.info? e = some i) (ad0 : Addr) (A : Option Addr) (c : Nat) :
    (Builtin.append_ #[t, t] ty #[.slice (some ad0) 0 0, .slice A 0 c]).run P w = .ok (.slice (some ad0) 0 0) w := by
  cases A <;> simp [Builtin.append_, run_underlying ht, sizeOf, typeInfo, hi, Builtin.lenOf, Builtin.firstCells, loadCells_none, storeCells]

/-- What an append onto an empty literal leaves. -/
def Fresh (w : World) (e : TypeId) (m : Nat) (news : List Value) (v' : Value) (w' : World) : Prop :=
  Below w.heap.size w w' ∧ (w'.ownsRow w.heap.size e 1 v' m news ∨ (m = 0 ∧ news = [] ∧ ∃ ad, v' = .slice (some ad) 0 0))

theorem wp_append_empty {o : Oper} {a : Act} {K : Act → World → Prop} {Q : Exit → Act → World → Prop} (s x : Operand) (t : TypeId)
    (ho : o.op = .call { callee := .builtin .append, args := #[s, x], argTypes := #[t, t] })
    (e : TypeId) (i : TypeInfo) (z : Value) (ht : P.underlying t = some (.slice e)) (hi : P.info? e = some i) (hz : i.zero = some z)
    (hsize : i.size = 1) (hzs : z.cells.size = 1) (ad0 : Addr) (hs : a.eval s = .slice (some ad0) 0 0)
    (B : Nat) (A : Option Addr) (m c : Nat) (news : List Value) (hx : a.eval x = .slice A m c) (hr : Reads w B 1 A m news) (h1 : ∀ u ∈ news, u.oneCell' = true)
    (h63 : m ≤ maxLen) (hbytes : m * i.bytes ≤ 140737488355328)
    (h : ∀ v' w', Fresh w e m news v' w' → K (a.put o.dst v') w') :
    o.wp P a w K Q := by
  rcases Nat.eq_zero_or_pos m with h0 | h0
  · subst h0
    have hn : news = [] := List.eq_nil_of_length_eq_zero (by simpa using hr.1)
    subst hn
    unfold Oper.wp execOp
    simp only [ho, resolve, invoke, builtin, Sem.run_bind, Sem.run_pure, Result.andThen_ok, List.map_toArray, List.map_cons, List.map_nil, hs, hx, run_append_zero w t o.type e i ht hi ad0 A c]
    exact h _ _ ⟨Below.refl _ _, .inr ⟨rfl, rfl, _, rfl⟩⟩
  · have hown : w.ownsRow w.heap.size e 1 (.slice none 0 0) 0 [] := ⟨by simp, .inl ⟨rfl, rfl⟩⟩
    obtain ⟨v', w', hrun, h2, h3, _⟩ := run_append_any (P := P) w w.heap.size t o.type e i z 1 i.bytes ht hi hz hsize rfl hzs (by omega) (.slice none 0 0) 0 [] hown B A m c news hr h1 (by omega) (by rw [Nat.zero_add]; exact hbytes) (Nat.le_refl _)
    have hb : Below w.heap.size w w' := (Below.refl _ _).grown h3 (Nat.le_refl _) (fun k hk => by simp [Value.ownBlock] at hk)
    unfold Oper.wp execOp
    simp only [ho, resolve, invoke, builtin, Sem.run_bind, Sem.run_pure, Result.andThen_ok, List.map_toArray, List.map_cons, List.map_nil, hs, hx, run_append_empty w t o.type e i ht hi ad0 A m c h0 h63 hbytes, hrun]
    exact h _ _ ⟨hb, .inl (by simpa using h2)⟩
end
end Go.Proofs.Ytlbikfamjogpnaa
end

/- law6.own: the very page, in rows of its own. Conditions: the page reads in memory; few keys. -/
section
namespace Go.Proofs.Ytlbikfamjogpnaa
open Go.RowKit Go.Proofs.YtlbikfamjogpnaaW.PrintWords Go.Proofs.Ytlbikfamjogpnaa.QPage
set_option linter.unusedVariables false
set_option linter.unusedSimpArgs false

theorem V_of_fresh {α : Type} {enc : α → Value} {h1 : ∀ x, (enc x).oneCell' = true} {w : World} {e : TypeId} {l : List α} {v : Value} {w' : World} {N : Nat} (hN : N ≤ w.heap.size) (hm : l.length ≤ 9223372036854775807) (h : Fresh w e l.length (l.map enc) v w') :
    ∃ A c, v = .slice A l.length c ∧ Kd.V (Kd.scalar enc h1) e w' N (fun k => N ≤ k) (.slice A l.length c) l := by
  rcases h.2 with ho | ⟨h0, hn, ad, rfl⟩
  · have h3 := Kd.R_mono (Kd.R_bound (R_of_own (h1 := h1) ho)) (ok' := fun k => N ≤ k) (fun k hk => Nat.le_trans hN hk.2.1)
    obtain ⟨A, c, rfl, -, -⟩ := Kd.R_reads h3
    exact ⟨A, c, rfl, Kd.R_V h3⟩
  · obtain rfl : l = [] := List.eq_nil_of_length_eq_zero h0
    exact ⟨some ad, 0, rfl, some ad, 0, rfl, Nat.le_refl _, fun W' _ => C_of_reads (B := 0) ⟨by simp, fun h => absurd h (Nat.lt_irrefl 0)⟩ (by omega)⟩

section
variable {w : World} {A1 A2 A3 : Option Addr} {c1 c2 c3 : Nat} {p : Pg}
set_option maxRecDepth 100000 in
set_option maxHeartbeats 4000000 in
theorem own_any (h : PgR w A1 c1 A2 c2 A3 c3 p) (hf : Few p) : Calls Try.prog 40 #[pgv A1 c1 A2 c2 A3 c3 p] w fun e w' => Below w.heap.size w w' ∧ ∃ B1 d1 B2 d2 B3 d3, e = .returned (pgv B1 d1 B2 d2 B3 d3 p) ∧ PgR w' B1 d1 B2 d2 B3 d3 p := by
  obtain ⟨i0, hi0, hz0, hz1, hz2⟩ := info_parts cinfo_str
  obtain ⟨i1, hi1, hy0, hy1, hy2⟩ := info_parts cinfo_u64
  obtain ⟨lf, ks, vs, ns⟩ := p
  have hk := hf.k
  have hv := hf.v
  have hn := hf.n
  dsimp only at hk hv hn
  unfold pgv
  dsimp only
  obtain ⟨W1, hW1⟩ : ∃ W1, W1 = (w.alloc (.cells #[.bool lf, .slice A1 ks.length c1, .slice A2 vs.length c2, .slice A3 ns.length c3] 67)).alloc (.cells #[.bool false, .slice none 0 0, .slice none 0 0, .slice none 0 0] 73) := ⟨_, rfl⟩
  have hb1 : Below w.heap.size w W1 := by rw [hW1]; exact ((Below.refl _ _).alloc (Nat.le_refl _) _).alloc (by simp) _
  have hs1 : W1.heap.size = w.heap.size + 2 := by rw [hW1]; simp
  have kp : Blk W1 w.heap.size 67 #[.bool lf, .slice A1 ks.length c1, .slice A2 vs.length c2, .slice A3 ns.length c3] := by rw [hW1]; exact (Blk.new _ _ _).alloc _
  have kz : Blk W1 (w.heap.size + 1) 73 #[.bool false, .slice none 0 0, .slice none 0 0, .slice none 0 0] := by
    have := Blk.new (w.alloc (.cells #[.bool lf, .slice A1 ks.length c1, .slice A2 vs.length c2, .slice A3 ns.length c3] 67)) 73 #[.bool false, .slice none 0 0, .slice none 0 0, .slice none 0 0]
    rw [← hW1] at this
    simpa using this
  have SF : Hid (∀ V, Below (w.heap.size + 1) W1 V → V.cell? ⟨w.heap.size, 0, none⟩ = some (.bool lf) ∧ V.cell? ⟨w.heap.size, 1, none⟩ = some (.slice A1 ks.length c1) ∧ V.cell? ⟨w.heap.size, 2, none⟩ = some (.slice A2 vs.length c2) ∧ V.cell? ⟨w.heap.size, 3, none⟩ = some (.slice A3 ns.length c3)) := Lib.hid fun V hV => cells4 (kp.below hV (by omega))
  have R1 := Lib.hid (reads_of_C (h.below hb1).k)
  have R2 := Lib.hid (reads_of_C (h.below hb1).v)
  have R3 := Lib.hid (reads_of_C (h.below hb1).n)
  have HW1 := Lib.hid hW1
  have HB1 := Lib.hid hb1
  have HKZ := Lib.hid kz
  have HS1 := Lib.hid hs1
  have O1 : Hid (∀ u ∈ ks.map Value.string, u.oneCell' = true) := Lib.hid (map_one (fun _ => rfl) ks)
  have O2 : Hid (∀ u ∈ vs.map Value.string, u.oneCell' = true) := Lib.hid (map_one (fun _ => rfl) vs)
  have O3 : Hid (∀ u ∈ ns.map (Value.int .u64), u.oneCell' = true) := Lib.hid (map_one (fun _ => rfl) ns)
  clear h hf hW1 hb1 kp kz
  go_enter Try.func40, Try.ntmps40
  go_upto_region 1 with fail
  rw [← HW1.out]
  have HL0 := Lib.hid (Later.refl W1)
  have ZF0 : Hid (∀ s, W1.heap.size ≤ s → W1.heap.size ≤ s) := Lib.hid (fun _ h => h)
  have ZS0 : Hid (∀ V, Later W1 V → (Below (w.heap.size + 1) W1) V) := Lib.hid (fun V' h => (show Below _ _ _ from h).mono (show w.heap.size + 1 ≤ W1.heap.size by first | omega | (simp; done) | (simp; omega)))
  refine walk_start 15 (S := Below (w.heap.size + 1) W1) (T := Later W1) (by kernel_rfl) (fun r => W1.heap.size ≤ r) (fun _ h => h.size) ZS0.out (closed_later _) (Later.refl _).drew ?_
  refine wt 0 3 ?_ (fun V hV => ?_) ?_
  rotate_left 1
  · (clear hV; go_simp; (try with_reducible rfl))
  try simp only [pa, List.set]
  refine wt 1 4 ?_ (fun V hV => ?_) ?_
  rotate_left 1
  · (obtain ⟨q0, q1, q2, q3⟩ := SF.out V hV; clear hV; go_simp; (try with_reducible rfl))
  try simp only [pa, List.set]
  refine wt 3 6 ?_ (fun V hV => ?_) ?_
  rotate_left 1
  · (clear hV; go_simp; (try with_reducible rfl))
  try simp only [pa, List.set]
  refine wt 4 7 ?_ (fun V hV => ?_) ?_
  rotate_left 1
  · (obtain ⟨q0, q1, q2, q3⟩ := SF.out V hV; clear hV; go_simp; (try with_reducible rfl))
  try simp only [pa, List.set]
  refine wt 7 10 ?_ (fun V hV => ?_) ?_
  rotate_left 1
  · (clear hV; go_simp; (try with_reducible rfl))
  try simp only [pa, List.set]
  refine wt 8 11 ?_ (fun V hV => ?_) ?_
  rotate_left 1
  · (obtain ⟨q0, q1, q2, q3⟩ := SF.out V hV; clear hV; go_simp; (try with_reducible rfl))
  try simp only [pa, List.set]
  refine wt 11 14 ?_ (fun V hV => ?_) ?_
  rotate_left 1
  · (clear hV; go_simp; (try with_reducible rfl))
  try simp only [pa, List.set]
  refine wt 12 15 ?_ (fun V hV => ?_) ?_
  rotate_left 1
  · (obtain ⟨q0, q1, q2, q3⟩ := SF.out V hV; clear hV; go_simp; (try with_reducible rfl))
  try simp only [pa, List.set]
  refine walk_pend ⟨10, 13, (.cells #[] 32), fun r => .slice (some ⟨r, 0, none⟩) 0 0⟩ ⟨_, rfl, rfl, rfl, fun W => ?_⟩ ?_
  · (go_simp; (try with_reducible rfl))
  refine walk_pend ⟨6, 9, (.cells #[] 9), fun r => .slice (some ⟨r, 0, none⟩) 0 0⟩ ⟨_, rfl, rfl, rfl, fun W => ?_⟩ ?_
  · (go_simp; (try with_reducible rfl))
  refine walk_pend ⟨2, 5, (.cells #[] 9), fun r => .slice (some ⟨r, 0, none⟩) 0 0⟩ ⟨_, rfl, rfl, rfl, fun W => ?_⟩ ?_
  · (go_simp; (try with_reducible rfl))
  refine walk_force (by kernel_rfl) (by kernel_rfl) (by kernel_rfl) (by kernel_rfl) (fun r2 x2 hV hr2 hB2 => ?_)
  have lt2 : r2 < x2.heap.size := (Array.getElem?_eq_some_iff.1 hr2).1
  have HL1 := Lib.hid (HL0.out.trans hV)
  have ZF1 : Hid (∀ s, x2.heap.size ≤ s → _ ∧ s ≠ r2) := Lib.hid (fun s h => ⟨ZF0.out s (Nat.le_trans hV.size h), Nat.ne_of_gt (Nat.lt_of_lt_of_le lt2 h)⟩)
  have ZS1 : Hid (∀ V, Later x2 V → (Below (w.heap.size + 1) W1) V) := Lib.hid (fun V' h => ZS0.out V' (hV.trans h))
  refine ⟨Below (w.heap.size + 1) W1, Later x2, Later.refl _, fun _ h => h, ZS1.out, fun V' h => ZF0.out _ (Nat.le_trans hV.size h.size), fun V' h => Nat.lt_of_lt_of_le lt2 h.size, closed_later _, ?_⟩
  try simp only [pa, List.set]
  have HT2 := Lib.hid hV
  clear hV
  refine walk_core 5 rfl (by kernel_rfl) (fun _ _ _ _ _ h => h) (fun V hV K hK => ?_)
  have hV0 := HL1.out.trans hV
  have hSV := ZS1.out V hV
  try simp only [List.getElem_toArray, List.getElem_cons_succ, List.getElem_cons_zero]
  rw [if_pos (by rfl)]
  refine wp_append_empty V (.tmp 5) (.tmp 7) 64 ?_ 9 i0 _ Try.underlying64 hi0 hz0 hz1 rfl ⟨r2, 0, none⟩ ?_ _ A1 ks.length c1 _ ?_ (R1.out.below hV0) O1.out (by unfold maxLen; omega) (by rw [hz2]; omega) ?_
  · rfl
  · rfl
  · rfl
  intro v5 x5 hf5
  obtain ⟨B1, d1, rfl, hq1⟩ := V_of_fresh (h1 := fun _ => rfl) hV0.size (by omega) hf5
  have hb := hf5.1
  have HQ1 := Lib.hid hq1
  clear hf5 hq1
  have HT5 := Lib.hid (hV.of hb)
  have HL2 := Lib.hid (hV0.of hb)
  have hsize := hb.size
  have hkeep := fun (r : Nat) (_ : True) (h : r < V.heap.size) => hb.block r h
  have ZF2 : Hid (∀ s, x5.heap.size ≤ s → _) := Lib.hid (fun s h => ZF1.out s (Nat.le_trans hV.size (Nat.le_trans hsize h)))
  have ZS2 : Hid (∀ V, Later x5 V → (Below (w.heap.size + 1) W1) V) := Lib.hid (fun V' h => ZS1.out V' ((hV.of hb).trans h))
  refine hK.out _ _ (Below (w.heap.size + 1) W1) (Later x5) _ (fun r _ h => hkeep r trivial h) (fun _ h _ => h) (fun _ h => h) ZS2.out (fun V' h => ZF2.out _ h.size) (Later.refl _) (closed_later _) ?_
  clear hK K hV hsize hkeep hV0 hSV hb
  simp only [Act.put]
  try simp only [pa, List.set]
  refine walk_force (by kernel_rfl) (by kernel_rfl) (by kernel_rfl) (by kernel_rfl) (fun r6 x6 hV hr6 hB6 => ?_)
  have lt6 : r6 < x6.heap.size := (Array.getElem?_eq_some_iff.1 hr6).1
  have HL3 := Lib.hid (HL2.out.trans hV)
  have ZF3 : Hid (∀ s, x6.heap.size ≤ s → _ ∧ s ≠ r6) := Lib.hid (fun s h => ⟨ZF2.out s (Nat.le_trans hV.size h), Nat.ne_of_gt (Nat.lt_of_lt_of_le lt6 h)⟩)
  have ZS3 : Hid (∀ V, Later x6 V → (Below (w.heap.size + 1) W1) V) := Lib.hid (fun V' h => ZS2.out V' (hV.trans h))
  refine ⟨Below (w.heap.size + 1) W1, Later x6, Later.refl _, fun _ h => h, ZS3.out, fun V' h => ZF2.out _ (Nat.le_trans hV.size h.size), fun V' h => Nat.lt_of_lt_of_le lt6 h.size, closed_later _, ?_⟩
  try simp only [pa, List.set]
  have HT6 := Lib.hid hV
  clear hV
  refine walk_core 9 rfl (by kernel_rfl) (fun _ _ _ _ _ h => h) (fun V hV K hK => ?_)
  have hV0 := HL3.out.trans hV
  have hSV := ZS3.out V hV
  try simp only [List.getElem_toArray, List.getElem_cons_succ, List.getElem_cons_zero]
  rw [if_pos (by rfl)]
  refine wp_append_empty V (.tmp 9) (.tmp 11) 64 ?_ 9 i0 _ Try.underlying64 hi0 hz0 hz1 rfl ⟨r6, 0, none⟩ ?_ _ A2 vs.length c2 _ ?_ (R2.out.below hV0) O2.out (by unfold maxLen; omega) (by rw [hz2]; omega) ?_
  · rfl
  · rfl
  · rfl
  intro v9 x9 hf9
  obtain ⟨B2, d2, rfl, hq2⟩ := V_of_fresh (h1 := fun _ => rfl) hV0.size (by omega) hf9
  have hb := hf9.1
  have HQ2 := Lib.hid hq2
  clear hf9 hq2
  have HT9 := Lib.hid (hV.of hb)
  have HL4 := Lib.hid (hV0.of hb)
  have hsize := hb.size
  have hkeep := fun (r : Nat) (_ : True) (h : r < V.heap.size) => hb.block r h
  have ZF4 : Hid (∀ s, x9.heap.size ≤ s → _) := Lib.hid (fun s h => ZF3.out s (Nat.le_trans hV.size (Nat.le_trans hsize h)))
  have ZS4 : Hid (∀ V, Later x9 V → (Below (w.heap.size + 1) W1) V) := Lib.hid (fun V' h => ZS3.out V' ((hV.of hb).trans h))
  refine hK.out _ _ (Below (w.heap.size + 1) W1) (Later x9) _ (fun r _ h => hkeep r trivial h) (fun _ h _ => h) (fun _ h => h) ZS4.out (fun V' h => ZF4.out _ h.size) (Later.refl _) (closed_later _) ?_
  clear hK K hV hsize hkeep hV0 hSV hb
  simp only [Act.put]
  try simp only [pa, List.set]
  refine walk_force (by kernel_rfl) (by kernel_rfl) (by kernel_rfl) (by kernel_rfl) (fun r10 x10 hV hr10 hB10 => ?_)
  have lt10 : r10 < x10.heap.size := (Array.getElem?_eq_some_iff.1 hr10).1
  have HL5 := Lib.hid (HL4.out.trans hV)
  have ZF5 : Hid (∀ s, x10.heap.size ≤ s → _ ∧ s ≠ r10) := Lib.hid (fun s h => ⟨ZF4.out s (Nat.le_trans hV.size h), Nat.ne_of_gt (Nat.lt_of_lt_of_le lt10 h)⟩)
  have ZS5 : Hid (∀ V, Later x10 V → (Below (w.heap.size + 1) W1) V) := Lib.hid (fun V' h => ZS4.out V' (hV.trans h))
  refine ⟨Below (w.heap.size + 1) W1, Later x10, Later.refl _, fun _ h => h, ZS5.out, fun V' h => ZF4.out _ (Nat.le_trans hV.size h.size), fun V' h => Nat.lt_of_lt_of_le lt10 h.size, closed_later _, ?_⟩
  try simp only [pa, List.set]
  have HT10 := Lib.hid hV
  clear hV
  refine walk_core 13 rfl (by kernel_rfl) (fun _ _ _ _ _ h => h) (fun V hV K hK => ?_)
  have hV0 := HL5.out.trans hV
  have hSV := ZS5.out V hV
  try simp only [List.getElem_toArray, List.getElem_cons_succ, List.getElem_cons_zero]
  rw [if_pos (by rfl)]
  refine wp_append_empty V (.tmp 13) (.tmp 15) 65 ?_ 32 i1 _ Try.underlying65 hi1 hy0 hy1 rfl ⟨r10, 0, none⟩ ?_ _ A3 ns.length c3 _ ?_ (R3.out.below hV0) O3.out (by unfold maxLen; omega) (by rw [hy2]; omega) ?_
  · rfl
  · rfl
  · rfl
  intro v13 x13 hf13
  obtain ⟨B3, d3, rfl, hq3⟩ := V_of_fresh (h1 := fun _ => rfl) hV0.size (by omega) hf13
  have hb := hf13.1
  have HQ3 := Lib.hid hq3
  clear hf13 hq3
  have HT13 := Lib.hid (hV.of hb)
  have HL6 := Lib.hid (hV0.of hb)
  have hsize := hb.size
  have hkeep := fun (r : Nat) (_ : True) (h : r < V.heap.size) => hb.block r h
  have ZF6 : Hid (∀ s, x13.heap.size ≤ s → _) := Lib.hid (fun s h => ZF5.out s (Nat.le_trans hV.size (Nat.le_trans hsize h)))
  have ZS6 : Hid (∀ V, Later x13 V → (Below (w.heap.size + 1) W1) V) := Lib.hid (fun V' h => ZS5.out V' ((hV.of hb).trans h))
  refine hK.out _ _ (Below (w.heap.size + 1) W1) (Later x13) _ (fun r _ h => hkeep r trivial h) (fun _ h _ => h) (fun _ h => h) ZS6.out (fun V' h => ZF6.out _ h.size) (Later.refl _) (closed_later _) ?_
  clear hK K hV hsize hkeep hV0 hSV hb
  simp only [Act.put]
  try simp only [pa, List.set]
  refine wt 14 17 ?_ (fun V hV => ?_) ?_
  rotate_left 1
  · (clear hV; go_simp; (try with_reducible rfl))
  try simp only [pa, List.set]
  refine walk_exit (fun V hV => ?_)
  have hV0 := HL6.out.trans hV
  have hSV := ZS6.out V hV
  try simp only [pa, List.set]
  have kz := HKZ.out.below hV0 (by have := HS1.out; omega)
  obtain ⟨z0, z1, z2, z3⟩ := cells4 kz
  have f0 := kz.frozen 0
  have f1 := kz.frozen 1
  have f2 := kz.frozen 2
  have f3 := kz.frozen 3
  have KZ := Lib.hid kz
  have hpn : PgN V W1.heap.size B1 d1 B2 d2 B3 d3 ⟨lf, ks, vs, ns⟩ :=
    ⟨Kd.V_below HQ1.out ((((HT6.out.trans HT9.out).trans HT10.out).trans HT13.out).trans hV), Kd.V_below HQ2.out ((HT10.out.trans HT13.out).trans hV), Kd.V_below HQ3.out hV⟩
  have HPN := Lib.hid hpn
  have HVV := Lib.hid hV0
  clear kz hpn hV hV0
  refine wpAnyJ_one (i := 15) (by kernel_rfl) rfl (fun K hK => ?_)
  simp only [List.getElem_toArray, List.getElem_cons_succ, List.getElem_cons_zero]
  go_simp
  obtain ⟨W2, hW2⟩ : ∃ W2, W2 = (((V.setCell ⟨w.heap.size + 1, 0, none⟩ (.bool lf)).setCell ⟨w.heap.size + 1, 1, none⟩ (.slice B1 ks.length d1)).setCell ⟨w.heap.size + 1, 2, none⟩ (.slice B2 vs.length d2)).setCell ⟨w.heap.size + 1, 3, none⟩ (.slice B3 ns.length d3) := ⟨_, rfl⟩
  have hs2 : Below (w.heap.size + 1) W1 W2 := by
    rw [hW2]
    exact (((((show Below _ _ _ from HVV.out).mono (show w.heap.size + 1 ≤ W1.heap.size by have := HS1.out; omega)).setCell (p := ⟨w.heap.size + 1, 0, none⟩) (Nat.le_refl _) _).setCell (p := ⟨w.heap.size + 1, 1, none⟩) (Nat.le_refl _) _).setCell (p := ⟨w.heap.size + 1, 2, none⟩) (Nat.le_refl _) _).setCell (p := ⟨w.heap.size + 1, 3, none⟩) (Nat.le_refl _) _
  have k2 : Blk W2 (w.heap.size + 1) 73 #[.bool lf, .slice B1 ks.length d1, .slice B2 vs.length d2, .slice B3 ns.length d3] := by rw [hW2]; exact set4 KZ.out
  have hp2 : PgR W2 B1 d1 B2 d2 B3 d3 ⟨lf, ks, vs, ns⟩ := by rw [hW2]; exact (HPN.out.far4 (by have := HS1.out; omega) _ _ _ _).pgr
  have hb2 : Below w.heap.size w W2 := HB1.out.trans (hs2.mono (by omega))
  refine hK.out _ _ (fun h _ => absurd rfl h) ?_
  clear hK K
  try simp only [pa, List.set]
  rw [← hW2]
  clear hW2 KZ HVV z0 z1 z2 z3 f0 f1 f2 f3 hs2
  refine wpAnyJ_done (by kernel_rfl) ?_ _
  have HB2 := Lib.hid hb2
  have HP2 := Lib.hid hp2
  have HK2 := Lib.hid k2
  clear hb2 hp2 k2
  go_wp2_with fail
  exact bodyPost_ret_by (results_c1 rfl _ _ (w.heap.size + 1) 73 _ (0, 0) _ rfl HK2.out Try.underlying73 rfl (by kernel_rfl)) rfl ⟨HB2.out, B1, d1, B2, d2, B3, d3, rfl, HP2.out⟩
end
end Go.Proofs.Ytlbikfamjogpnaa
end

/- page.part: the very slices that it answers. Conditions: the bounds lie in the rows. -/
section
namespace Go.Proofs.Ytlbikfamjogpnaa
open Go.RowKit Go.Proofs.YtlbikfamjogpnaaW.PrintWords Go.Proofs.Ytlbikfamjogpnaa.QPage
set_option linter.unusedVariables false
set_option linter.unusedSimpArgs false

/-- Where a cut begins. -/
def cutA (A : Option Addr) (i j : Nat) : Option Addr := if j = i then A else A.map (·.add (i * 1))

theorem cut_run {A : Option Addr} {n c i j : Nat} (h1 : i ≤ j) (h2 : j ≤ n) (hc : n ≤ c) : ∀ W : World, (Instr.slice 64 (.slice A n c) (some (.int .i64 (i : Int))) (some (.int .i64 (j : Int))) (some (.int .i64 (j : Int)))).run Try.prog W = .ok (.slice (cutA A i j) (j - i) (j - i)) W := by
  intro W
  obtain ⟨i0, hi0, hz0, hz1, hz2⟩ := info_parts cinfo_str
  have := cut_midc (P := Try.prog) 64 9 .i64 .i64 Try.underlying64 hi0 1 hz1 A n c (i : Int) (j : Int) (by omega) (by omega) (by omega) hc W
  simpa [cutA] using this

set_option maxRecDepth 100000 in
set_option maxHeartbeats 4000000 in
theorem part_exact {w : World} {A1 A2 : Option Addr} {n1 c1 n2 c2 : Nat} {lf : Bool} {v3 : Value} (i j : Nat) (h1 : i ≤ j) (h2 : j ≤ n1) (h3 : j ≤ n2) (hc1 : n1 ≤ c1) (hc2 : n2 ≤ c2) :
    Calls Try.prog 77 #[.agg #[.bool lf, .slice A1 n1 c1, .slice A2 n2 c2, v3], .int .i64 (i : Int), .int .i64 (j : Int)] w fun e w' =>
      e = .returned (.agg #[.bool true, .slice (cutA A1 i j) (j - i) (j - i), .slice (cutA A2 i j) (j - i) (j - i), .slice none 0 0]) ∧ Below w.heap.size w w' := by
  have r1 := cut_run (A := A1) h1 h2 hc1
  have r2 := cut_run (A := A2) h1 h3 hc2
  generalize cutA A1 i j = B1 at *
  generalize cutA A2 i j = B2 at *
  obtain ⟨W0, hW0⟩ : ∃ W0, W0 = w.alloc (.cells #[.bool lf, .slice A1 n1 c1, .slice A2 n2 c2, v3] 67) := ⟨_, rfl⟩
  generalize hk : j - i = k at *
  clear h1 h2 h3 hc1 hc2 hk hW0
  go_enter Try.func77, Try.ntmps77
  go_wp2_with fail
  go_region_held3 (fun w' => w'.cell? ⟨w.heap.size, 1, none⟩ = some (.slice A1 n1 c1) ∧ w'.cell? ⟨w.heap.size, 2, none⟩ = some (.slice A2 n2 c2)) (go_keep) (fail)
  go_wp2_with fail
  refine bodyPost_ret (v := .agg #[.bool true, .slice B1 k k, .slice B2 k k, .slice none 0 0]) (by simp [results, Try.results77, go_sem]) rfl ⟨rfl, ?_⟩
  exact ((Below.drew ((Below.refl _ _).alloc (Nat.le_refl _) _)).alloc (by simp) _)

theorem pgn_cut {w : World} {N : Nat} {A1 A2 A3 : Option Addr} {c1 c2 c3 : Nat} {lf : Bool} {ks vs : List ByteArray} {ns : List Int} (h : PgN w N A1 c1 A2 c2 A3 c3 ⟨lf, ks, vs, ns⟩) {i j : Nat} (h1 : i ≤ j) (h2 : j ≤ ks.length) (h3 : j ≤ vs.length) :
    PgN w N (cutA A1 i j) (j - i) (cutA A2 i j) (j - i) none 0 (partP ⟨lf, ks, vs, ns⟩ i j) :=
  ⟨Kd.V_mk (by simp [partP]; omega) (Kd.F_midc (k := Kd.string) (Kd.V_at h.k).2.2 h1 h2), Kd.V_mk (by simp [partP]; omega) (Kd.F_midc (k := Kd.string) (Kd.V_at h.v).2.2 h1 h3), Kd.V_nil _ _ _ _ _⟩
theorem len_cut (l : List ByteArray) {i j : Nat} (h : j ≤ l.length) : ((l.take j).drop i).length = j - i := by
  rw [List.length_drop, List.length_take]; omega
theorem part_at {w : World} {N : Nat} {A1 A2 A3 : Option Addr} {c1 c2 c3 : Nat} {lf : Bool} {ks vs : List ByteArray} {ns : List Int} (h : PgN w N A1 c1 A2 c2 A3 c3 ⟨lf, ks, vs, ns⟩) (hN : N ≤ w.heap.size) (i j : Nat) (h1 : i ≤ j) (h2 : j ≤ ks.length) (h3 : j ≤ vs.length) :
    Calls Try.prog 77 #[.agg #[.bool lf, .slice A1 ks.length c1, .slice A2 vs.length c2, .slice A3 ns.length c3], .int .i64 (i : Int), .int .i64 (j : Int)] w fun e w' => Below w.heap.size w w' ∧ ∃ v, e = .returned v ∧ PgVal w' N v (partP ⟨lf, ks, vs, ns⟩ i j) := by
  refine (part_exact i j h1 h2 h3 h.pgr.kc h.pgr.vc).mono ?_
  rintro e w' ⟨rfl, hb⟩
  refine ⟨hb, _, rfl, cutA A1 i j, j - i, cutA A2 i j, j - i, none, 0, ?_, (pgn_cut h h1 h2 h3).below hb⟩
  unfold pgv
  simp only [partP, List.length_nil]
  rw [len_cut ks h2, len_cut vs h3]
end Go.Proofs.Ytlbikfamjogpnaa
end

/- page.Put, walked: a leaf that has a key, in rows of its own. Conditions: the page reads in memory; few keys; they rise. -/
section
namespace Go.Proofs.Ytlbikfamjogpnaa
open Go.RowKit Go.Proofs.YtlbikfamjogpnaaW.PrintWords Go.Proofs.Ytlbikfamjogpnaa.QPage
set_option linter.unusedVariables false
set_option linter.unusedSimpArgs false

theorem R_only {w : World} {base : Nat} {ok : Nat → Prop} {v : Value} {l : List ByteArray} (h : Kd.R Kd.string 9 w base ok v l) : Kd.R Kd.string 9 w base (fun k => v.ownBlock = some k ∧ base ≤ k ∧ k < w.heap.size ∧ ok k) v l :=
  ⟨fun k hk => by
    have h2 := (Kd.R_bound h).1 k hk
    exact ⟨hk, h2.2.1, h2.2.2.1, h2.1⟩, h.2⟩

theorem below_set2 {B : Nat} {a b : World} (h : Below B a b) (p : Addr) (v : Value) : Below B (a.setCell p v) (b.setCell p v) :=
  ⟨h.os, h.tape, h.output, by simpa [World.setCell] using h.size, fun k hk => by
    simp only [World.setCell, Array.getElem?_modify]
    rw [h.block k hk]⟩
theorem below_set24 {B : Nat} {a b : World} (h : Below B a b) (g : Nat) (u0 u1 u2 u3 : Value) : Below B ((((a.setCell ⟨g, 0, none⟩ u0).setCell ⟨g, 1, none⟩ u1).setCell ⟨g, 2, none⟩ u2).setCell ⟨g, 3, none⟩ u3) ((((b.setCell ⟨g, 0, none⟩ u0).setCell ⟨g, 1, none⟩ u1).setCell ⟨g, 2, none⟩ u2).setCell ⟨g, 3, none⟩ u3) :=
  below_set2 (below_set2 (below_set2 (below_set2 h _ _) _ _) _ _) _ _
theorem blk_far4 {W : World} {g g' : Nat} {t : TypeId} {cs : Array Value} (h : Blk W g t cs) (hne : g ≠ g') (u0 u1 u2 u3 : Value) : Blk ((((W.setCell ⟨g', 0, none⟩ u0).setCell ⟨g', 1, none⟩ u1).setCell ⟨g', 2, none⟩ u2).setCell ⟨g', 3, none⟩ u3) g t cs :=
  (((h.far (p := ⟨g', 0, none⟩) hne _).far (p := ⟨g', 1, none⟩) hne _).far (p := ⟨g', 2, none⟩) hne _).far (p := ⟨g', 3, none⟩) hne _
theorem below_two {B : Nat} {a b c : World} (h : Below B a b) (k : Below B a c) (hs : b.heap.size ≤ c.heap.size) : Below B b c :=
  ⟨k.os.trans h.os.symm, k.tape.trans h.tape.symm, k.output.trans h.output.symm, hs, fun i hi => (k.block i hi).trans (h.block i hi).symm⟩
theorem R_far4 {α : Type} {d : Kd α} {e : Nat} {w : World} {base : Nat} {ok : Nat → Prop} {v : Value} {xs : List α} (h : Kd.R d e w base ok v xs) {g : Nat} (hg : g < base) (u0 u1 u2 u3 : Value) : Kd.R d e ((((w.setCell ⟨g, 0, none⟩ u0).setCell ⟨g, 1, none⟩ u1).setCell ⟨g, 2, none⟩ u2).setCell ⟨g, 3, none⟩ u3) base ok v xs := by
  have h' := Kd.R_mono (Kd.R_bound h) (ok' := fun k => ok k ∧ base ≤ k) (fun k hk => ⟨hk.1, hk.2.1⟩)
  have := Kd.R_far (Kd.R_far (Kd.R_far (Kd.R_far h' (p := ⟨g, 0, none⟩) (fun k hk => by have := hk.2; simp; omega) u0) (p := ⟨g, 1, none⟩) (fun k hk => by have := hk.2; simp; omega) u1) (p := ⟨g, 2, none⟩) (fun k hk => by have := hk.2; simp; omega) u2) (p := ⟨g, 3, none⟩) (fun k hk => by have := hk.2; simp; omega) u3
  exact Kd.R_mono this (fun k hk => hk.1)

theorem R_far1 {α : Type} {d : Kd α} {e : Nat} {w : World} {base : Nat} {ok : Nat → Prop} {v : Value} {xs : List α} (h : Kd.R d e w base ok v xs) {g i : Nat} (hg : g < base) (u : Value) : Kd.R d e (w.setCell ⟨g, i, none⟩ u) base ok v xs := by
  have h' := Kd.R_mono (Kd.R_bound h) (ok' := fun k => ok k ∧ base ≤ k) (fun k hk => ⟨hk.1, hk.2.1⟩)
  exact Kd.R_mono (Kd.R_far h' (p := ⟨g, i, none⟩) (fun k hk => by have := hk.2; simp; omega) u) (fun k hk => hk.1)

section
variable {w : World} {A1 A2 A3 : Option Addr} {c1 c2 c3 : Nat} {ks vs : List ByteArray} {ns : List Int}
set_option maxRecDepth 100000 in
set_option maxHeartbeats 4000000 in
theorem put_branch (key val : ByteArray) : Calls Try.prog 49 #[.agg #[.bool false, .slice A1 ks.length c1, .slice A2 vs.length c2, .slice A3 ns.length c3], .string key, .string val] w fun e w' => Below w.heap.size w w' ∧ e = .returned (.agg #[.bool false, .slice A1 ks.length c1, .slice A2 vs.length c2, .slice A3 ns.length c3]) := by
  go_enter Try.func49, Try.ntmps49
  go_wp2_with fail
  refine bodyPost_ret (v := .agg #[.bool false, .slice A1 ks.length c1, .slice A2 vs.length c2, .slice A3 ns.length c3]) (by simp [results, Try.results49, go_sem]) rfl ⟨?_, rfl⟩
  exact ((Below.refl _ _).alloc (Nat.le_refl _) _).alloc (by simp) _

set_option maxRecDepth 100000 in
set_option maxHeartbeats 8000000 in
theorem put_leaf (key val : ByteArray) (h : PgR w A1 c1 A2 c2 A3 c3 ⟨true, ks, vs, ns⟩) (hf : Few ⟨true, ks, vs, ns⟩) (hr : Rise ks) (hv : vs.length = ks.length) : Calls Try.prog 49 #[.agg #[.bool true, .slice A1 ks.length c1, .slice A2 vs.length c2, .slice A3 ns.length c3], .string key, .string val] w fun e w' =>
    Below w.heap.size w w' ∧ ∃ B1 d1 B2 d2 B3 d3, e = .returned (pgv B1 d1 B2 d2 B3 d3 (putP ⟨true, ks, vs, ns⟩ key val)) ∧ PgR w' B1 d1 B2 d2 B3 d3 (putP ⟨true, ks, vs, ns⟩ key val) := by
  have hk := hf.k
  have hvv := hf.v
  have hn := hf.n
  dsimp only at hk hvv hn
  obtain ⟨W1, hW1⟩ : ∃ W1, W1 = (w.alloc (.cells #[.bool true, .slice A1 ks.length c1, .slice A2 vs.length c2, .slice A3 ns.length c3] 67)).alloc (.cells #[.bool false, .slice none 0 0, .slice none 0 0, .slice none 0 0] 67) := ⟨_, rfl⟩
  have hb1 : Below w.heap.size w W1 := by rw [hW1]; exact ((Below.refl _ _).alloc (Nat.le_refl _) _).alloc (by simp) _
  have hs1 : W1.heap.size = w.heap.size + 2 := by rw [hW1]; simp
  have kp : Blk W1 w.heap.size 67 #[.bool true, .slice A1 ks.length c1, .slice A2 vs.length c2, .slice A3 ns.length c3] := by rw [hW1]; exact (Blk.new _ _ _).alloc _
  have kz : Blk W1 (w.heap.size + 1) 67 #[.bool false, .slice none 0 0, .slice none 0 0, .slice none 0 0] := by
    have := Blk.new (w.alloc (.cells #[.bool true, .slice A1 ks.length c1, .slice A2 vs.length c2, .slice A3 ns.length c3] 67)) 67 #[.bool false, .slice none 0 0, .slice none 0 0, .slice none 0 0]
    rw [← hW1] at this
    simpa using this
  have h1 := h.below hb1
  have CC := page_clone.calls true A1 c1 ks A2 c2 vs A3 c3 ns true ks vs ns W1 h1.k h1.kc h1.v h1.vc h1.n h1.nc (clone_f ⟨true, ks, vs, ns⟩ (by show ns.length < _; omega) (by show ks.length < _; omega) (by show vs.length < _; omega))
  have CC := Lib.hid CC
  have HW1 := Lib.hid hW1
  have HB1 := Lib.hid hb1
  have HKP := Lib.hid kp
  have HKZ := Lib.hid kz
  have HS1 := Lib.hid hs1
  have HF := Lib.hid hf
  have HR := Lib.hid hr
  have HV := Lib.hid hv
  have HK := Lib.hid hk
  obtain ⟨q0, q1, q2, q3⟩ := cells4 kp
  clear h h1 hf hr hv hk hvv hn hW1 hb1 kp kz hs1
  go_enter Try.func49, Try.ntmps49
  go_upto_region 1 with fail
  rw [← HW1.out]
  go_wp2_with fail
  refine CC.out.mono ?_
  rintro e w3 ⟨v1, v2, v3, rfl, r1, r2, r3, hb3⟩
  obtain ⟨B1, d1, rfl, -, -⟩ := Kd.R_reads r1
  obtain ⟨B2, d2, rfl, -, -⟩ := Kd.R_reads r2
  obtain ⟨B3, d3, rfl, -, -⟩ := Kd.R_reads r3
  have r1 := R_only r1
  have r2 := R_only r2
  have kp3 : Blk w3 w.heap.size 67 #[.bool true, .slice A1 ks.length c1, .slice A2 vs.length c2, .slice A3 ns.length c3] := HKP.out.below hb3 (by have := HS1.out; omega)
  have kz3 : Blk w3 (w.heap.size + 1) 67 #[.bool false, .slice none 0 0, .slice none 0 0, .slice none 0 0] := HKZ.out.below hb3 (by have := HS1.out; omega)
  obtain ⟨U1, hU1⟩ : ∃ U1, U1 = (((W1.setCell ⟨w.heap.size, 0, none⟩ (.bool true)).setCell ⟨w.heap.size, 1, none⟩ (.slice B1 ks.length d1)).setCell ⟨w.heap.size, 2, none⟩ (.slice B2 vs.length d2)).setCell ⟨w.heap.size, 3, none⟩ (.slice B3 ns.length d3) := ⟨_, rfl⟩
  obtain ⟨W4, hW4⟩ : ∃ W4, W4 = (((w3.setCell ⟨w.heap.size, 0, none⟩ (.bool true)).setCell ⟨w.heap.size, 1, none⟩ (.slice B1 ks.length d1)).setCell ⟨w.heap.size, 2, none⟩ (.slice B2 vs.length d2)).setCell ⟨w.heap.size, 3, none⟩ (.slice B3 ns.length d3) := ⟨_, rfl⟩
  have hu4 : Below W1.heap.size U1 W4 := by rw [hU1, hW4]; exact below_set24 hb3 _ _ _ _ _
  have hus : U1.heap.size = W1.heap.size := by rw [hU1]; simp [World.setCell]
  have kp4 : Blk W4 w.heap.size 67 #[.bool true, .slice B1 ks.length d1, .slice B2 vs.length d2, .slice B3 ns.length d3] := by rw [hW4]; exact set4 kp3
  have kz4 : Blk W4 (w.heap.size + 1) 67 #[.bool false, .slice none 0 0, .slice none 0 0, .slice none 0 0] := by rw [hW4]; exact blk_far4 kz3 (by omega) _ _ _ _
  have s1 := HS1.out
  have r14 := R_far4 r1 (g := w.heap.size) (by omega) (.bool true) (.slice B1 ks.length d1) (.slice B2 vs.length d2) (.slice B3 ns.length d3)
  have r24 := R_far4 r2 (g := w.heap.size) (by omega) (.bool true) (.slice B1 ks.length d1) (.slice B2 vs.length d2) (.slice B3 ns.length d3)
  have r34 := R_far4 r3 (g := w.heap.size) (by omega) (.bool true) (.slice B1 ks.length d1) (.slice B2 vs.length d2) (.slice B3 ns.length d3)
  rw [← hW4] at r14 r24 r34
  have hb4 : Below w.heap.size w W4 := by
    rw [hW4]
    exact ((((HB1.out.trans (hb3.mono HB1.out.size)).setCell (p := ⟨w.heap.size, 0, none⟩) (Nat.le_refl _) _).setCell (p := ⟨w.heap.size, 1, none⟩) (Nat.le_refl _) _).setCell (p := ⟨w.heap.size, 2, none⟩) (Nat.le_refl _) _).setCell (p := ⟨w.heap.size, 3, none⟩) (Nat.le_refl _) _
  have hs4 : w.heap.size + 2 ≤ W4.heap.size := by have := hu4.size; omega
  have hp4 : PgR W4 B1 d1 B2 d2 B3 d3 ⟨true, ks, vs, ns⟩ := by
    have k1 := Kd.R_reads' r14
    have k2 := Kd.R_reads' r24
    have k3 := Kd.R_reads' r34
    exact ⟨k1.2.2, k1.2.1, k2.2.2, k2.2.1, k3.2.2, k3.2.1⟩
  have CF := find_any key hp4 HF.out HR.out
  obtain ⟨z0, z1, z2, z3⟩ := cells4 kp3
  have f0 := kp3.frozen 0
  have f1 := kp3.frozen 1
  have f2 := kp3.frozen 2
  have f3 := kp3.frozen 3
  obtain ⟨y0, y1, y2, y3⟩ := cells4 kp4
  have CF := Lib.hid CF
  have HU1 := Lib.hid hU1
  have HU4 := Lib.hid hu4
  have HUS := Lib.hid hus
  have HW4 := Lib.hid hW4
  have HKP4 := Lib.hid kp4
  have HKZ4 := Lib.hid kz4
  have HR1 := Lib.hid r14
  have HR2 := Lib.hid r24
  have HR3 := Lib.hid r34
  have HB4 := Lib.hid hb4
  have HS4 := Lib.hid hs4
  clear hU1 hu4 hus hW4 kp3 kz3 kp4 kz4 r1 r2 r3 r14 r24 r34 hb4 hs4 hp4 hb3 s1 CC q0 q1 q2 q3
  go_upto_region 4 with fail
  rw [← HW4.out]
  go_wp2_with fail
  refine CF.out.mono ?_
  rintro e w5 ⟨rfl, hb5⟩
  have hr1 := Kd.R_below HR1.out hb5
  have hr2 := Kd.R_below HR2.out hb5
  have hr3 := Kd.R_below HR3.out hb5
  have kp5 := HKP4.out.below hb5 HKP4.out.lt
  have kz5 := HKZ4.out.below hb5 HKZ4.out.lt
  have hbw : Below w.heap.size w w5 := HB4.out.trans (hb5.mono HB4.out.size)
  have hu5 : Below W1.heap.size U1 w5 := HU4.out.trans (hb5.mono (by rw [← HUS.out]; exact HU4.out.size))
  have hs5 : w.heap.size + 2 ≤ w5.heap.size := Nat.le_trans HS4.out hb5.size
  have hle := findN_le ks key
  obtain ⟨f, hfE⟩ : ∃ f, f = findN ks key := ⟨_, rfl⟩
  have HFE := Lib.hid hfE
  dsimp only
  rw [← hfE] at hle ⊢
  clear hb5 CF z0 z1 z2 z3 f0 f1 f2 f3 y0 y1 y2 y3 HR1 HR2 HR3 HKP4 HKZ4 HB4 HU4 HS4 HW4 hfE
  cases hT : thereB ks key with
  | true =>
    have hlt : f < ks.length := by
      rw [HFE.out]
      unfold thereB at hT
      simp only [Bool.and_eq_true, decide_eq_true_eq] at hT
      exact hT.1
    have hvl := HV.out
    rcases R_str hr2 with ⟨_, hn⟩ | ⟨g, cap, cur, hv2, hg1, hg2, hblk, hcl, hcm, hcs, hct⟩
    · rw [hn] at hvl; simp at hvl; omega
    · injection hv2 with e1 e2 e3
      subst e1 e3
      have hcell : w5.cell? ⟨g, f, none⟩ = some (.string (vs.getD f ByteArray.empty)) := by
        have := blk_reads hblk (xs := vs.map Value.string) (by rw [List.length_map]; exact hct) f (.string (vs.getD f ByteArray.empty)) (by
          rw [List.getElem?_map, List.getD_eq_getElem?_getD, List.getElem?_eq_getElem (by omega)]; rfl)
        rw [Nat.zero_add] at this
        exact this
      have hfz : w5.frozen? ⟨g, f, none⟩ = false := hblk.frozen f
      obtain ⟨W6, hW6⟩ : ∃ W6, W6 = w5.setCell ⟨g, f, none⟩ (.string val) := ⟨_, rfl⟩
      have n1 : g ≠ w.heap.size := by have := HS1.out; omega
      have n2 : g ≠ w.heap.size + 1 := by have := HS1.out; omega
      have kp6 : Blk W6 w.heap.size 67 #[.bool true, .slice B1 ks.length d1, .slice (some ⟨g, 0, none⟩) vs.length d2, .slice B3 ns.length d3] := by rw [hW6]; exact kp5.far (p := ⟨g, f, none⟩) (Ne.symm n1) _
      have kz6 : Blk W6 (w.heap.size + 1) 67 #[.bool false, .slice none 0 0, .slice none 0 0, .slice none 0 0] := by rw [hW6]; exact kz5.far (p := ⟨g, f, none⟩) (Ne.symm n2) _
      have r16 : Kd.R Kd.string 9 W6 W1.heap.size (fun _ => True) (.slice B1 ks.length d1) ks := by
        rw [hW6]
        exact Kd.R_mono (Kd.R_far hr1 (p := ⟨g, f, none⟩) (fun k hk e => by
          have h2 := hk.2.2.2
          subst e
          exact h2 rfl) (.string val)) (fun _ _ => trivial)
      have r26 : Kd.R Kd.string 9 W6 W1.heap.size (fun _ => True) (.slice (some ⟨g, 0, none⟩) vs.length d2) (vs.set f val) := by
        have := (Kd.R_put (enc := Value.string) (h1 := fun _ => rfl) hr2 (f : Int) val).1
        rw [Int.toNat_natCast] at this
        rw [hW6]
        exact Kd.R_mono this (fun _ _ => trivial)
      have r36 : Kd.R (Kd.int .u64) 32 W6 W1.heap.size (fun _ => True) (.slice B3 ns.length d3) ns := by
        rw [hW6]
        exact Kd.R_mono (Kd.R_set hr3 hblk (by intro q hq; simp [Kd.int, Kd.scalar] at hq; subst hq; decide) f (.string val)) (fun _ _ => trivial)
      have hbw6 : Below w.heap.size w W6 := by rw [hW6]; exact hbw.setCell (p := ⟨g, f, none⟩) (by have := HS1.out; simp; omega) _
      obtain ⟨x0, x1, x2, x3⟩ := cells4 kp5
      obtain ⟨y0, y1, y2, y3⟩ := cells4 kp6
      obtain ⟨z0, z1, z2, z3⟩ := cells4 kz6
      have zf0 := kz6.frozen 0
      have zf1 := kz6.frozen 1
      have zf2 := kz6.frozen 2
      have zf3 := kz6.frozen 3
      have i1 : (0 : Int) ≤ (f : Int) := by omega
      have i2 : (f : Int) < (vs.length : Int) := by omega
      have i3 : f < vs.length := by omega
      have HW6 := Lib.hid hW6
      have HR16 := Lib.hid r16
      have HR26 := Lib.hid r26
      have HR36 := Lib.hid r36
      have HBW := Lib.hid hbw6
      have HKZ6 := Lib.hid kz6
      have HT := Lib.hid hT
      clear hr1 hr2 hr3 kp5 kz5 hbw hu5 hs5 hle hT hvl hg1 hg2 hblk hcl hcm hcs hct n1 n2 kp6 kz6 r16 r26 r36 hbw6 hW6 hlt
      go_upto_region 7 with fail
      rw [← HW6.out]
      go_wp2_with fail
      obtain ⟨W7, hW7⟩ : ∃ W7, W7 = (((W6.setCell ⟨w.heap.size + 1, 0, none⟩ (.bool true)).setCell ⟨w.heap.size + 1, 1, none⟩ (.slice B1 ks.length d1)).setCell ⟨w.heap.size + 1, 2, none⟩ (.slice (some ⟨g, 0, none⟩) vs.length d2)).setCell ⟨w.heap.size + 1, 3, none⟩ (.slice B3 ns.length d3) := ⟨_, rfl⟩
      rw [← hW7]
      have s1 := HS1.out
      have k7 : Blk W7 (w.heap.size + 1) 67 #[.bool true, .slice B1 ks.length d1, .slice (some ⟨g, 0, none⟩) vs.length d2, .slice B3 ns.length d3] := by rw [hW7]; exact set4 HKZ6.out
      have hb7 : Below w.heap.size w W7 := by
        rw [hW7]
        exact (((HBW.out.setCell (p := ⟨w.heap.size + 1, 0, none⟩) (by simp) _).setCell (p := ⟨w.heap.size + 1, 1, none⟩) (by simp) _).setCell (p := ⟨w.heap.size + 1, 2, none⟩) (by simp) _).setCell (p := ⟨w.heap.size + 1, 3, none⟩) (by simp) _
      have t1 := R_far4 HR16.out (g := w.heap.size + 1) (by omega) (.bool true) (.slice B1 ks.length d1) (.slice (some ⟨g, 0, none⟩) vs.length d2) (.slice B3 ns.length d3)
      have t2 := R_far4 HR26.out (g := w.heap.size + 1) (by omega) (.bool true) (.slice B1 ks.length d1) (.slice (some ⟨g, 0, none⟩) vs.length d2) (.slice B3 ns.length d3)
      have t3 := R_far4 HR36.out (g := w.heap.size + 1) (by omega) (.bool true) (.slice B1 ks.length d1) (.slice (some ⟨g, 0, none⟩) vs.length d2) (.slice B3 ns.length d3)
      rw [← hW7] at t1 t2 t3
      have hput : putP ⟨true, ks, vs, ns⟩ key val = ⟨true, ks, vs.set f val, ns⟩ := by
        unfold putP
        dsimp only
        rw [if_pos rfl, if_pos HT.out, HFE.out]
      rw [hput]
      obtain ⟨E1, e1, E2, e2, E3, e3, hE, hp⟩ := pgr_of_R (p := ⟨true, ks, vs.set f val, ns⟩) t1 t2 t3
      exact bodyPost_ret_by (results_c1 rfl _ _ (w.heap.size + 1) 67 _ (0, 0) _ rfl k7 Try.underlying67 rfl (by kernel_rfl)) rfl ⟨hb7, E1, e1, E2, e2, E3, e3, by rw [← hE], hp⟩
  | false =>
    have hus := HUS.out
    have s1 := HS1.out
    have f1 := ins_f ks key hle HK.out
    have f2 := ins_f vs val (i := f) (by have := HV.out; omega) (by have := HV.out; have := HK.out; omega)
    obtain ⟨L1, hL1⟩ : ∃ L, L = ks.take f ++ [key] ++ ks.drop f := ⟨_, rfl⟩
    obtain ⟨L2, hL2⟩ : ∃ L, L = vs.take f ++ [val] ++ vs.drop f := ⟨_, rfl⟩
    rw [← hL1] at f1
    rw [← hL2] at f2
    have HL1' := Lib.hid hL1
    have HL2' := Lib.hid hL2
    clear hL1 hL2
    have SF : Hid (∀ V, Below (w.heap.size + 2) w5 V → V.cell? ⟨w.heap.size, 0, none⟩ = some (.bool true) ∧ V.cell? ⟨w.heap.size, 1, none⟩ = some (.slice B1 ks.length d1) ∧ V.cell? ⟨w.heap.size, 2, none⟩ = some (.slice B2 vs.length d2) ∧ V.cell? ⟨w.heap.size, 3, none⟩ = some (.slice B3 ns.length d3)) := Lib.hid fun V hV => cells4 (kp5.below hV (by omega))
    have HR1 := Lib.hid (R_only hr1)
    have HR2 := Lib.hid (R_only hr2)
    have HR3 := Lib.hid (Kd.R_mono (Kd.R_bound hr3) (ok' := fun k => W1.heap.size ≤ k ∧ k < w5.heap.size ∧ ∃ cells, w5.heap[k]? = some (.cells cells 32 (0, 0))) (fun k hk => ⟨hk.2.1, hk.2.2.1, by
      obtain ⟨q, hq, cells, hc⟩ := hk.2.2.2
      simp [Kd.int, Kd.scalar] at hq
      subst hq
      exact ⟨cells, hc⟩⟩))
    have HKP := Lib.hid kp5
    have HKZ := Lib.hid kz5
    have HBW := Lib.hid hbw
    have HU5 := Lib.hid hu5
    have HS5 := Lib.hid hs5
    have HT := Lib.hid hT
    have HI1 := Lib.hid f1
    have HI2 := Lib.hid f2
    have D1 : Hid (∀ k, (Value.slice B1 ks.length d1).ownBlock = some k → ∃ cur, Blk w5 k 9 cur) := Lib.hid fun k hk => by
      rcases R_str hr1 with ⟨h, _⟩ | ⟨g, cap, cur, h, _, _, hb, _⟩
      · rw [h] at hk; simp [Value.ownBlock] at hk
      · rw [h] at hk
        have e : g = k := by simpa [Value.ownBlock] using hk
        subst e
        exact ⟨cur, hb⟩
    have D2 : Hid (∀ k, (Value.slice B2 vs.length d2).ownBlock = some k → ∃ cur, Blk w5 k 9 cur) := Lib.hid fun k hk => by
      rcases R_str hr2 with ⟨h, _⟩ | ⟨g, cap, cur, h, _, _, hb, _⟩
      · rw [h] at hk; simp [Value.ownBlock] at hk
      · rw [h] at hk
        have e : g = k := by simpa [Value.ownBlock] using hk
        subst e
        exact ⟨cur, hb⟩
    clear hr1 hr2 hr3 kp5 kz5 hbw hu5 hT hus f1 f2 hle s1
    go_upto_region 8 with fail
    have HL0 := Lib.hid (Later.refl w5)
    have ZF0 : Hid (∀ s, w5.heap.size ≤ s → w5.heap.size ≤ s) := Lib.hid (fun _ h => h)
    have ZS0 : Hid (∀ V, Later w5 V → (Below (w.heap.size + 2) w5) V) := Lib.hid (fun V' h => (show Below _ _ _ from h).mono (show w.heap.size + 2 ≤ w5.heap.size by first | omega | (simp; done) | (simp; omega)))
    refine walk_start 13 (S := Below (w.heap.size + 2) w5) (T := Later w5) (by kernel_rfl) (fun r => w5.heap.size ≤ r) (fun _ h => h.size) ZS0.out (closed_later _) (Later.refl _).drew ?_
    refine wt 0 28 ?_ (fun V hV => ?_) ?_
    rotate_left 1
    · (clear hV; go_simp; (try with_reducible rfl))
    try simp only [pa, List.set]
    refine wt 1 29 ?_ (fun V hV => ?_) ?_
    rotate_left 1
    · (obtain ⟨q0, q1, q2, q3⟩ := SF.out V hV; clear hV; go_simp; (try with_reducible rfl))
    try simp only [pa, List.set]
    refine wt 2 30 ?_ (fun V hV => ?_) ?_
    rotate_left 1
    · (clear hV; go_simp; (try with_reducible rfl))
    try simp only [pa, List.set]
    refine wt 3 31 ?_ (fun V hV => ?_) ?_
    rotate_left 1
    · (clear hV; go_simp; (try with_reducible rfl))
    try simp only [pa, List.set]
    refine wt 6 34 ?_ (fun V hV => ?_) ?_
    rotate_left 1
    · (clear hV; go_simp; (try with_reducible rfl))
    try simp only [pa, List.set]
    refine wt 7 35 ?_ (fun V hV => ?_) ?_
    rotate_left 1
    · (obtain ⟨q0, q1, q2, q3⟩ := SF.out V hV; clear hV; go_simp; (try with_reducible rfl))
    try simp only [pa, List.set]
    refine wt 8 36 ?_ (fun V hV => ?_) ?_
    rotate_left 1
    · (clear hV; go_simp; (try with_reducible rfl))
    try simp only [pa, List.set]
    refine wt 9 37 ?_ (fun V hV => ?_) ?_
    rotate_left 1
    · (clear hV; go_simp; (try with_reducible rfl))
    try simp only [pa, List.set]
    refine walk_pend ⟨10, 38, (.cells #[.string val] 9), fun r => .slice (some ⟨r, 0, none⟩) 1 1⟩ ⟨_, rfl, rfl, rfl, fun W => ?_⟩ ?_
    · (go_simp; (try with_reducible rfl))
    refine walk_pend ⟨4, 32, (.cells #[.string key] 9), fun r => .slice (some ⟨r, 0, none⟩) 1 1⟩ ⟨_, rfl, rfl, rfl, fun W => ?_⟩ ?_
    · (go_simp; (try with_reducible rfl))
    refine walk_force (by kernel_rfl) (by kernel_rfl) (by kernel_rfl) (by kernel_rfl) (fun r4 x4 hV hr4 hB4 => ?_)
    have lt4 : r4 < x4.heap.size := (Array.getElem?_eq_some_iff.1 hr4).1
    have HL1 := Lib.hid (HL0.out.trans hV)
    have ZF1 : Hid (∀ s, x4.heap.size ≤ s → _ ∧ s ≠ r4) := Lib.hid (fun s h => ⟨ZF0.out s (Nat.le_trans hV.size h), Nat.ne_of_gt (Nat.lt_of_lt_of_le lt4 h)⟩)
    have ZS1 : Hid (∀ V, Later x4 V → (Below (w.heap.size + 2) w5) V) := Lib.hid (fun V' h => ZS0.out V' (hV.trans h))
    refine ⟨Below (w.heap.size + 2) w5, Later x4, Later.refl _, fun _ h => h, ZS1.out, fun V' h => ZF0.out _ (Nat.le_trans hV.size h.size), fun V' h => Nat.lt_of_lt_of_le lt4 h.size, closed_later _, ?_⟩
    try simp only [pa, List.set]
    have HT4 := Lib.hid hV
    clear hV
    refine walk_core 5 rfl (by kernel_rfl) (fun _ _ _ _ _ h => h) (fun V hV K hK => ?_)
    have hV0 := HL1.out.trans hV
    have hSV := ZS1.out V hV
    go_simp
    go_at_call 87
    have hVu : Below U1.heap.size U1 V := by rw [HUS.out]; exact HU5.out.trans ((show Below _ _ _ from hV0).mono (by have := HU5.out.size; rw [HUS.out] at this; exact this))
    have k4 : Blk V r4 9 #[.string key] := Blk.below (show Blk x4 r4 _ _ from hr4) hV lt4
    have hr4b : w5.heap.size ≤ r4 := hB4
    have hz5 : U1.heap.size ≤ w5.heap.size := by have := HU5.out.size; exact this
    have hi0 := Kd.R_below HR1.out hV0
    rw [← HUS.out] at hi0
    have hi2 : Kd.R Kd.string 9 V U1.heap.size (fun k => k = r4) (.slice (some ⟨r4, 0, none⟩) [key].length 1) [key] := str_R rfl (by omega) k4 (Nat.le_refl _) (by decide) rfl rfl
    refine (slices_Insert_string_string.calls _ _ ks (f : Int) _ _ [key] _ U1 V hVu hi0 (fun k h1 h2 => by have := h1.2.2.1; omega) hi2 (fun k h2 h1 => by have := h1.2.2.1; omega) HI1.out).mono ?_
    rintro e x5 ⟨v5, rfl, h5, hb5, hk5⟩
    obtain ⟨E1, e1, rfl, -, -⟩ := Kd.R_reads h5
    have hsize := hk5.1
    have hkeep := fun (r : Nat) (hF : w5.heap.size ≤ r ∧ r ≠ r4) (hl : r < V.heap.size) => hk5.2 r hl (fun h => by
      rcases h with h | h
      · have := h.2.2.1; omega
      · exact hF.2 h)
    have hS := fun V' (h : Later x5 V') => (show Below (w.heap.size + 2) w5 V from (show Below _ _ _ from hV0).mono hs5).trans (((below_two hVu hb5 hsize).mono (by rw [HUS.out, HS1.out]; exact Nat.le_refl _)).trans ((show Below _ _ _ from h).mono (Nat.le_trans hs5 (Nat.le_trans (show Below _ _ _ from hV0).size hsize))))
    have hbd := (Kd.R_bound h5).1
    have hold := fun (r : Nat) (hF : w5.heap.size ≤ r ∧ r ≠ r4) (hl : r < V.heap.size) => (⟨hF, fun e => by
      have := h5.1 r e
      rcases this with (h | h) | h
      · have := h.2.2.1; omega
      · exact hF.2 h
      · omega⟩ : (w5.heap.size ≤ r ∧ r ≠ r4) ∧ (Value.slice E1 L1.length e1).ownBlock ≠ some r)
    have hnew := fun (s : Nat) (h : x5.heap.size ≤ s) (hF : w5.heap.size ≤ s ∧ s ≠ r4) => (⟨hF, fun e => by
      have := (hbd s e).2.2.1
      omega⟩ : (w5.heap.size ≤ s ∧ s ≠ r4) ∧ (Value.slice E1 L1.length e1).ownBlock ≠ some s)
    have H5 := Lib.hid (R_only (Kd.R_mono h5 (ok' := fun k => (Value.slice B1 ks.length d1).ownBlock = some k ∨ w5.heap.size ≤ k) (fun k hk => by
      rcases hk with (h | h) | h
      · exact .inl h.1
      · right; omega
      · right; have := (show Below _ _ _ from hV0).size; omega)))
    have HR25 := Lib.hid (Kd.R_kept (Kd.R_below HR2.out hV0) hk5 (fun k hk h => by
      rcases h with h | h
      · exact hk.2.2.2.2.2.2 h.1.symm
      · have := hk.2.2.1; omega))
    have HR35 := Lib.hid (Kd.R_kept (Kd.R_below HR3.out hV0) hk5 (fun k hk h => by
      rcases h with h | h
      · obtain ⟨cur, hc⟩ := D1.out k h.1
        obtain ⟨cells, hc'⟩ := hk.2.2
        have := hc.symm.trans hc'
        simp at this
      · have := hk.2.1; omega))
    have HU55 := Lib.hid hb5
    have HS55 := Lib.hid (Nat.le_trans (show Below _ _ _ from hV0).size hsize)
    clear hVu k4 hz5 hi0 hi2 h5 hb5 hk5 hbd
    have ZF2 : Hid (∀ s, x5.heap.size ≤ s → (fun s => (w5.heap.size ≤ s ∧ s ≠ r4) ∧ (Value.slice E1 L1.length e1).ownBlock ≠ some s) s) := Lib.hid (fun s h => hnew s h (ZF1.out s (Nat.le_trans hV.size (Nat.le_trans hsize h))))
    have ZS2 : Hid (∀ V, Later x5 V → (Below (w.heap.size + 2) w5) V) := Lib.hid hS
    refine hK.out _ _ (Below (w.heap.size + 2) w5) (Later x5) (fun s => (w5.heap.size ≤ s ∧ s ≠ r4) ∧ (Value.slice E1 L1.length e1).ownBlock ≠ some s) hkeep hold (fun _ h => h) ZS2.out (fun V' h => ZF2.out _ h.size) (Later.refl _) (closed_later _) ?_
    clear hK K hV hsize hkeep hV0 hSV hS hnew hold
    try simp only [pa, List.set]
    refine wt 12 40 ?_ (fun V hV => ?_) ?_
    rotate_left 1
    · (clear hV; go_simp; (try with_reducible rfl))
    try simp only [pa, List.set]
    refine walk_force (by kernel_rfl) (by kernel_rfl) (by kernel_rfl) (by kernel_rfl) (fun r10 x10 hV hr10 hB10 => ?_)
    have lt10 : r10 < x10.heap.size := (Array.getElem?_eq_some_iff.1 hr10).1
    have ZF3 : Hid (∀ s, x10.heap.size ≤ s → _ ∧ s ≠ r10) := Lib.hid (fun s h => ⟨ZF2.out s (Nat.le_trans hV.size h), Nat.ne_of_gt (Nat.lt_of_lt_of_le lt10 h)⟩)
    have ZS3 : Hid (∀ V, Later x10 V → (Below (w.heap.size + 2) w5) V) := Lib.hid (fun V' h => ZS2.out V' (hV.trans h))
    refine ⟨Below (w.heap.size + 2) w5, Later x10, Later.refl _, fun _ h => h, ZS3.out, fun V' h => ZF2.out _ (Nat.le_trans hV.size h.size), fun V' h => Nat.lt_of_lt_of_le lt10 h.size, closed_later _, ?_⟩
    try simp only [pa, List.set]
    have HT10 := Lib.hid hV
    clear hV
    refine walk_core 11 rfl (by kernel_rfl) (fun _ _ _ _ _ h => h) (fun V hV K hK => ?_)
    have hSV := ZS3.out V hV
    go_simp
    go_at_call 87
    have h5V : Below x5.heap.size x5 V := HT10.out.trans hV
    have hVu : Below U1.heap.size U1 V := HU55.out.trans (h5V.mono HU55.out.size)
    have k10 : Blk V r10 9 #[.string val] := Blk.below (show Blk x10 r10 _ _ from hr10) hV lt10
    have hr10b : w5.heap.size ≤ r10 := hB10.1.1
    have hz5 : U1.heap.size ≤ w5.heap.size := HU5.out.size
    have hi0 := Kd.R_below HR25.out h5V
    rw [← HUS.out] at hi0
    have hi2 : Kd.R Kd.string 9 V U1.heap.size (fun k => k = r10) (.slice (some ⟨r10, 0, none⟩) [val].length 1) [val] := str_R rfl (by omega) k10 (Nat.le_refl _) (by decide) rfl rfl
    refine (slices_Insert_string_string.calls _ _ vs (f : Int) _ _ [val] _ U1 V hVu hi0 (fun k h1 h2 => by have := h1.2.2.1; omega) hi2 (fun k h2 h1 => by have := h1.2.2.1; omega) HI2.out).mono ?_
    rintro e x11 ⟨v11, rfl, h11, hb11, hk11⟩
    obtain ⟨E2, e2, rfl, -, -⟩ := Kd.R_reads h11
    have hsize := hk11.1
    have hkeep := fun (r : Nat) (hF : ((w5.heap.size ≤ r ∧ r ≠ r4) ∧ (Value.slice E1 L1.length e1).ownBlock ≠ some r) ∧ r ≠ r10) (hl : r < V.heap.size) => hk11.2 r hl (fun h => by
      rcases h with h | h
      · have := h.2.2.1; have := hF.1.1.1; omega
      · exact hF.2 h)
    have hsz : w.heap.size + 2 ≤ x11.heap.size := Nat.le_trans hs5 (Nat.le_trans HS55.out (Nat.le_trans h5V.size hsize))
    have hS := fun V' (h : Later x11 V') => (show Below (w.heap.size + 2) w5 V from hSV).trans (((below_two hVu hb11 hsize).mono (by rw [HUS.out, HS1.out]; exact Nat.le_refl _)).trans ((show Below _ _ _ from h).mono hsz))
    have H5b := Lib.hid (Kd.R_kept (Kd.R_below H5.out h5V) hk11 (fun k hk h => by
      rcases h with h | h
      · rcases hk.2.2.2 with h' | h'
        · exact h.2.2.2.2.2.2 h'.symm
        · have := h.2.2.1; omega
      · subst h
        exact hB10.2 hk.1))
    have H11 := Lib.hid h11
    have HR3b := Lib.hid (Kd.R_kept (Kd.R_below HR35.out h5V) hk11 (fun k hk h => by
      rcases h with h | h
      · obtain ⟨cur, hc⟩ := D2.out k h.1
        obtain ⟨cells, hc'⟩ := hk.2.2
        have := hc.symm.trans hc'
        simp at this
      · have := hk.2.1; omega))
    have HSZ := Lib.hid hsz
    clear hVu k10 hz5 hi0 hi2 h11 hb11 hk11 h5V hsz
    have ZF4 : Hid (∀ s, x11.heap.size ≤ s → _) := Lib.hid (fun s h => ZF3.out s (Nat.le_trans hV.size (Nat.le_trans hsize h)))
    have ZS4 : Hid (∀ V, Later x11 V → (Below (w.heap.size + 2) w5) V) := Lib.hid hS
    refine hK.out _ _ (Below (w.heap.size + 2) w5) (Later x11) _ hkeep (fun _ h _ => h) (fun _ h => h) ZS4.out (fun V' h => ZF4.out _ h.size) (Later.refl _) (closed_later _) ?_
    clear hK K hV hsize hkeep hSV hS
    try simp only [pa, List.set]
    refine walk_exit (fun V hV => ?_)
    have hSV := ZS4.out V hV
    try simp only [pa, List.set]
    have kp := HKP.out.below hSV (by omega)
    have kz := HKZ.out.below hSV (by omega)
    have q5 := Kd.R_below H5b.out hV
    have q11 := Kd.R_below H11.out hV
    have q3 := Kd.R_below HR3b.out hV
    obtain ⟨z0, z1, z2, z3⟩ := cells4 kp
    have f0 := kp.frozen 0
    have f1 := kp.frozen 1
    have f2 := kp.frozen 2
    have f3 := kp.frozen 3
    have KP := Lib.hid kp
    have KZ := Lib.hid kz
    have Q5 := Lib.hid q5
    have Q11 := Lib.hid q11
    have Q3 := Lib.hid q3
    have HVV := Lib.hid hSV
    clear kp kz q5 q11 q3 hSV hV
    refine wpAnyJ_one (i := 13) (by kernel_rfl) rfl (fun K hK => ?_)
    simp only [List.getElem_toArray, List.getElem_cons_succ, List.getElem_cons_zero]
    go_simp
    refine hK.out _ _ (fun h _ => absurd rfl h) ?_
    clear hK K
    try simp only [pa, List.set]
    obtain ⟨W8, hW8⟩ : ∃ W8, W8 = V.setCell ⟨w.heap.size, 1, none⟩ (.slice E1 L1.length e1) := ⟨_, rfl⟩
    rw [← hW8]
    have kp8 : Blk W8 w.heap.size 67 #[.bool true, .slice E1 L1.length e1, .slice B2 vs.length d2, .slice B3 ns.length d3] := by rw [hW8]; exact KP.out.set_ 1 _
    obtain ⟨x0, x1, x2, x3⟩ := cells4 kp8
    have f0 := kp8.frozen 0
    have f1 := kp8.frozen 1
    have f2 := kp8.frozen 2
    have f3 := kp8.frozen 3
    have KP8 := Lib.hid kp8
    have HW8 := Lib.hid hW8
    clear kp8 hW8 z0 z1 z2 z3
    refine wpAnyJ_pure (i := 14) (d := some 41) (v := ?_) (by kernel_rfl) rfl rfl (Or.inl ⟨by rfl, ?_⟩) (fun _ h => absurd ((show _ = true by kernel_rfl).symm.trans h) (by decide)) ?_
    rotate_left 1
    · (intro V; go_simp; (try with_reducible rfl))
    try simp only [pa, List.set]
    refine wpAnyJ_one (i := 15) (by kernel_rfl) rfl (fun K hK => ?_)
    simp only [List.getElem_toArray, List.getElem_cons_succ, List.getElem_cons_zero]
    go_simp
    refine hK.out _ _ (fun _ h => absurd ((show _ = true by kernel_rfl).symm.trans h) (by decide)) ?_
    clear hK K
    try simp only [pa, List.set]
    refine wpAnyJ_done (by kernel_rfl) ?_ _
    obtain ⟨W9, hW9⟩ : ∃ W9, W9 = W8.setCell ⟨w.heap.size, 2, none⟩ (.slice E2 L2.length e2) := ⟨_, rfl⟩
    rw [← hW9]
    have kp9 : Blk W9 w.heap.size 67 #[.bool true, .slice E1 L1.length e1, .slice E2 L2.length e2, .slice B3 ns.length d3] := by rw [hW9]; exact KP8.out.set_ 2 _
    have kz9 : Blk W9 (w.heap.size + 1) 67 #[.bool false, .slice none 0 0, .slice none 0 0, .slice none 0 0] := by rw [hW9, HW8.out]; exact (KZ.out.far (p := ⟨w.heap.size, 1, none⟩) (by simp) _).far (p := ⟨w.heap.size, 2, none⟩) (by simp) _
    have hbw9 : Below w.heap.size w W9 := by
      rw [hW9, HW8.out]
      exact ((HBW.out.trans ((show Below (w.heap.size + 2) w5 V from HVV.out).mono (by omega))).setCell (p := ⟨w.heap.size, 1, none⟩) (Nat.le_refl _) _).setCell (p := ⟨w.heap.size, 2, none⟩) (Nat.le_refl _) _
    obtain ⟨x0, x1, x2, x3⟩ := cells4 kp9
    obtain ⟨z0, z1, z2, z3⟩ := cells4 kz9
    have zf0 := kz9.frozen 0
    have zf1 := kz9.frozen 1
    have zf2 := kz9.frozen 2
    have zf3 := kz9.frozen 3
    have HW9 := Lib.hid hW9
    have KZ9 := Lib.hid kz9
    have HBW9 := Lib.hid hbw9
    clear kp9 kz9 hbw9 hW9 f0 f1 f2 f3
    go_wp2_with fail
    obtain ⟨W7, hW7⟩ : ∃ W7, W7 = (((W9.setCell ⟨w.heap.size + 1, 0, none⟩ (.bool true)).setCell ⟨w.heap.size + 1, 1, none⟩ (.slice E1 L1.length e1)).setCell ⟨w.heap.size + 1, 2, none⟩ (.slice E2 L2.length e2)).setCell ⟨w.heap.size + 1, 3, none⟩ (.slice B3 ns.length d3) := ⟨_, rfl⟩
    rw [← hW7]
    have s1 := HS1.out
    have us := HUS.out
    have k7 : Blk W7 (w.heap.size + 1) 67 #[.bool true, .slice E1 L1.length e1, .slice E2 L2.length e2, .slice B3 ns.length d3] := by rw [hW7]; exact set4 KZ9.out
    have hb7 : Below w.heap.size w W7 := by
      rw [hW7]
      exact (((HBW9.out.setCell (p := ⟨w.heap.size + 1, 0, none⟩) (by simp) _).setCell (p := ⟨w.heap.size + 1, 1, none⟩) (by simp) _).setCell (p := ⟨w.heap.size + 1, 2, none⟩) (by simp) _).setCell (p := ⟨w.heap.size + 1, 3, none⟩) (by simp) _
    have t1 := R_far4 (R_far1 (R_far1 Q5.out (g := w.heap.size) (i := 1) (by omega) (.slice E1 L1.length e1)) (g := w.heap.size) (i := 2) (by omega) (.slice E2 L2.length e2)) (g := w.heap.size + 1) (by omega) (.bool true) (.slice E1 L1.length e1) (.slice E2 L2.length e2) (.slice B3 ns.length d3)
    have t2 := R_far4 (R_far1 (R_far1 Q11.out (g := w.heap.size) (i := 1) (by omega) (.slice E1 L1.length e1)) (g := w.heap.size) (i := 2) (by omega) (.slice E2 L2.length e2)) (g := w.heap.size + 1) (by omega) (.bool true) (.slice E1 L1.length e1) (.slice E2 L2.length e2) (.slice B3 ns.length d3)
    have t3 := R_far4 (R_far1 (R_far1 Q3.out (g := w.heap.size) (i := 1) (by omega) (.slice E1 L1.length e1)) (g := w.heap.size) (i := 2) (by omega) (.slice E2 L2.length e2)) (g := w.heap.size + 1) (by omega) (.bool true) (.slice E1 L1.length e1) (.slice E2 L2.length e2) (.slice B3 ns.length d3)
    rw [← HW8.out, ← HW9.out, ← hW7] at t1 t2 t3
    have hput : putP ⟨true, ks, vs, ns⟩ key val = ⟨true, L1, L2, ns⟩ := by
      unfold putP
      dsimp only
      rw [if_pos rfl, HT.out, if_neg Bool.false_ne_true, ← HFE.out, ← HL1'.out, ← HL2'.out]
    rw [hput]
    obtain ⟨E1', e1', E2', e2', E3', e3', hE, hp⟩ := pgr_of_R (p := ⟨true, L1, L2, ns⟩) (Kd.R_lower t1 (by omega)) (Kd.R_lower t2 (by omega)) t3
    exact bodyPost_ret_by (results_c1 rfl _ _ (w.heap.size + 1) 67 _ (0, 0) _ rfl k7 Try.underlying67 rfl (by kernel_rfl)) rfl ⟨hb7, E1', e1', E2', e2', E3', e3', by rw [← hE], hp⟩

theorem put_any {p : Pg} (key val : ByteArray) (h : PgR w A1 c1 A2 c2 A3 c3 p) (hf : Few p) (hr : Rise p.keys) (hv : p.leaf = true → p.vals.length = p.keys.length) : Calls Try.prog 49 #[pgv A1 c1 A2 c2 A3 c3 p, .string key, .string val] w fun e w' => Below w.heap.size w w' ∧ ∃ B1 d1 B2 d2 B3 d3, e = .returned (pgv B1 d1 B2 d2 B3 d3 (putP p key val)) ∧ PgR w' B1 d1 B2 d2 B3 d3 (putP p key val) := by
  obtain ⟨lf, ks, vs, ns⟩ := p
  cases lf with
  | true => exact put_leaf key val h hf hr (hv rfl)
  | false =>
    refine (put_branch (w := w) (A1 := A1) (A2 := A2) (A3 := A3) (c1 := c1) (c2 := c2) (c3 := c3) (ks := ks) (vs := vs) (ns := ns) key val).mono ?_
    rintro e w' ⟨hb, rfl⟩
    exact ⟨hb, A1, c1, A2, c2, A3, c3, rfl, h.below hb⟩
end
end Go.Proofs.Ytlbikfamjogpnaa
end

/- page.Split of a leaf: what it answers. Conditions: the page reads in memory and is small. -/
section
namespace Go.Proofs.Ytlbikfamjogpnaa
open Go.RowKit Go.Proofs.YtlbikfamjogpnaaW.PrintWords Go.Proofs.Ytlbikfamjogpnaa.QPage

theorem results_csc {P : Program} {fn : Func} {p u q : Tmp} {ty : TypeId} (h : fn.results = #[.cell p ty, .tmp u, .cell q ty]) (tmps : Array Value) (w : World) (g g' : Nat) (t : TypeId) (cs cs' : Array Value) (fr fr' : Nat × Nat) (d : TypeDesc)
    (hp : tmps.getD p undef = .pointer (some ⟨g, 0, none⟩)) (hq : tmps.getD q undef = .pointer (some ⟨g', 0, none⟩)) (hg : w.heap[g]? = some (.cells cs t fr)) (hg' : w.heap[g']? = some (.cells cs' t fr'))
    (hu : P.underlying ty = some d) (hd : (match d with | .struct _ | .array _ _ => true | _ => false) = true) (hi : (P.info? ty).map (·.size) = some cs.size) (hi' : (P.info? ty).map (·.size) = some cs'.size) :
    (results fn tmps).run P w = .ok (.tuple #[.agg cs, tmps.getD u undef, .agg cs']) w := by
  have hp' : tmps[p]?.getD undef = .pointer (some ⟨g, 0, none⟩) := by simpa using hp
  have hq' : tmps[q]?.getD undef = .pointer (some ⟨g', 0, none⟩) := by simpa using hq
  simp [results, h, hp', hq', asAddr, run_loadVar_row w g t ty cs fr d hg hu hd hi, run_loadVar_row w g' t ty cs' fr' d hg' hu hd hi']

/-- What Split's answers are. -/
def SplitPost (w : World) (a b : Pg) (k : ByteArray) (e : Ending) (w' : World) : Prop :=
  Below w.heap.size w w' ∧ ∃ B1 d1 B2 d2 B3 d3 C1 e1 C2 e2 C3 e3, e = .returned (.tuple #[pgv B1 d1 B2 d2 B3 d3 a, .string k, pgv C1 e1 C2 e2 C3 e3 b]) ∧ PgR w' B1 d1 B2 d2 B3 d3 a ∧ PgR w' C1 e1 C2 e2 C3 e3 b

section
variable {w : World} {A1 A2 A3 : Option Addr} {c1 c2 c3 : Nat} {ks vs : List ByteArray} {ns : List Int}
set_option maxRecDepth 100000 in
set_option maxHeartbeats 8000000 in
theorem split_leaf (h : PgR w A1 c1 A2 c2 A3 c3 ⟨true, ks, vs, ns⟩) (hs : Small ⟨true, ks, vs, ns⟩) (hv : vs.length = ks.length) (h2 : 2 ≤ ks.length) :
    Calls Try.prog 37 #[pgv A1 c1 A2 c2 A3 c3 ⟨true, ks, vs, ns⟩] w (SplitPost w (partP ⟨true, ks, vs, ns⟩ 0 (splitAt ⟨true, ks, vs, ns⟩)) (partP ⟨true, ks, vs, ns⟩ (splitAt ⟨true, ks, vs, ns⟩) ks.length) (ks.getD (splitAt ⟨true, ks, vs, ns⟩) ByteArray.empty)) := by
  obtain ⟨p, hp⟩ : ∃ p : Pg, p = ⟨true, ks, vs, ns⟩ := ⟨_, rfl⟩
  have hpk : p.keys = ks := by rw [hp]
  have hpv : p.vals = vs := by rw [hp]
  have hn60 : ks.length ≤ 60 := hs.1
  obtain ⟨W0, hW0⟩ : ∃ W0, W0 = w.alloc (.cells #[.bool true, .slice A1 ks.length c1, .slice A2 vs.length c2, .slice A3 ns.length c3] 67) := ⟨_, rfl⟩
  obtain ⟨W1, hW1⟩ : ∃ W1, W1 = W0.alloc (.cells #[.bool false, .slice none 0 0, .slice none 0 0, .slice none 0 0] 67) := ⟨_, rfl⟩
  obtain ⟨W2, hW2⟩ : ∃ W2, W2 = W1.alloc (.cells #[.bool false, .slice none 0 0, .slice none 0 0, .slice none 0 0] 67) := ⟨_, rfl⟩
  have hb0 : Below w.heap.size w W0 := by rw [hW0]; exact (Below.refl _ _).alloc (Nat.le_refl _) _
  have hs0 : W0.heap.size = w.heap.size + 1 := by rw [hW0]; simp
  have hb1 : Below w.heap.size w W1 := by rw [hW1]; exact hb0.alloc hb0.size _
  have hs1 : W1.heap.size = w.heap.size + 2 := by rw [hW1]; simp [hs0]
  have hb2 : Below w.heap.size w W2 := by rw [hW2]; exact hb1.alloc hb1.size _
  have hs2 : W2.heap.size = w.heap.size + 3 := by rw [hW2]; simp [hs1]
  have kp : Blk W2 w.heap.size 67 #[.bool true, .slice A1 ks.length c1, .slice A2 vs.length c2, .slice A3 ns.length c3] := by rw [hW2, hW1, hW0]; exact ((Blk.new _ _ _).alloc _).alloc _
  have kx : Blk W2 (w.heap.size + 1) 67 #[.bool false, .slice none 0 0, .slice none 0 0, .slice none 0 0] := by rw [hW2, hW1, ← hs0]; exact (Blk.new _ _ _).alloc _
  have ky : Blk W2 (w.heap.size + 2) 67 #[.bool false, .slice none 0 0, .slice none 0 0, .slice none 0 0] := by rw [hW2, ← hs1]; exact Blk.new _ _ _
  obtain ⟨q0, q1, q2, q3⟩ := cells4 kp
  have HC := Lib.hid (pgn_clone (h.below hb2) hs.few)
  have HKP := Lib.hid kp
  have HKX := Lib.hid kx
  have HKY := Lib.hid ky
  have HB2 := Lib.hid hb2
  have HS2 := Lib.hid hs2
  have HS := Lib.hid hs
  have HP := Lib.hid hp
  have HPK := Lib.hid hpk
  have HPV := Lib.hid hpv
  have HV := Lib.hid hv
  have HW0 := Lib.hid hW0
  have HW1 := Lib.hid hW1
  have HW2 := Lib.hid hW2
  have t1 : decide ((ks.length : Int) < 2) = false := decide_eq_false (by omega)
  have t2 : decide (ks.length < 2) = false := decide_eq_false (by omega)
  clear h hs hW0 hW1 hW2 hb0 hb1 hb2 hs0 hs1 hs2 kp kx ky hp hpk hpv hv
  unfold pgv
  dsimp only
  go_enter Try.func37, Try.ntmps37
  go_upto_region 1 with fail
  rw [← HW0.out, ← HW1.out, ← HW2.out]
  go_wp2_with fail
  refine HC.out.mono ?_
  rintro e w3 ⟨hb3, B1, d1, B2, d2, B3, d3, he, hp3⟩
  unfold pgv at he
  dsimp only at he
  subst he
  obtain ⟨W4, hW4⟩ : ∃ W4, W4 = (((w3.setCell ⟨w.heap.size, 0, none⟩ (.bool true)).setCell ⟨w.heap.size, 1, none⟩ (.slice B1 ks.length d1)).setCell ⟨w.heap.size, 2, none⟩ (.slice B2 vs.length d2)).setCell ⟨w.heap.size, 3, none⟩ (.slice B3 ns.length d3) := ⟨_, rfl⟩
  have kp3 : Blk w3 w.heap.size 67 #[.bool true, .slice A1 ks.length c1, .slice A2 vs.length c2, .slice A3 ns.length c3] := HKP.out.below hb3 (by rw [HS2.out]; omega)
  have kx3 : Blk w3 (w.heap.size + 1) 67 #[.bool false, .slice none 0 0, .slice none 0 0, .slice none 0 0] := HKX.out.below hb3 (by rw [HS2.out]; omega)
  have ky3 : Blk w3 (w.heap.size + 2) 67 #[.bool false, .slice none 0 0, .slice none 0 0, .slice none 0 0] := HKY.out.below hb3 (by rw [HS2.out]; omega)
  have hp4 : PgN W4 (w.heap.size + 3) B1 d1 B2 d2 B3 d3 ⟨true, ks, vs, ns⟩ := by
    rw [hW4]
    have := hp3
    rw [HS2.out] at this
    exact this.far4 (by omega) _ _ _ _
  have kp4 : Blk W4 w.heap.size 67 #[.bool true, .slice B1 ks.length d1, .slice B2 vs.length d2, .slice B3 ns.length d3] := by rw [hW4]; exact set4 kp3
  have far4 : ∀ {g : Nat} {t : TypeId} {cs : Array Value}, g ≠ w.heap.size → Blk w3 g t cs → Blk W4 g t cs := fun hne hg => by
    rw [hW4]
    exact (((hg.far (p := ⟨w.heap.size, 0, none⟩) hne _).far (p := ⟨w.heap.size, 1, none⟩) hne _).far (p := ⟨w.heap.size, 2, none⟩) hne _).far (p := ⟨w.heap.size, 3, none⟩) hne _
  have kx4 := far4 (by omega) kx3
  have ky4 := far4 (by omega) ky3
  have hb4 : Below w.heap.size w W4 := by
    rw [hW4]
    exact ((((HB2.out.trans (hb3.mono HB2.out.size)).setCell (p := ⟨w.heap.size, 0, none⟩) (Nat.le_refl _) _).setCell (p := ⟨w.heap.size, 1, none⟩) (Nat.le_refl _) _).setCell (p := ⟨w.heap.size, 2, none⟩) (Nat.le_refl _) _).setCell (p := ⟨w.heap.size, 3, none⟩) (Nat.le_refl _) _
  have hs4 : w.heap.size + 3 ≤ W4.heap.size := by have := hb3.size; rw [HS2.out] at this; rw [hW4]; simpa using this
  obtain ⟨q0, q1, q2, q3⟩ := cells4 kp3
  have f0 := kp3.frozen 0
  have f1 := kp3.frozen 1
  have f2 := kp3.frozen 2
  have f3 := kp3.frozen 3
  obtain ⟨r0, r1, r2, r3⟩ := cells4 kp4
  have HP4 := Lib.hid hp4
  have HKP4 := Lib.hid kp4
  have HKX4 := Lib.hid kx4
  have HKY4 := Lib.hid ky4
  have HB4 := Lib.hid hb4
  have HS4 := Lib.hid hs4
  have HW4 := Lib.hid hW4
  clear hW4 kp3 kx3 ky3 hp3 hp4 kp4 kx4 ky4 hb4 hs4 far4 hb3 HC HKP HKX HKY HB2 HW0 HW1 HW2
  go_upto_region 6 with fail
  rw [← HW4.out]
  go_upto_block 0 with fail
  clear r0 r1 r2 r3 q0 q1 q2 q3 f0 f1 f2 f3
  obtain ⟨n, hn⟩ : ∃ n, n = ks.length := ⟨_, rfl⟩
  obtain ⟨H1, hH1⟩ : ∃ H1, H1 = upN ⟨true, ks, vs, ns⟩ (n - 1 - n / 2) (n / 2) := ⟨_, rfl⟩
  have HN := Lib.hid hn
  have HH1 := Lib.hid hH1
  have e2 : (n : Int) / 2 = ((n / 2 : Nat) : Int) := by omega
  rw [← hn] at h2 hn60
  rw [← hn]
  clear hn hH1 t1 t2
  go_cut [6] (fun cv wx => cv = .int .i64 (H1 : Int) ∧ Hid (Below W4.heap.size W4 wx))
  case first =>
    go_wp2_with fail
    rw [e2]
    have hle := upN_le ⟨true, ks, vs, ns⟩ (n - 1 - n / 2) (n / 2)
    go_loopg [6] (n - 1 - n / 2) (fun m cv wr => ∃ i : Nat, cv = .int .i64 (i : Int) ∧ i + m = n - 1 ∧ 1 ≤ i ∧ Hid (Below W4.heap.size W4 wr) ∧ Hid (upN ⟨true, ks, vs, ns⟩ (n - 1 - i) i = H1))
    case atStart => exact ⟨n / 2, rfl, by omega, by omega, Lib.hid (Below.refl _ _), Lib.hid (by rw [HH1.out])⟩
    case round =>
      obtain ⟨i, rfl, hi, h1, HB, HU⟩ := hrel
      have HB' := HB.out
      have kp := HKP4.out.below HB' HKP4.out.lt
      obtain ⟨r0, r1, r2, r3⟩ := cells4 kp
      by_cases hlt : i + 1 < n
      · have g1 : decide ((i : Int) < (n : Int) - 1) = true := decide_eq_true (by omega)
        have hU : (if bigB ⟨true, ks, vs, ns⟩ i n then upN ⟨true, ks, vs, ns⟩ (n - 1 - (i + 1)) (i + 1) else i) = H1 := by
          have hU := HU.out
          rw [show n - 1 - i = (n - 1 - (i + 1)) + 1 by omega, upN] at hU
          dsimp only at hU
          rw [← HN.out] at hU
          exact hU
        rw [← HN.out] at r1
        have CP := part_at (HP4.out.below HB') (Nat.le_trans HS4.out HB'.size) i n (by omega) (by rw [HN.out]; exact Nat.le_refl _) (by rw [HV.out, HN.out]; exact Nat.le_refl _)
        rw [← HN.out] at CP
        have CP := Lib.hid CP
        have HE := Lib.hid (enc_part HS.out i n)
        have HUU := Lib.hid hU
        have HM := Lib.hid hi
        have HBR := Lib.hid HB'
        clear hU hi HB' hle kp e2
        generalize hbg : bigB ⟨true, ks, vs, ns⟩ i n = bg at HUU
        have HBG := Lib.hid hbg
        clear hbg
        have hb : decide (900 < ((encP (partP ⟨true, ks, vs, ns⟩ i n)).length : Int)) = bg := by rw [← HBG.out, bigB, decide_eq_decide]; omega
        have hb' : decide (900 < (encP (partP ⟨true, ks, vs, ns⟩ i n)).length) = bg := HBG.out
        generalize hL : (encP (partP ⟨true, ks, vs, ns⟩ i n)).length = L at hb hb'
        have HL := Lib.hid hL
        clear hL
        cases bg with
        | true =>
          have hU2 := HUU.out
          rw [if_pos (by rfl)] at hU2
          have HU2 := Lib.hid hU2
          clear hU2 HUU
          go_wp2_with (first
            | (go_at_call 77; refine CP.out.mono ?_; rintro e w5 ⟨hb5, v, rfl, hv5⟩
               have CB := bytes_at hv5 HE.out
               rw [HL.out] at CB
               have CB := Lib.hid CB
               have HB5 := Lib.hid hb5
               clear hv5 hb5)
            | (go_at_call 44; refine CB.out.mono ?_; rintro e w6 ⟨rfl, hb6⟩
               have HB6 := Lib.hid hb6
               clear hb6))
          go_roundg (n - 1 - (i + 1))
          case measure => have := HM.out; omega
          case rel => exact ⟨i + 1, by go_num, by omega, by omega, Lib.hid (HBR.out.trans ((HB5.out.trans (HB6.out.mono HB5.out.size)).mono HBR.out.size)), HU2⟩
        | false =>
          have hU2 : i = H1 := HUU.out
          subst hU2
          clear HUU
          go_wp2_with (first
            | (go_at_call 77; refine CP.out.mono ?_; rintro e w5 ⟨hb5, v, rfl, hv5⟩
               have CB := bytes_at hv5 HE.out
               rw [HL.out] at CB
               have CB := Lib.hid CB
               have HB5 := Lib.hid hb5
               clear hv5 hb5)
            | (go_at_call 44; refine CB.out.mono ?_; rintro e w6 ⟨rfl, hb6⟩
               have HB6 := Lib.hid hb6
               clear hb6))
          go_meet
          exact ⟨rfl, Lib.hid (HBR.out.trans ((HB5.out.trans (HB6.out.mono HB5.out.size)).mono HBR.out.size))⟩
      · have g1 : decide ((i : Int) < (n : Int) - 1) = false := decide_eq_false (by omega)
        have hU := HU.out
        rw [show n - 1 - i = 0 by omega, upN] at hU
        subst hU
        clear e2 hle kp
        have HBR := Lib.hid HB'
        clear HB'
        go_wp2_with fail
        go_meet
        exact ⟨rfl, HBR⟩
  case rest =>
    obtain ⟨rfl, HB⟩ := hcut
    have h11 := upN_le ⟨true, ks, vs, ns⟩ (n - 1 - n / 2) (n / 2)
    rw [← HH1.out] at h11
    obtain ⟨H2, hH2⟩ : ∃ H2, H2 = downN ⟨true, ks, vs, ns⟩ H1 := ⟨_, rfl⟩
    have h1n : H1 + 1 ≤ n := by omega
    have h11 : 1 ≤ H1 := by omega
    have h21 := downN_le ⟨true, ks, vs, ns⟩ H1
    rw [← hH2] at h21
    have HSA : Hid (splitAt ⟨true, ks, vs, ns⟩ = H2) := Lib.hid (by
      rw [hH2, HH1.out, splitAt]
      dsimp only
      rw [← HN.out])
    have HH2 := Lib.hid hH2
    clear e2 hH2
    obtain ⟨wb, rfl⟩ : ∃ wb : World, wb = wc := ⟨_, rfl⟩
    have HBb := HB
    clear HB
    go_upto_block 2 with fail
    go_cut [6] (fun cv wx => cv = .int .i64 (H2 : Int) ∧ Hid (Below W4.heap.size W4 wx))
    case first =>
      go_wp2_with fail
      go_loopg [6] H1 (fun m cv wr => ∃ i : Nat, cv = .int .i64 (i : Int) ∧ i = m ∧ 1 ≤ i ∧ i ≤ H1 ∧ Hid (Below W4.heap.size W4 wr) ∧ Hid (downN ⟨true, ks, vs, ns⟩ i = H2))
      case atStart => exact ⟨H1, rfl, rfl, by omega, by omega, HBb, Lib.hid HH2.out.symm⟩
      case round =>
        obtain ⟨i, rfl, hi, h1, hiH, HB, HU⟩ := hrel
        have HB' := HB.out
        have kp := HKP4.out.below HB' HKP4.out.lt
        obtain ⟨r0, r1, r2, r3⟩ := cells4 kp
        by_cases hlt : 1 < i
        · have g1 : decide (1 < (i : Int)) = true := decide_eq_true (by omega)
          have g2 : decide (1 < i) = true := decide_eq_true hlt
          have hU : (if bigB ⟨true, ks, vs, ns⟩ 0 i then downN ⟨true, ks, vs, ns⟩ (i - 1) else i) = H2 := by
            have hU := HU.out
            rw [show i = (i - 2) + 2 by omega, downN] at hU
            rw [show i - 2 + 2 = i by omega, show i - 2 + 1 = i - 1 by omega] at hU
            exact hU
          rw [← HN.out] at r1
          have CP := part_at (HP4.out.below HB') (Nat.le_trans HS4.out HB'.size) 0 i (by omega) (by rw [← HN.out]; omega) (by rw [HV.out, ← HN.out]; omega)
          rw [← HN.out] at CP
          have CP := Lib.hid CP
          have HE := Lib.hid (enc_part HS.out 0 i)
          have HUU := Lib.hid hU
          have HM := Lib.hid hi
          have HBR := Lib.hid HB'
          clear hU hi HB' kp h21
          generalize hbg : bigB ⟨true, ks, vs, ns⟩ 0 i = bg at HUU
          have HBG := Lib.hid hbg
          clear hbg
          have hb : decide (900 < ((encP (partP ⟨true, ks, vs, ns⟩ 0 i)).length : Int)) = bg := by rw [← HBG.out, bigB, decide_eq_decide]; omega
          have hb' : decide (900 < (encP (partP ⟨true, ks, vs, ns⟩ 0 i)).length) = bg := HBG.out
          generalize hL : (encP (partP ⟨true, ks, vs, ns⟩ 0 i)).length = L at hb hb'
          have HL := Lib.hid hL
          clear hL
          cases bg with
          | true =>
            have hU2 := HUU.out
            rw [if_pos (by rfl)] at hU2
            have HU2 := Lib.hid hU2
            clear hU2 HUU
            go_wp2_with (first
              | (go_at_call 77; refine CP.out.mono ?_; rintro e w5 ⟨hb5, v, rfl, hv5⟩
                 have CB := bytes_at hv5 HE.out
                 rw [HL.out] at CB
                 have CB := Lib.hid CB
                 have HB5 := Lib.hid hb5
                 clear hv5 hb5)
              | (go_at_call 44; refine CB.out.mono ?_; rintro e w6 ⟨rfl, hb6⟩
                 have HB6 := Lib.hid hb6
                 clear hb6))
            go_roundg (i - 1)
            case measure => have := HM.out; omega
            case rel => exact ⟨i - 1, by go_num, by omega, by omega, by omega, Lib.hid (HBR.out.trans ((HB5.out.trans (HB6.out.mono HB5.out.size)).mono HBR.out.size)), HU2⟩
          | false =>
            have hU2 : i = H2 := HUU.out
            subst hU2
            clear HUU
            go_wp2_with (first
              | (go_at_call 77; refine CP.out.mono ?_; rintro e w5 ⟨hb5, v, rfl, hv5⟩
                 have CB := bytes_at hv5 HE.out
                 rw [HL.out] at CB
                 have CB := Lib.hid CB
                 have HB5 := Lib.hid hb5
                 clear hv5 hb5)
              | (go_at_call 44; refine CB.out.mono ?_; rintro e w6 ⟨rfl, hb6⟩
                 have HB6 := Lib.hid hb6
                 clear hb6))
            go_meet
            exact ⟨rfl, Lib.hid (HBR.out.trans ((HB5.out.trans (HB6.out.mono HB5.out.size)).mono HBR.out.size))⟩
        · obtain rfl : i = 1 := by omega
          have hU := HU.out
          rw [downN] at hU
          subst hU
          have HBR := Lib.hid HB'
          clear HB' kp h21 hi
          go_wp2_with fail
          go_meet
          exact ⟨rfl, HBR⟩
    case rest =>
      obtain ⟨rfl, HB⟩ := hcut
      obtain ⟨wa, rfl⟩ : ∃ wa : World, wa = wc := ⟨_, rfl⟩
      have HB' := HB.out
      have h2n : H2 < n := by omega
      have h20 : 1 ≤ H2 := by omega
      have hz4 := HS4.out
      have hza := HB'.size
      obtain ⟨wd, rfl⟩ : ∃ wd : World, wd = wa := ⟨_, rfl⟩
      have hbd : Below W4.heap.size W4 wd := HB'
      have hzd : w.heap.size + 3 ≤ wd.heap.size := Nat.le_trans hz4 hbd.size
      have kp := HKP4.out.below hbd HKP4.out.lt
      have kx := HKX4.out.below hbd HKX4.out.lt
      have ky := HKY4.out.below hbd HKY4.out.lt
      have hpn := HP4.out.below hbd
      have hpr : PgR wd B1 d1 B2 d2 B3 d3 ⟨true, ks, vs, ns⟩ := hpn.pgr
      have hc1 : n ≤ d1 := by rw [HN.out]; exact hpr.kc
      have hc2 : vs.length ≤ d2 := hpr.vc
      have hvn : vs.length = n := by rw [HN.out]; exact HV.out
      rw [← HN.out] at kp
      have C1 : ∀ W, Calls Try.prog 77 #[.agg #[.bool true, .slice B1 n d1, .slice B2 vs.length d2, .slice B3 ns.length d3], .int .i64 0, .int .i64 (H2 : Int)] W fun e w' =>
          e = .returned (.agg #[.bool true, .slice (cutA B1 0 H2) H2 H2, .slice (cutA B2 0 H2) H2 H2, .slice none 0 0]) ∧ Below W.heap.size W w' := fun W => by
        have := part_exact (w := W) (A1 := B1) (A2 := B2) (lf := true) (v3 := .slice B3 ns.length d3) 0 H2 (by omega) (Nat.le_of_lt h2n) (by omega) hc1 hc2
        simpa using this
      have C2 : ∀ W, Calls Try.prog 77 #[.agg #[.bool true, .slice B1 n d1, .slice B2 vs.length d2, .slice B3 ns.length d3], .int .i64 (H2 : Int), .int .i64 (n : Int)] W fun e w' =>
          e = .returned (.agg #[.bool true, .slice (cutA B1 H2 n) (n - H2) (n - H2), .slice (cutA B2 H2 n) (n - H2) (n - H2), .slice none 0 0]) ∧ Below W.heap.size W w' := fun W =>
        part_exact (w := W) (A1 := B1) (A2 := B2) (lf := true) (v3 := .slice B3 ns.length d3) H2 n (Nat.le_of_lt h2n) (Nat.le_refl _) (by omega) hc1 hc2
      have SF : Hid (∀ V, Below wd.heap.size wd V → V.cell? ⟨w.heap.size, 0, none⟩ = some (.bool true) ∧ V.cell? ⟨w.heap.size, 1, none⟩ = some (.slice B1 n d1) ∧ V.cell? ⟨w.heap.size, 2, none⟩ = some (.slice B2 vs.length d2) ∧ V.cell? ⟨w.heap.size, 3, none⟩ = some (.slice B3 ns.length d3)) := Lib.hid fun V hV => cells4 (kp.below hV kp.lt)
      have C1 := Lib.hid C1
      have C2 := Lib.hid C2
      have HKX := Lib.hid kx
      have HKY := Lib.hid ky
      have HPR := Lib.hid hpr
      have HPN := Lib.hid hpn
      have HBD := Lib.hid hbd
      have HZD := Lib.hid hzd
      have HVN := Lib.hid hvn
      clear HB' kp kx ky hpr hpn hbd hc1 hc2 hvn h21 h11 hz4 hza hzd
      go_upto_region 11 with fail
      have HL0 := Lib.hid (Later.refl wd)
      have ZF0 : Hid (∀ s, wd.heap.size ≤ s → wd.heap.size ≤ s) := Lib.hid (fun _ h => h)
      have ZS0 : Hid (∀ V, Later wd V → (Later wd) V) := Lib.hid (fun _ h => h)
      refine walk_start 9 (S := Later wd) (T := Later wd) (by kernel_rfl) (fun r => wd.heap.size ≤ r) (fun _ h => h.size) ZS0.out (closed_later _) (Later.refl _).drew ?_
      refine wt 0 62 ?_ (fun V hV => ?_) ?_
      rotate_left 1
      · (obtain ⟨q0, q1, q2, q3⟩ := SF.out V hV; clear hV; go_simp; (try with_reducible rfl))
      try simp only [pa, List.set]
      refine wt 1 63 ?_ (fun V hV => ?_) ?_
      rotate_left 1
      · (clear hV; go_simp; (try with_reducible rfl))
      try simp only [pa, List.set]
      refine wt 3 65 ?_ (fun V hV => ?_) ?_
      rotate_left 1
      · (obtain ⟨q0, q1, q2, q3⟩ := SF.out V hV; clear hV; go_simp; (try with_reducible rfl))
      try simp only [pa, List.set]
      refine wt 4 66 ?_ (fun V hV => ?_) ?_
      rotate_left 1
      · (clear hV; go_simp; (try with_reducible rfl))
      try simp only [pa, List.set]
      refine wt 5 67 ?_ (fun V hV => ?_) ?_
      rotate_left 1
      · (clear hV; go_simp; (try with_reducible rfl))
      try simp only [pa, List.set]
      refine walk_pend ⟨8, 8, (.cells #[.bool false, .slice none 0 0, .slice none 0 0, .slice none 0 0] 67), fun r => .pointer (some ⟨r, 0, none⟩)⟩ ⟨_, rfl, rfl, rfl, fun W => ?_⟩ ?_
      · (go_simp; (try with_reducible rfl))
      refine walk_pend ⟨7, 7, (.cells #[.bool false, .slice none 0 0, .slice none 0 0, .slice none 0 0] 67), fun r => .pointer (some ⟨r, 0, none⟩)⟩ ⟨_, rfl, rfl, rfl, fun W => ?_⟩ ?_
      · (go_simp; (try with_reducible rfl))
      refine walk_core 2 rfl (by kernel_rfl) (fun _ _ _ _ _ h => h) (fun V hV K hK => ?_)
      have hV0 := HL0.out.trans hV
      have hSV := ZS0.out V hV
      go_simp
      go_at_call 77
      refine (C1.out _).mono ?_
      rintro e x2 ⟨rfl, hb⟩
      have HT2 := Lib.hid (hV.of hb)
      have HL1 := Lib.hid (hV0.of hb)
      have hsize := hb.size
      have hkeep := fun (r : Nat) (_ : True) (h : r < V.heap.size) => hb.block r h
      have ZF1 : Hid (∀ s, x2.heap.size ≤ s → _) := Lib.hid (fun s h => ZF0.out s (Nat.le_trans hV.size (Nat.le_trans hsize h)))
      have ZS1 : Hid (∀ V, Later x2 V → (Later wd) V) := Lib.hid (fun V' h => ZS0.out V' ((hV.of hb).trans h))
      refine hK.out _ _ (Later wd) (Later x2) _ (fun r _ h => hkeep r trivial h) (fun _ h _ => h) (fun _ h => h) ZS1.out (fun V' h => ZF1.out _ h.size) (Later.refl _) (closed_later _) ?_
      clear hK K hV hsize hkeep hV0 hSV hb
      try simp only [pa, List.set]
      refine walk_core 6 rfl (by kernel_rfl) (fun _ _ _ _ _ h => h) (fun V hV K hK => ?_)
      have hV0 := HL1.out.trans hV
      have hSV := ZS1.out V hV
      go_simp
      go_at_call 77
      refine (C2.out _).mono ?_
      rintro e x6 ⟨rfl, hb⟩
      have HT6 := Lib.hid (hV.of hb)
      have HL2 := Lib.hid (hV0.of hb)
      have hsize := hb.size
      have hkeep := fun (r : Nat) (_ : True) (h : r < V.heap.size) => hb.block r h
      have ZF2 : Hid (∀ s, x6.heap.size ≤ s → _) := Lib.hid (fun s h => ZF1.out s (Nat.le_trans hV.size (Nat.le_trans hsize h)))
      have ZS2 : Hid (∀ V, Later x6 V → (Later wd) V) := Lib.hid (fun V' h => ZS1.out V' ((hV.of hb).trans h))
      refine hK.out _ _ (Later wd) (Later x6) _ (fun r _ h => hkeep r trivial h) (fun _ h _ => h) (fun _ h => h) ZS2.out (fun V' h => ZF2.out _ h.size) (Later.refl _) (closed_later _) ?_
      clear hK K hV hsize hkeep hV0 hSV hb
      try simp only [pa, List.set]
      refine walk_force (by kernel_rfl) (by kernel_rfl) (by kernel_rfl) (by kernel_rfl) (fun r7 x7 hV hr7 hB7 => ?_)
      have lt7 : r7 < x7.heap.size := (Array.getElem?_eq_some_iff.1 hr7).1
      have HL3 := Lib.hid (HL2.out.trans hV)
      have ZF3 : Hid (∀ s, x7.heap.size ≤ s → _ ∧ s ≠ r7) := Lib.hid (fun s h => ⟨ZF2.out s (Nat.le_trans hV.size h), Nat.ne_of_gt (Nat.lt_of_lt_of_le lt7 h)⟩)
      have ZS3 : Hid (∀ V, Later x7 V → (Later wd) V) := Lib.hid (fun V' h => ZS2.out V' (hV.trans h))
      refine ⟨Later wd, Later x7, Later.refl _, fun _ h => h, ZS3.out, fun V' h => ZF2.out _ (Nat.le_trans hV.size h.size), fun V' h => Nat.lt_of_lt_of_le lt7 h.size, closed_later _, ?_⟩
      try simp only [pa, List.set]
      have HT7 := Lib.hid hV
      clear hV
      refine walk_force (by kernel_rfl) (by kernel_rfl) (by kernel_rfl) (by kernel_rfl) (fun r8 x8 hV hr8 hB8 => ?_)
      have lt8 : r8 < x8.heap.size := (Array.getElem?_eq_some_iff.1 hr8).1
      have HL4 := Lib.hid (HL3.out.trans hV)
      have ZF4 : Hid (∀ s, x8.heap.size ≤ s → _ ∧ s ≠ r8) := Lib.hid (fun s h => ⟨ZF3.out s (Nat.le_trans hV.size h), Nat.ne_of_gt (Nat.lt_of_lt_of_le lt8 h)⟩)
      have ZS4 : Hid (∀ V, Later x8 V → (Later wd) V) := Lib.hid (fun V' h => ZS3.out V' (hV.trans h))
      refine ⟨Later wd, Later x8, Later.refl _, fun _ h => h, ZS4.out, fun V' h => ZF3.out _ (Nat.le_trans hV.size h.size), fun V' h => Nat.lt_of_lt_of_le lt8 h.size, closed_later _, ?_⟩
      try simp only [pa, List.set]
      have HT8 := Lib.hid hV
      clear hV
      refine walk_exit (fun V hV => ?_)
      have hV0 := HL4.out.trans hV
      have hSV := ZS4.out V hV
      try simp only [pa, List.set]
      obtain ⟨W, rfl⟩ : ∃ W : World, W = V := ⟨_, rfl⟩
      clear ZF0 ZF1 ZF2 ZF3 ZF4 ZS0 ZS1 ZS2 ZS3 ZS4
      have hsB : wd.heap.size ≤ r8 := hB8.1
      have hrB : wd.heap.size ≤ r7 := hB7
      have hne : r8 ≠ r7 := hB8.2
      have hs : Blk W r8 67 #[.bool false, .slice none 0 0, .slice none 0 0, .slice none 0 0] := Blk.below (show Blk x8 r8 _ _ from hr8) hV lt8
      have hr : Blk W r7 67 #[.bool false, .slice none 0 0, .slice none 0 0, .slice none 0 0] := (Blk.below (Blk.below (show Blk x7 r7 _ _ from hr7) HT8.out lt7) hV (Nat.lt_of_lt_of_le lt7 HT8.out.size))
      have hV := hV0
      generalize r8 = s at *
      generalize r7 = r at *
      have ks_ : Blk W s 67 #[.bool false, .slice none 0 0, .slice none 0 0, .slice none 0 0] := hs
      have kr : Blk W r 67 #[.bool false, .slice none 0 0, .slice none 0 0, .slice none 0 0] := hr
      clear hs hr
      obtain ⟨z0, z1, z2, z3⟩ := cells4 kr
      have f0 := kr.frozen 0
      have f1 := kr.frozen 1
      have f2 := kr.frozen 2
      have f3 := kr.frozen 3
      have KR := Lib.hid kr
      have KS := Lib.hid ks_
      have HVV := Lib.hid hV
      clear kr ks_ hV
      refine wpAnyJ_one (i := 9) (by kernel_rfl) rfl (fun K hK => ?_)
      simp only [List.getElem_toArray, List.getElem_cons_succ, List.getElem_cons_zero]
      go_simp
      obtain ⟨W7, hW7⟩ : ∃ W7, W7 = (((W.setCell ⟨r, 0, none⟩ (.bool true)).setCell ⟨r, 1, none⟩ (.slice (cutA B1 0 H2) H2 H2)).setCell ⟨r, 2, none⟩ (.slice (cutA B2 0 H2) H2 H2)).setCell ⟨r, 3, none⟩ (.slice none 0 0) := ⟨_, rfl⟩
      have kr7 : Blk W7 r 67 #[.bool true, .slice (cutA B1 0 H2) H2 H2, .slice (cutA B2 0 H2) H2 H2, .slice none 0 0] := by rw [hW7]; exact set4 KR.out
      have ks7 : Blk W7 s 67 #[.bool false, .slice none 0 0, .slice none 0 0, .slice none 0 0] := by rw [hW7]; exact blk_far4 KS.out hne _ _ _ _
      have hb7 : Below wd.heap.size wd W7 := by rw [hW7]; exact (((HVV.out.setCell (p := ⟨r, 0, none⟩) hrB _).setCell (p := ⟨r, 1, none⟩) hrB _).setCell (p := ⟨r, 2, none⟩) hrB _).setCell (p := ⟨r, 3, none⟩) hrB _
      refine hK.out _ _ (fun h _ => absurd rfl h) ?_
      clear hK K
      try simp only [pa, List.set]
      rw [← hW7]
      clear hW7 KR KS HVV z0 z1 z2 z3 f0 f1 f2 f3
      obtain ⟨z0, z1, z2, z3⟩ := cells4 ks7
      have f0 := ks7.frozen 0
      have f1 := ks7.frozen 1
      have f2 := ks7.frozen 2
      have f3 := ks7.frozen 3
      have KR := Lib.hid kr7
      have KS := Lib.hid ks7
      have HVV := Lib.hid hb7
      clear kr7 ks7 hb7
      refine wpAnyJ_one (i := 10) (by kernel_rfl) rfl (fun K hK => ?_)
      simp only [List.getElem_toArray, List.getElem_cons_succ, List.getElem_cons_zero]
      go_simp
      obtain ⟨W8, hW8⟩ : ∃ W8, W8 = (((W7.setCell ⟨s, 0, none⟩ (.bool true)).setCell ⟨s, 1, none⟩ (.slice (cutA B1 H2 n) (n - H2) (n - H2))).setCell ⟨s, 2, none⟩ (.slice (cutA B2 H2 n) (n - H2) (n - H2))).setCell ⟨s, 3, none⟩ (.slice none 0 0) := ⟨_, rfl⟩
      have ks8 : Blk W8 s 67 #[.bool true, .slice (cutA B1 H2 n) (n - H2) (n - H2), .slice (cutA B2 H2 n) (n - H2) (n - H2), .slice none 0 0] := by rw [hW8]; exact set4 KS.out
      have kr8 : Blk W8 r 67 #[.bool true, .slice (cutA B1 0 H2) H2 H2, .slice (cutA B2 0 H2) H2 H2, .slice none 0 0] := by rw [hW8]; exact blk_far4 KR.out (Ne.symm hne) _ _ _ _
      have hb8 : Below wd.heap.size wd W8 := by rw [hW8]; exact (((HVV.out.setCell (p := ⟨s, 0, none⟩) hsB _).setCell (p := ⟨s, 1, none⟩) hsB _).setCell (p := ⟨s, 2, none⟩) hsB _).setCell (p := ⟨s, 3, none⟩) hsB _
      refine hK.out _ _ (fun _ h => absurd ((show _ = true by kernel_rfl).symm.trans h) (by decide)) ?_
      clear hK K
      try simp only [pa, List.set]
      rw [← hW8]
      clear hW8 KR KS HVV z0 z1 z2 z3 f0 f1 f2 f3
      refine wpAnyJ_done (by kernel_rfl) ?_ _
      have hcap : Kd.C Kd.string wd (cutA B1 H2 n) ((ks.take n).drop H2).length ((ks.take n).drop H2) := Kd.C_midc (k := Kd.string) (by have := HPR.out.k; exact this) (Nat.le_of_lt h2n) (Nat.le_of_eq HN.out)
      obtain ⟨ad2, hcut, hcell⟩ := str_at hcap (i := 0) (by rw [List.length_drop, List.length_take]; rw [← HN.out]; omega)
      have hc8 := hcell W8 hb8
      rw [show ad2.add 0 = ad2 by simp [Addr.add], show ((ks.take n).drop H2).getD 0 ByteArray.empty = ks.getD H2 ByteArray.empty by
        rw [List.getD_eq_getElem?_getD, List.getElem?_drop, List.getElem?_take, if_pos (by omega), List.getD_eq_getElem?_getD]; rfl] at hc8
      have hne2 : ¬ (n - H2 = 0) := by omega
      have HCUT := Lib.hid hcut
      rw [hcut] at ks8
      have kx8 := HKX.out.below hb8 HKX.out.lt
      have ky8 := HKY.out.below hb8 HKY.out.lt
      have KR := Lib.hid kr8
      have KS := Lib.hid ks8
      have KX := Lib.hid kx8
      have KY := Lib.hid ky8
      have HB8 := Lib.hid hb8
      have hab : ∀ {g : Nat}, Blk W8 g 67 #[.bool false, .slice none 0 0, .slice none 0 0, .slice none 0 0] → g ≠ ad2.block := fun {g} hg e => by
        have h9 := hg.cell ad2.off
        have hsp : ad2.spot = none := by
          unfold World.cell? at hc8
          split at hc8
          · split at hc8
            · cases hc8
            · rename_i h; simpa using h
          · cases hc8
        rw [show (⟨g, ad2.off, none⟩ : Addr) = ad2 by rw [e]; cases ad2; simp at hsp; simp [hsp], hc8] at h9
        match hoff : ad2.off, h9 with
        | 0, h9 => simp at h9
        | 1, h9 => simp at h9
        | 2, h9 => simp at h9
        | 3, h9 => simp at h9
        | n + 4, h9 => simp at h9
      have na1 : w.heap.size + 1 ≠ ad2.block := hab kx8
      have na2 : w.heap.size + 2 ≠ ad2.block := hab ky8
      have nr1 : w.heap.size + 1 ≠ r := by have := HZD.out; omega
      have nr2 : w.heap.size + 2 ≠ r := by have := HZD.out; omega
      have ns1 : w.heap.size + 1 ≠ s := by have := HZD.out; omega
      have ns2 : w.heap.size + 2 ≠ s := by have := HZD.out; omega
      obtain ⟨r0, r1, r2, r3⟩ := cells4 kr8
      obtain ⟨s0, s1, s2, s3⟩ := cells4 ks8
      obtain ⟨x0, x1, x2, x3⟩ := cells4 kx8
      obtain ⟨y0, y1, y2, y3⟩ := cells4 ky8
      have xf0 := kx8.frozen 0
      have xf1 := kx8.frozen 1
      have xf2 := kx8.frozen 2
      have xf3 := kx8.frozen 3
      have yf0 := ky8.frozen 0
      have yf1 := ky8.frozen 1
      have yf2 := ky8.frozen 2
      have yf3 := ky8.frozen 3
      have i1 : (1 : Int) ≤ ((n - H2 : Nat) : Int) := by omega
      have i0 : (0 : Int) < ((n - H2 : Nat) : Int) := by omega
      have i2 : 0 < n - H2 := by omega
      clear hcell hcap hcut hab kr8 ks8 kx8 ky8 hb8
      go_wp2_with fail
      go_region_held3 (fun V => V.cell? ⟨r, 0, none⟩ = some (.bool true) ∧ V.cell? ⟨r, 1, none⟩ = some (.slice (cutA B1 0 H2) H2 H2) ∧ V.cell? ⟨r, 2, none⟩ = some (.slice (cutA B2 0 H2) H2 H2) ∧ V.cell? ⟨r, 3, none⟩ = some (.slice none 0 0) ∧
          V.cell? ⟨s, 0, none⟩ = some (.bool true) ∧ V.cell? ⟨s, 1, none⟩ = some (.slice (some ad2) (n - H2) (n - H2)) ∧ V.cell? ⟨s, 2, none⟩ = some (.slice (cutA B2 H2 n) (n - H2) (n - H2)) ∧ V.cell? ⟨s, 3, none⟩ = some (.slice none 0 0) ∧
          V.cell? ad2 = some (.string (ks.getD H2 ByteArray.empty)))
        (go_keep) (fail)
      all_goals
        obtain ⟨W9, hW9⟩ : ∃ W9, W9 = ((((((((W8.setCell ⟨w.heap.size + 1, 0, none⟩ (.bool true)).setCell ⟨w.heap.size + 1, 1, none⟩ (.slice (cutA B1 0 H2) H2 H2)).setCell ⟨w.heap.size + 1, 2, none⟩ (.slice (cutA B2 0 H2) H2 H2)).setCell ⟨w.heap.size + 1, 3, none⟩ (.slice none 0 0)).setCell ⟨w.heap.size + 1 + 1, 0, none⟩ (.bool true)).setCell ⟨w.heap.size + 1 + 1, 1, none⟩ (.slice (some ad2) (n - H2) (n - H2))).setCell ⟨w.heap.size + 1 + 1, 2, none⟩ (.slice (cutA B2 H2 n) (n - H2) (n - H2))).setCell ⟨w.heap.size + 1 + 1, 3, none⟩ (.slice none 0 0)).drew := ⟨_, rfl⟩
        rw [← hW9]
        have HW9 := Lib.hid hW9
        clear hW9
        go_wp2_with fail
        have hkn : n ≤ ks.length := Nat.le_of_eq HN.out
        have hvn' : vs.length = n := HVN.out
        have hN3 := HZD.out
        have hN4 := HS4.out
        have k1 : Blk W9 (w.heap.size + 1) 67 #[.bool true, .slice (cutA B1 0 H2) H2 H2, .slice (cutA B2 0 H2) H2 H2, .slice none 0 0] := by
          rw [HW9.out]
          exact (blk_far4 (set4 KX.out) (by omega) _ _ _ _).drew
        have k2 : Blk W9 (w.heap.size + 1 + 1) 67 #[.bool true, .slice (some ad2) (n - H2) (n - H2), .slice (cutA B2 H2 n) (n - H2) (n - H2), .slice none 0 0] := by
          rw [HW9.out]
          exact (set4 (blk_far4 KY.out (by omega) _ _ _ _)).drew
        have hb9 : Below w.heap.size w W9 := by
          have hb9 : Below w.heap.size w W8 := HB4.out.trans ((HBD.out.mono (by omega)).trans (HB8.out.mono (by omega)))
          rw [HW9.out]
          exact ((((((((hb9.setCell (p := ⟨w.heap.size + 1, 0, none⟩) (by simp) _).setCell (p := ⟨w.heap.size + 1, 1, none⟩) (by simp) _).setCell (p := ⟨w.heap.size + 1, 2, none⟩) (by simp) _).setCell (p := ⟨w.heap.size + 1, 3, none⟩) (by simp) _).setCell (p := ⟨w.heap.size + 1 + 1, 0, none⟩) (by simp; omega) _).setCell (p := ⟨w.heap.size + 1 + 1, 1, none⟩) (by simp; omega) _).setCell (p := ⟨w.heap.size + 1 + 1, 2, none⟩) (by simp; omega) _).setCell (p := ⟨w.heap.size + 1 + 1, 3, none⟩) (by simp; omega) _).drew
        have far9 : ∀ {A1 A2 A3 : Option Addr} {c1 c2 c3 : Nat} {p : Pg}, PgN W8 (w.heap.size + 3) A1 c1 A2 c2 A3 c3 p → PgR W9 A1 c1 A2 c2 A3 c3 p := fun h => by
          rw [HW9.out]
          exact (((h.far4 (g := w.heap.size + 1) (by omega) _ _ _ _).far4 (g := w.heap.size + 1 + 1) (by omega) _ _ _ _).below (Below.refl _ _).drew).pgr
        have hq1 := far9 ((pgn_cut HPN.out (Nat.zero_le H2) (by omega) (by omega)).below HB8.out)
        have hq2 := far9 ((pgn_cut HPN.out (Nat.le_of_lt h2n) hkn (by omega)).below HB8.out)
        refine bodyPost_ret_by (results_csc rfl _ _ (w.heap.size + 1) (w.heap.size + 1 + 1) 67 _ _ (0, 0) (0, 0) _ rfl rfl k1 k2 Try.underlying67 rfl (by kernel_rfl) (by kernel_rfl)) rfl ?_
        rw [HSA.out, ← HN.out]
        refine ⟨hb9, cutA B1 0 H2, H2 - 0, cutA B2 0 H2, H2 - 0, none, 0, cutA B1 H2 n, n - H2, cutA B2 H2 n, n - H2, none, 0, ?_, hq1, hq2⟩
        unfold pgv
        simp only [partP, List.length_nil]
        rw [len_cut ks (by omega), len_cut vs (by omega), len_cut ks hkn, len_cut vs (by omega), HCUT.out]
        simp
end
end Go.Proofs.Ytlbikfamjogpnaa
end

/- The law's own 'awake' over page answers true. Conditions: none. -/
section
namespace Go.Proofs.Ytlbikfamjogpnaa
set_option linter.unusedSimpArgs false
set_option linter.unusedVariables false
open Go.RowKit Go.Proofs.YtlbikfamjogpnaaW.PrintWords Go.Proofs.Ytlbikfamjogpnaa.QPage
theorem row_blk {w : World} {g : Nat} {s : ByteArray} (h : Blk w g 9 #[.string s]) : Kd.C Kd.string w (some ⟨g, 0, none⟩) 1 [s] := by
  refine C_of_reads (h1 := fun _ => rfl) (B := w.heap.size) (n := 1) ?_ (by omega)
  refine ⟨by simp, fun _ => ⟨⟨g, 0, none⟩, rfl, h.lt, fun j u hu => ?_⟩⟩
  cases j with
  | zero => simp at hu; subst hu; exact h.cell 0
  | succ j => simp at hu

theorem u64_blk {w : World} {g : Nat} (h : Blk w g 32 #[.int .u64 1, .int .u64 2]) : Kd.C (Kd.int .u64) w (some ⟨g, 0, none⟩) 2 [1, 2] := by
  refine C_of_reads (h1 := fun _ => rfl) (B := w.heap.size) (n := 2) ?_ (by omega)
  refine ⟨by simp, fun _ => ⟨⟨g, 0, none⟩, rfl, h.lt, fun j u hu => ?_⟩⟩
  match j with
  | 0 => simp at hu; subst hu; exact h.cell 0
  | 1 => simp at hu; subst hu; exact h.cell 1
  | j + 2 => simp at hu
theorem kid_at {W : World} {g h : Nat} (k0 : W.heap[g]? = some (.cells #[.string sm] 9)) (k1 : W.heap[h]? = some (.cells #[.int .u64 1, .int .u64 2] 32)) : ∀ V, Later W V → Calls Try.prog 48 #[.agg #[.bool false, .slice (some ⟨g, 0, none⟩) 1 1, .slice none 0 0, .slice (some ⟨h, 0, none⟩) 2 2], .string sn] V fun e w' => e = .returned (.int .i64 1) ∧ Below V.heap.size V w' := fun V hV => by
  have hp : PgR W (some ⟨g, 0, none⟩) 1 none 0 (some ⟨h, 0, none⟩) 2 pM := ⟨row_blk k0, Nat.le_refl _, Kd.C_nil _ _, Nat.le_refl _, u64_blk k1, Nat.le_refl _⟩
  have h := kid_any sn (hp.below hV) ⟨by decide, by decide, by decide⟩ r_M
  rw [kid_M] at h
  exact h

set_option maxHeartbeats 8000000 in
set_option maxRecDepth 100000 in
theorem awake6 (w : World) : Calls Try.prog 35 #[] w fun e w' => e = .returned (.bool true) ∧ Below w.heap.size w w' := by
  obtain ⟨W1, hW1⟩ : ∃ W1, W1 = ((w.alloc (.cells #[.string sa] 9)).alloc (.cells #[.string s1] 9)).alloc (.cells #[.bool true, .slice (some ⟨w.heap.size, 0, none⟩) 1 1, .slice (some ⟨w.heap.size + 1, 0, none⟩) 1 1, .slice none 0 0] 67) := ⟨_, rfl⟩
  have hB1 : Below w.heap.size w W1 := by rw [hW1]; exact (((Below.refl _ _).alloc (Nat.le_refl _) _).alloc (by simp) _).alloc (by simp; omega) _
  have k0 : Blk W1 w.heap.size 9 #[.string sa] := by rw [hW1]; exact ((Blk.new _ _ _).alloc _).alloc _
  have k1 : Blk W1 (w.heap.size + 1) 9 #[.string s1] := by
    have := (Blk.new (w.alloc (.cells #[.string sa] 9)) 9 #[.string s1]).alloc (.cells #[.bool true, .slice (some ⟨w.heap.size, 0, none⟩) 1 1, .slice (some ⟨w.heap.size + 1, 0, none⟩) 1 1, .slice none 0 0] 67)
    rw [← hW1] at this
    simpa using this
  have k2 : Blk W1 (w.heap.size + 2) 67 #[.bool true, .slice (some ⟨w.heap.size, 0, none⟩) 1 1, .slice (some ⟨w.heap.size + 1, 0, none⟩) 1 1, .slice none 0 0] := by
    have := Blk.new ((w.alloc (.cells #[.string sa] 9)).alloc (.cells #[.string s1] 9)) 67 #[.bool true, .slice (some ⟨w.heap.size, 0, none⟩) 1 1, .slice (some ⟨w.heap.size + 1, 0, none⟩) 1 1, .slice none 0 0]
    rw [← hW1] at this
    simpa using this
  have hp1 : PgR W1 (some ⟨w.heap.size, 0, none⟩) 1 (some ⟨w.heap.size + 1, 0, none⟩) 1 none 0 pP := ⟨row_blk k0, Nat.le_refl _, row_blk k1, Nat.le_refl _, Kd.C_nil _ _, Nat.le_refl _⟩
  have HW1 := Lib.hid hW1
  have HB1 := Lib.hid hB1
  have HP1 := Lib.hid hp1
  have HK1 := Lib.hid k2
  obtain ⟨q0, q1, q2, q3⟩ := cells4 k2
  have CE := encode_any hp1 (small_P.enc nums_nil)
  rw [enc_P] at CE
  have CE := Lib.hid CE
  clear hW1 hB1 k0 k1 k2 hp1
  go_enter Try.func35, Try.ntmps35
  go_upto_region 2 with fail
  have e1 := HW1.out
  unfold sa s1 at e1
  rw [← e1]
  clear e1
  go_wp2_with fail
  refine CE.out.mono ?_
  rintro e w2 ⟨hb2, Ae, ce, rfl, hbt⟩
  have CD := decode_any hbt (by decide)
  have hdec : decP [76, 1, 1, 97, 1, 49] = some pP := by
    have := dec_enc good_P nums_nil (by decide) (fun s hs => by have := (good_key_size good_P s hs).2; omega) (fun s hs => by have := good_val_size good_P s hs; omega)
    rw [enc_P] at this
    exact this
  have HDEC := Lib.hid hdec
  have HB2 := Lib.hid (HB1.out.trans (hb2.mono HB1.out.size))
  have HP2 := Lib.hid (HP1.out.below hb2)
  have HK2 := Lib.hid (HK1.out.below hb2 HK1.out.lt)
  have HBT := Lib.hid hbt
  have CD := Lib.hid CD
  clear hb2 hbt hdec CE q0 q1 q2 q3 HP1 HK1 HW1
  go_wp2_with fail
  refine CD.out.mono ?_
  rintro e w3 ⟨hb3, hm⟩
  rw [HDEC.out] at hm
  obtain ⟨F1, f1, F2, f2, F3, f3, he, hq3⟩ := hm
  replace he : e = .returned (.tuple #[.agg #[.bool true, .slice F1 1 f1, .slice F2 1 f2, .slice F3 0 f3], .int .i64 0]) := he
  subst he
  obtain ⟨W4, hW4⟩ : ∃ W4, W4 = w3.alloc (.cells #[.bool true, .slice F1 1 f1, .slice F2 1 f2, .slice F3 0 f3] 67) := ⟨_, rfl⟩
  have hb4 : Below w2.heap.size w2 W4 := by rw [hW4]; exact hb3.alloc hb3.size _
  have HB4 := Lib.hid (HB2.out.trans (hb4.mono HB2.out.size))
  have HP4 := Lib.hid (HP2.out.below hb4)
  have HK4 := Lib.hid (HK2.out.below hb4 HK2.out.lt)
  have HBT4 := Lib.hid (HBT.out.below hb4)
  have HF4 : Hid (PgR W4 F1 f1 F2 f2 F3 f3 pP) := Lib.hid (by rw [hW4]; exact hq3.below ((Below.refl _ _).alloc (Nat.le_refl _) _))
  have HQ4 : Hid (Blk W4 w3.heap.size 67 #[.bool true, .slice F1 1 f1, .slice F2 1 f2, .slice F3 0 f3]) := Lib.hid (by rw [hW4]; exact Blk.new _ _ _)
  have HW4 := Lib.hid hW4
  have CF := find_any sa HP4.out small_P.few r_P
  rw [show findN pP.keys sa = 0 from f_Pa, show thereB pP.keys sa = true from t_Pa] at CF
  have CF := Lib.hid CF
  obtain ⟨q0, q1, q2, q3⟩ := cells4 HK4.out
  clear hW4 hb3 hb4 hq3 HB2 HP2 HK2 HBT CD
  go_upto_region 4 with fail
  rw [← HW4.out]
  go_wp2_with fail
  refine CF.out.mono ?_
  rintro e w5 ⟨rfl, hb5⟩
  have HB5 := Lib.hid (HB4.out.trans (hb5.mono HB4.out.size))
  have HP5 := Lib.hid (HP4.out.below hb5)
  have HK5 := Lib.hid (HK4.out.below hb5 HK4.out.lt)
  have HBT5 := Lib.hid (HBT4.out.below hb5)
  have HF5 := Lib.hid (HF4.out.below hb5)
  have HQ5 := Lib.hid (HQ4.out.below hb5 HQ4.out.lt)
  have CU := put_any sb s2 HP5.out small_P.few r_P (fun _ => rfl)
  rw [put_P] at CU
  have CU := Lib.hid CU
  obtain ⟨q0, q1, q2, q3⟩ := cells4 HK5.out
  clear hb5 HB4 HP4 HK4 HBT4 HF4 HQ4 HW4 CF
  go_wp2_with fail
  refine CU.out.mono ?_
  rintro e w6 ⟨hb6, G1, g1, G2, g2, G3, g3, he, hq6⟩
  replace he : e = .returned (.agg #[.bool true, .slice G1 2 g1, .slice G2 2 g2, .slice G3 0 g3]) := he
  subst he
  obtain ⟨W7, hW7⟩ : ∃ W7, W7 = w6.alloc (.cells #[.bool true, .slice G1 2 g1, .slice G2 2 g2, .slice G3 0 g3] 67) := ⟨_, rfl⟩
  have hb7 : Below w5.heap.size w5 W7 := by rw [hW7]; exact hb6.alloc hb6.size _
  have HB7 := Lib.hid (HB5.out.trans (hb7.mono HB5.out.size))
  have HP7 := Lib.hid (HP5.out.below hb7)
  have HK7 := Lib.hid (HK5.out.below hb7 HK5.out.lt)
  have HBT7 := Lib.hid (HBT5.out.below hb7)
  have HF7 := Lib.hid (HF5.out.below hb7)
  have HQ7 := Lib.hid (HQ5.out.below hb7 HQ5.out.lt)
  have HR7 : Hid (PgR W7 G1 g1 G2 g2 G3 g3 pR) := Lib.hid (by rw [hW7]; exact hq6.below ((Below.refl _ _).alloc (Nat.le_refl _) _))
  have HH7 : Hid (Blk W7 w6.heap.size 67 #[.bool true, .slice G1 2 g1, .slice G2 2 g2, .slice G3 0 g3]) := Lib.hid (by rw [hW7]; exact Blk.new _ _ _)
  have HW7 := Lib.hid hW7
  have CX := drop_any sa HR7.out small_R.few r_R (fun _ => rfl)
  rw [drop_R] at CX
  have CX := Lib.hid CX
  obtain ⟨q0, q1, q2, q3⟩ := cells4 HH7.out
  clear hW7 hb6 hb7 hq6 HB5 HP5 HK5 HBT5 HF5 HQ5 CU
  go_upto_region 6 with fail
  rw [← HW7.out]
  go_wp2_with fail
  refine CX.out.mono ?_
  rintro e w8 ⟨hb8, D1, d1, D2, d2, D3, d3, he, hq8⟩
  replace he : e = .returned (.agg #[.bool true, .slice D1 1 d1, .slice D2 1 d2, .slice D3 0 d3]) := he
  subst he
  obtain ⟨W9, hW9⟩ : ∃ W9, W9 = w8.alloc (.cells #[.bool true, .slice D1 1 d1, .slice D2 1 d2, .slice D3 0 d3] 67) := ⟨_, rfl⟩
  have hb9 : Below W7.heap.size W7 W9 := by rw [hW9]; exact hb8.alloc hb8.size _
  have HB9 := Lib.hid (HB7.out.trans (hb9.mono HB7.out.size))
  have HP9 := Lib.hid (HP7.out.below hb9)
  have HK9 := Lib.hid (HK7.out.below hb9 HK7.out.lt)
  have HBT9 := Lib.hid (HBT7.out.below hb9)
  have HF9 := Lib.hid (HF7.out.below hb9)
  have HQ9 := Lib.hid (HQ7.out.below hb9 HQ7.out.lt)
  have HR9 := Lib.hid (HR7.out.below hb9)
  have HH9 := Lib.hid (HH7.out.below hb9 HH7.out.lt)
  have HS9 : Hid (PgR W9 D1 d1 D2 d2 D3 d3 pS) := Lib.hid (by rw [hW9]; exact hq8.below ((Below.refl _ _).alloc (Nat.le_refl _) _))
  have HJ9 : Hid (Blk W9 w8.heap.size 67 #[.bool true, .slice D1 1 d1, .slice D2 1 d2, .slice D3 0 d3]) := Lib.hid (by rw [hW9]; exact Blk.new _ _ _)
  have HW9 := Lib.hid hW9
  have CSp : Calls Try.prog 37 #[.agg #[.bool true, .slice G1 2 g1, .slice G2 2 g2, .slice G3 0 g3]] W9 (SplitPost W9 pP pS sb) := by
    have h := split_leaf (ks := [sa, sb]) (vs := [s1, s2]) (ns := []) HR9.out small_R rfl (Nat.le_refl _)
    rw [show splitAt ⟨true, [sa, sb], [s1, s2], []⟩ = 1 from split_R] at h
    exact h
  have CSp := Lib.hid CSp
  obtain ⟨q0, q1, q2, q3⟩ := cells4 HH9.out
  clear hW9 hb8 hb9 hq8 HB7 HP7 HK7 HBT7 HF7 HQ7 HR7 HH7 HW7 CX
  go_upto_region 7 with fail
  rw [← HW9.out]
  go_wp2_with fail
  refine CSp.out.mono ?_
  rintro e w10 ⟨hb10, X1, x1, X2, x2, X3, x3, Y1, y1, Y2, y2, Y3, y3, he, hx10, hy10⟩
  replace he : e = .returned (.tuple #[.agg #[.bool true, .slice X1 1 x1, .slice X2 1 x2, .slice X3 0 x3], .string ⟨#[98]⟩, .agg #[.bool true, .slice Y1 1 y1, .slice Y2 1 y2, .slice Y3 0 y3]]) := he
  subst he
  have HB10 := Lib.hid (HB9.out.trans (hb10.mono HB9.out.size))
  have HP10 := Lib.hid (HP9.out.below hb10)
  have HK10 := Lib.hid (HK9.out.below hb10 HK9.out.lt)
  have HBT10 := Lib.hid (HBT9.out.below hb10)
  have HF10 := Lib.hid (HF9.out.below hb10)
  have HQ10 := Lib.hid (HQ9.out.below hb10 HQ9.out.lt)
  have HH10 := Lib.hid (HH9.out.below hb10 HH9.out.lt)
  have HS10 := Lib.hid (HS9.out.below hb10)
  have HJ10 := Lib.hid (HJ9.out.below hb10 HJ9.out.lt)
  obtain ⟨W11, hW11⟩ : ∃ W11, W11 = (w10.alloc (.cells #[.bool true, .slice X1 1 x1, .slice X2 1 x2, .slice X3 0 x3] 67)).alloc (.cells #[.bool true, .slice Y1 1 y1, .slice Y2 1 y2, .slice Y3 0 y3] 67) := ⟨_, rfl⟩
  have hb11 : Below w10.heap.size w10 W11 := by rw [hW11]; exact ((Below.refl _ _).alloc (Nat.le_refl _) _).alloc (by simp) _
  have kx : Blk W11 w10.heap.size 67 #[.bool true, .slice X1 1 x1, .slice X2 1 x2, .slice X3 0 x3] := by rw [hW11]; exact (Blk.new _ _ _).alloc _
  have ky : Blk W11 (w10.heap.size + 1) 67 #[.bool true, .slice Y1 1 y1, .slice Y2 1 y2, .slice Y3 0 y3] := by
    have := Blk.new (w10.alloc (.cells #[.bool true, .slice X1 1 x1, .slice X2 1 x2, .slice X3 0 x3] 67)) 67 #[.bool true, .slice Y1 1 y1, .slice Y2 1 y2, .slice Y3 0 y3]
    rw [← hW11] at this
    simpa using this
  obtain ⟨ad, rfl, had⟩ := str_at (HS10.out.below hb11).k (i := 0) (by decide)
  have HB11 := Lib.hid (HB10.out.trans (hb11.mono HB10.out.size))
  have HP11 := Lib.hid (HP10.out.below hb11)
  have HK11 := Lib.hid (HK10.out.below hb11 HK10.out.lt)
  have HBT11 := Lib.hid (HBT10.out.below hb11)
  have HF11 := Lib.hid (HF10.out.below hb11)
  have HQ11 := Lib.hid (HQ10.out.below hb11 HQ10.out.lt)
  have HH11 := Lib.hid (HH10.out.below hb11 HH10.out.lt)
  have HJ11 := Lib.hid (HJ10.out.below hb11 HJ10.out.lt)
  have HX11 := Lib.hid kx
  have HY11 := Lib.hid ky
  have HAD := Lib.hid had
  have HW11 := Lib.hid hW11
  have HS : Hid (∀ w', Below W11.heap.size W11 w' → (convert 36 9 (.slice Ae 6 ce)).run Try.prog w' = .ok (.string ⟨#[76, 1, 1, 97, 1, 49]⟩) w' ∧
      w'.cell? ⟨w.heap.size + 2, 0, none⟩ = some (.bool true) ∧ w'.cell? ⟨w.heap.size + 2, 1, none⟩ = some (.slice (some ⟨w.heap.size, 0, none⟩) 1 1) ∧ w'.cell? ⟨w.heap.size + 2, 2, none⟩ = some (.slice (some ⟨w.heap.size + 1, 0, none⟩) 1 1) ∧ w'.cell? ⟨w.heap.size + 2, 3, none⟩ = some (.slice none 0 0) ∧
      w'.cell? ⟨w3.heap.size, 0, none⟩ = some (.bool true) ∧ w'.cell? ⟨w3.heap.size, 1, none⟩ = some (.slice F1 1 f1) ∧ w'.cell? ⟨w3.heap.size, 2, none⟩ = some (.slice F2 1 f2) ∧ w'.cell? ⟨w3.heap.size, 3, none⟩ = some (.slice F3 0 f3) ∧
      w'.cell? ⟨w6.heap.size, 1, none⟩ = some (.slice G1 2 g1) ∧ w'.cell? ⟨w8.heap.size, 1, none⟩ = some (.slice (some ad) 1 d1) ∧ w'.cell? ad = some (.string ⟨#[98]⟩) ∧ w'.cell? ⟨w10.heap.size, 1, none⟩ = some (.slice X1 1 x1) ∧ w'.cell? ⟨w10.heap.size + 1, 1, none⟩ = some (.slice Y1 1 y1)) := Lib.hid (fun w' hb => by
    obtain ⟨a0, a1, a2, a3⟩ := cells4 (HK11.out.below hb HK11.out.lt)
    obtain ⟨b0, b1, b2, b3⟩ := cells4 (HQ11.out.below hb HQ11.out.lt)
    obtain ⟨-, c1, -, -⟩ := cells4 (HH11.out.below hb HH11.out.lt)
    obtain ⟨-, j1, -, -⟩ := cells4 (HJ11.out.below hb HJ11.out.lt)
    obtain ⟨-, m1, -, -⟩ := cells4 (HX11.out.below hb HX11.out.lt)
    obtain ⟨-, n1, -, -⟩ := cells4 (HY11.out.below hb HY11.out.lt)
    exact ⟨run_string_of w' 36 9 5 Try.underlying36 Try.underlying5 Try.underlying9 (c := ce) (HBT11.out.below hb).2.1, a0, a1, a2, a3, b0, b1, b2, b3, c1, j1, HAD.out w' hb, m1, n1⟩)
  have H0 : Hid (Below W11.heap.size W11 W11.drew) := Lib.hid (below_drew (Below.refl _ _))
  have CO : Hid (∀ w1, Later W11 w1 → Calls Try.prog 40 #[.agg #[.bool true, .slice (some ⟨w.heap.size, 0, none⟩) 1 1, .slice (some ⟨w.heap.size + 1, 0, none⟩) 1 1, .slice none 0 0]] w1 fun e w' => Below w1.heap.size w1 w' ∧ ∃ E1 d1 E2 d2 E3 d3, e = .returned (.agg #[.bool true, .slice E1 1 d1, .slice E2 1 d2, .slice E3 0 d3]) ∧ PgR w' E1 d1 E2 d2 E3 d3 pP) := Lib.hid (fun w1 hb => by
    refine (own_any (HP11.out.below hb) small_P.few).mono ?_
    rintro e w' ⟨h1, E1, d1, E2, d2, E3, d3, rfl, hq⟩
    exact ⟨h1, E1, d1, E2, d2, E3, d3, rfl, hq⟩)
  have CS : Hid (∀ w1, Later W11 w1 → ∀ E1 d1 E2 d2 E3 d3, PgR w1 E1 d1 E2 d2 E3 d3 pP → Calls Try.prog 45 #[.agg #[.bool true, .slice F1 1 f1, .slice F2 1 f2, .slice F3 0 f3], .agg #[.bool true, .slice E1 1 d1, .slice E2 1 d2, .slice E3 0 d3]] w1 fun e w' => e = .returned (.bool true) ∧ Below w1.heap.size w1 w') := Lib.hid (fun w1 hb E1 d1 E2 d2 E3 d3 hq => by
    have := same_any (HF11.out.below hb) hq small_P.few
    exact this.mono fun e w' h => ⟨h.1, h.2⟩)
  have CG : Hid (∀ w1, Later W11 w1 → Calls Try.prog 38 #[.agg #[.bool true, .slice (some ⟨w.heap.size, 0, none⟩) 1 1, .slice (some ⟨w.heap.size + 1, 0, none⟩) 1 1, .slice none 0 0]] w1 fun e w' => e = .returned (.bool true) ∧ Below w1.heap.size w1 w') := Lib.hid (fun w1 hb => by
    have := good_any (HP11.out.below hb) small_P.fits
    rw [good_P] at this
    exact this)
  have CY : Hid (∀ w1, Later W11 w1 → Calls Try.prog 44 #[.agg #[.bool true, .slice (some ⟨w.heap.size, 0, none⟩) 1 1, .slice (some ⟨w.heap.size + 1, 0, none⟩) 1 1, .slice none 0 0]] w1 fun e w' => e = .returned (.int .i64 6) ∧ Below w1.heap.size w1 w') := Lib.hid (fun w1 hb => by
    have := bytes_any (HP11.out.below hb) (small_P.enc nums_nil)
    rw [enc_P] at this
    exact this)
  clear hW11 hb11 kx ky had hx10 hy10 HB10 HP10 HK10 HBT10 HF10 HQ10 HH10 HS10 HJ10 H0
  go_upto_region 8 with fail
  rw [← HW11.out]
  dsimp only [List.append]
  have HL0 := Lib.hid (Later.refl W11)
  have ZF0 : Hid (∀ s, W11.heap.size ≤ s → W11.heap.size ≤ s) := Lib.hid (fun _ h => h)
  have ZS0 : Hid (∀ V, Later W11 V → (Later W11) V) := Lib.hid (fun _ h => h)
  refine walk_start 72 (S := Later W11) (T := Later W11) (by kernel_rfl) (fun r => W11.heap.size ≤ r) (fun _ h => h.size) ZS0.out (closed_later _) (Later.refl _).drew ?_
  refine wt 0 37 ?_ (fun V hV => ?_) ?_
  rotate_left 1
  · (clear hV; go_simp; (try with_reducible rfl))
  try simp only [pa, List.set]
  refine wt 1 38 ?_ (fun V hV => ?_) ?_
  rotate_left 1
  · (obtain ⟨cv, q0, q1, q2, q3, k0, k1, k2, k3, u1, v1, z1, m1, n1⟩ := HS.out V (HL0.out.trans hV); clear hV; go_simp; (try with_reducible rfl))
  try simp only [pa, List.set]
  refine wt 2 39 ?_ (fun V hV => ?_) ?_
  rotate_left 1
  · (clear hV; go_simp; (try with_reducible rfl))
  try simp only [pa, List.set]
  refine wt 3 40 ?_ (fun V hV => ?_) ?_
  rotate_left 1
  · (clear hV; go_simp; (try with_reducible rfl))
  try simp only [pa, List.set]
  refine wt 4 41 ?_ (fun V hV => ?_) ?_
  rotate_left 1
  · (clear hV; go_simp; (try with_reducible rfl))
  try simp only [pa, List.set]
  refine wt 5 42 ?_ (fun V hV => ?_) ?_
  rotate_left 1
  · (clear hV; go_simp; (try with_reducible rfl))
  try simp only [pa, List.set]
  refine wt 6 43 ?_ (fun V hV => ?_) ?_
  rotate_left 1
  · (clear hV; go_simp; (try with_reducible rfl))
  try simp only [pa, List.set]
  refine wt 7 44 ?_ (fun V hV => ?_) ?_
  rotate_left 1
  · (clear hV; go_simp; (try with_reducible rfl))
  try simp only [pa, List.set]
  refine wt 8 45 ?_ (fun V hV => ?_) ?_
  rotate_left 1
  · (obtain ⟨cv, q0, q1, q2, q3, k0, k1, k2, k3, u1, v1, z1, m1, n1⟩ := HS.out V (HL0.out.trans hV); clear hV; go_simp; (try with_reducible rfl))
  try simp only [pa, List.set]
  refine wt 9 46 ?_ (fun V hV => ?_) ?_
  rotate_left 1
  · (obtain ⟨cv, q0, q1, q2, q3, k0, k1, k2, k3, u1, v1, z1, m1, n1⟩ := HS.out V (HL0.out.trans hV); clear hV; go_simp; (try with_reducible rfl))
  try simp only [pa, List.set]
  refine walk_core 10 rfl (by kernel_rfl) (fun _ _ _ _ _ h => h) (fun V hV K hK => ?_)
  have hV0 := HL0.out.trans hV
  go_simp
  go_at_call 40
  refine (CO.out _ hV0).mono ?_
  rintro e x10 ⟨hb, E1, d1, E2, d2, E3, d3, rfl, hq12⟩
  have HQ12 := Lib.hid hq12
  clear hq12
  have HT10 := Lib.hid (hV.of hb)
  have HL1 := Lib.hid (hV0.of hb)
  have hsize := hb.size
  have hkeep := fun (r : Nat) (_ : True) (h : r < V.heap.size) => hb.block r h
  have ZF1 : Hid (∀ s, x10.heap.size ≤ s → _) := Lib.hid (fun s h => ZF0.out s (Nat.le_trans hV.size (Nat.le_trans hsize h)))
  refine hK.out _ _ (Later x10) (Later x10) _ (fun r _ h => hkeep r trivial h) (fun _ h _ => h) (fun V' h => (hV.of hb).trans h) (fun _ h => h) (fun V' h => ZF1.out _ h.size) (Later.refl _) (closed_later _) ?_
  clear hK K hV hsize hkeep hV0 hb
  try simp only [pa, List.set]
  refine walk_core 11 rfl (by kernel_rfl) (fun _ _ _ _ _ h => h) (fun V hV K hK => ?_)
  have hV0 := HL1.out.trans hV
  go_simp
  go_at_call 45
  refine (CS.out _ hV0 E1 d1 E2 d2 E3 d3 (HQ12.out.below hV)).mono ?_
  rintro e x11 ⟨rfl, hb⟩
  have HT11 := Lib.hid (hV.of hb)
  have HL2 := Lib.hid (hV0.of hb)
  have hsize := hb.size
  have hkeep := fun (r : Nat) (_ : True) (h : r < V.heap.size) => hb.block r h
  have ZF2 : Hid (∀ s, x11.heap.size ≤ s → _) := Lib.hid (fun s h => ZF1.out s (Nat.le_trans hV.size (Nat.le_trans hsize h)))
  refine hK.out _ _ (Later x11) (Later x11) _ (fun r _ h => hkeep r trivial h) (fun _ h _ => h) (fun V' h => (hV.of hb).trans h) (fun _ h => h) (fun V' h => ZF2.out _ h.size) (Later.refl _) (closed_later _) ?_
  clear hK K hV hsize hkeep hV0 hb
  try simp only [pa, List.set]
  refine wt 12 49 ?_ (fun V hV => ?_) ?_
  rotate_left 1
  · (clear hV; go_simp; (try with_reducible rfl))
  try simp only [pa, List.set]
  refine wt 13 50 ?_ (fun V hV => ?_) ?_
  rotate_left 1
  · (clear hV; go_simp; (try with_reducible rfl))
  try simp only [pa, List.set]
  refine wt 14 51 ?_ (fun V hV => ?_) ?_
  rotate_left 1
  · (clear hV; go_simp; (try with_reducible rfl))
  try simp only [pa, List.set]
  refine wt 15 52 ?_ (fun V hV => ?_) ?_
  rotate_left 1
  · (clear hV; go_simp; (try with_reducible rfl))
  try simp only [pa, List.set]
  refine wt 16 53 ?_ (fun V hV => ?_) ?_
  rotate_left 1
  · (clear hV; go_simp; (try with_reducible rfl))
  try simp only [pa, List.set]
  refine wt 17 54 ?_ (fun V hV => ?_) ?_
  rotate_left 1
  · (clear hV; go_simp; (try with_reducible rfl))
  try simp only [pa, List.set]
  refine wt 18 55 ?_ (fun V hV => ?_) ?_
  rotate_left 1
  · (clear hV; go_simp; (try with_reducible rfl))
  try simp only [pa, List.set]
  refine wt 19 56 ?_ (fun V hV => ?_) ?_
  rotate_left 1
  · (clear hV; go_simp; (try with_reducible rfl))
  try simp only [pa, List.set]
  refine wt 20 57 ?_ (fun V hV => ?_) ?_
  rotate_left 1
  · (clear hV; go_simp; (try with_reducible rfl))
  try simp only [pa, List.set]
  refine wt 21 58 ?_ (fun V hV => ?_) ?_
  rotate_left 1
  · (clear hV; go_simp; (try with_reducible rfl))
  try simp only [pa, List.set]
  refine wt 22 59 ?_ (fun V hV => ?_) ?_
  rotate_left 1
  · (obtain ⟨cv, q0, q1, q2, q3, k0, k1, k2, k3, u1, v1, z1, m1, n1⟩ := HS.out V (HL2.out.trans hV); clear hV; go_simp; (try with_reducible rfl))
  try simp only [pa, List.set]
  refine wt 23 60 ?_ (fun V hV => ?_) ?_
  rotate_left 1
  · (clear hV; go_simp; (try with_reducible rfl))
  try simp only [pa, List.set]
  refine wt 24 61 ?_ (fun V hV => ?_) ?_
  rotate_left 1
  · (clear hV; go_simp; (try with_reducible rfl))
  try simp only [pa, List.set]
  refine wt 25 62 ?_ (fun V hV => ?_) ?_
  rotate_left 1
  · (clear hV; go_simp; (try with_reducible rfl))
  try simp only [pa, List.set]
  refine wt 26 63 ?_ (fun V hV => ?_) ?_
  rotate_left 1
  · (clear hV; go_simp; (try with_reducible rfl))
  try simp only [pa, List.set]
  refine wt 27 64 ?_ (fun V hV => ?_) ?_
  rotate_left 1
  · (clear hV; go_simp; (try with_reducible rfl))
  try simp only [pa, List.set]
  refine wt 28 65 ?_ (fun V hV => ?_) ?_
  rotate_left 1
  · (obtain ⟨cv, q0, q1, q2, q3, k0, k1, k2, k3, u1, v1, z1, m1, n1⟩ := HS.out V (HL2.out.trans hV); clear hV; go_simp; (try with_reducible rfl))
  try simp only [pa, List.set]
  refine wt 29 66 ?_ (fun V hV => ?_) ?_
  rotate_left 1
  · (clear hV; go_simp; (try with_reducible rfl))
  try simp only [pa, List.set]
  refine wt 30 67 ?_ (fun V hV => ?_) ?_
  rotate_left 1
  · (clear hV; go_simp; (try with_reducible rfl))
  try simp only [pa, List.set]
  refine wt 31 68 ?_ (fun V hV => ?_) ?_
  rotate_left 1
  · (clear hV; go_simp; (try with_reducible rfl))
  try simp only [pa, List.set]
  refine wt 32 69 ?_ (fun V hV => ?_) ?_
  rotate_left 1
  · (clear hV; go_simp; (try with_reducible rfl))
  try simp only [pa, List.set]
  refine wt 33 70 ?_ (fun V hV => ?_) ?_
  rotate_left 1
  · (clear hV; go_simp; (try with_reducible rfl))
  try simp only [pa, List.set]
  refine wt 34 71 ?_ (fun V hV => ?_) ?_
  rotate_left 1
  · (obtain ⟨cv, q0, q1, q2, q3, k0, k1, k2, k3, u1, v1, z1, m1, n1⟩ := HS.out V (HL2.out.trans hV); clear hV; go_simp; (try with_reducible rfl))
  try simp only [pa, List.set]
  refine wt 35 72 ?_ (fun V hV => ?_) ?_
  rotate_left 1
  · (clear hV; go_simp; (try with_reducible rfl))
  try simp only [pa, List.set]
  refine wt 36 73 ?_ (fun V hV => ?_) ?_
  rotate_left 1
  · (obtain ⟨cv, q0, q1, q2, q3, k0, k1, k2, k3, u1, v1, z1, m1, n1⟩ := HS.out V (HL2.out.trans hV); clear hV; go_simp; (try with_reducible rfl))
  try simp only [pa, List.set]
  refine wt 37 74 ?_ (fun V hV => ?_) ?_
  rotate_left 1
  · (clear hV; go_simp; (try with_reducible rfl))
  try simp only [pa, List.set]
  refine wt 38 75 ?_ (fun V hV => ?_) ?_
  rotate_left 1
  · (clear hV; go_simp; (try with_reducible rfl))
  try simp only [pa, List.set]
  refine wt 39 76 ?_ (fun V hV => ?_) ?_
  rotate_left 1
  · (clear hV; go_simp; (try with_reducible rfl))
  try simp only [pa, List.set]
  refine wt 40 77 ?_ (fun V hV => ?_) ?_
  rotate_left 1
  · (clear hV; go_simp; (try with_reducible rfl))
  try simp only [pa, List.set]
  refine wt 41 78 ?_ (fun V hV => ?_) ?_
  rotate_left 1
  · (obtain ⟨cv, q0, q1, q2, q3, k0, k1, k2, k3, u1, v1, z1, m1, n1⟩ := HS.out V (HL2.out.trans hV); clear hV; go_simp; (try with_reducible rfl))
  try simp only [pa, List.set]
  refine wt 42 79 ?_ (fun V hV => ?_) ?_
  rotate_left 1
  · (clear hV; go_simp; (try with_reducible rfl))
  try simp only [pa, List.set]
  refine wt 43 80 ?_ (fun V hV => ?_) ?_
  rotate_left 1
  · (clear hV; go_simp; (try with_reducible rfl))
  try simp only [pa, List.set]
  refine wt 44 81 ?_ (fun V hV => ?_) ?_
  rotate_left 1
  · (clear hV; go_simp; (try with_reducible rfl))
  try simp only [pa, List.set]
  refine wt 45 82 ?_ (fun V hV => ?_) ?_
  rotate_left 1
  · (clear hV; go_simp; (try with_reducible rfl))
  try simp only [pa, List.set]
  refine wt 46 83 ?_ (fun V hV => ?_) ?_
  rotate_left 1
  · (clear hV; go_simp; (try with_reducible rfl))
  try simp only [pa, List.set]
  refine wt 47 84 ?_ (fun V hV => ?_) ?_
  rotate_left 1
  · (clear hV; go_simp; (try with_reducible rfl))
  try simp only [pa, List.set]
  refine wt 48 85 ?_ (fun V hV => ?_) ?_
  rotate_left 1
  · (clear hV; go_simp; (try with_reducible rfl))
  try simp only [pa, List.set]
  refine wt 49 86 ?_ (fun V hV => ?_) ?_
  rotate_left 1
  · (clear hV; go_simp; (try with_reducible rfl))
  try simp only [pa, List.set]
  refine wt 50 87 ?_ (fun V hV => ?_) ?_
  rotate_left 1
  · (clear hV; go_simp; (try with_reducible rfl))
  try simp only [pa, List.set]
  refine wt 51 88 ?_ (fun V hV => ?_) ?_
  rotate_left 1
  · (obtain ⟨cv, q0, q1, q2, q3, k0, k1, k2, k3, u1, v1, z1, m1, n1⟩ := HS.out V (HL2.out.trans hV); clear hV; go_simp; (try with_reducible rfl))
  try simp only [pa, List.set]
  refine wt 52 89 ?_ (fun V hV => ?_) ?_
  rotate_left 1
  · (clear hV; go_simp; (try with_reducible rfl))
  try simp only [pa, List.set]
  refine wt 53 90 ?_ (fun V hV => ?_) ?_
  rotate_left 1
  · (clear hV; go_simp; (try with_reducible rfl))
  try simp only [pa, List.set]
  refine wt 54 91 ?_ (fun V hV => ?_) ?_
  rotate_left 1
  · (clear hV; go_simp; (try with_reducible rfl))
  try simp only [pa, List.set]
  refine wt 55 92 ?_ (fun V hV => ?_) ?_
  rotate_left 1
  · (clear hV; go_simp; (try with_reducible rfl))
  try simp only [pa, List.set]
  refine wt 56 93 ?_ (fun V hV => ?_) ?_
  rotate_left 1
  · (obtain ⟨cv, q0, q1, q2, q3, k0, k1, k2, k3, u1, v1, z1, m1, n1⟩ := HS.out V (HL2.out.trans hV); clear hV; go_simp; (try with_reducible rfl))
  try simp only [pa, List.set]
  refine walk_core 57 rfl (by kernel_rfl) (fun _ _ _ _ _ h => h) (fun V hV K hK => ?_)
  have hV0 := HL2.out.trans hV
  go_simp
  go_at_call 38
  refine (CG.out _ hV0).mono ?_
  rintro e x57 ⟨rfl, hb⟩
  have HT57 := Lib.hid (hV.of hb)
  have HL3 := Lib.hid (hV0.of hb)
  have hsize := hb.size
  have hkeep := fun (r : Nat) (_ : True) (h : r < V.heap.size) => hb.block r h
  have ZF3 : Hid (∀ s, x57.heap.size ≤ s → _) := Lib.hid (fun s h => ZF2.out s (Nat.le_trans hV.size (Nat.le_trans hsize h)))
  refine hK.out _ _ (Later x57) (Later x57) _ (fun r _ h => hkeep r trivial h) (fun _ h _ => h) (fun V' h => (hV.of hb).trans h) (fun _ h => h) (fun V' h => ZF3.out _ h.size) (Later.refl _) (closed_later _) ?_
  clear hK K hV hsize hkeep hV0 hb
  try simp only [pa, List.set]
  refine wt 58 95 ?_ (fun V hV => ?_) ?_
  rotate_left 1
  · (clear hV; go_simp; (try with_reducible rfl))
  try simp only [pa, List.set]
  refine wt 59 96 ?_ (fun V hV => ?_) ?_
  rotate_left 1
  · (clear hV; go_simp; (try with_reducible rfl))
  try simp only [pa, List.set]
  refine wt 60 97 ?_ (fun V hV => ?_) ?_
  rotate_left 1
  · (obtain ⟨cv, q0, q1, q2, q3, k0, k1, k2, k3, u1, v1, z1, m1, n1⟩ := HS.out V (HL3.out.trans hV); clear hV; go_simp; (try with_reducible rfl))
  try simp only [pa, List.set]
  refine walk_core 61 rfl (by kernel_rfl) (fun _ _ _ _ _ h => h) (fun V hV K hK => ?_)
  have hV0 := HL3.out.trans hV
  go_simp
  go_at_call 44
  refine (CY.out _ hV0).mono ?_
  rintro e x61 ⟨rfl, hb⟩
  have HT61 := Lib.hid (hV.of hb)
  have HL4 := Lib.hid (hV0.of hb)
  have hsize := hb.size
  have hkeep := fun (r : Nat) (_ : True) (h : r < V.heap.size) => hb.block r h
  have ZF4 : Hid (∀ s, x61.heap.size ≤ s → _) := Lib.hid (fun s h => ZF3.out s (Nat.le_trans hV.size (Nat.le_trans hsize h)))
  refine hK.out _ _ (Later x61) (Later x61) _ (fun r _ h => hkeep r trivial h) (fun _ h _ => h) (fun V' h => (hV.of hb).trans h) (fun _ h => h) (fun V' h => ZF4.out _ h.size) (Later.refl _) (closed_later _) ?_
  clear hK K hV hsize hkeep hV0 hb
  try simp only [pa, List.set]
  refine wt 62 99 ?_ (fun V hV => ?_) ?_
  rotate_left 1
  · (clear hV; go_simp; (try with_reducible rfl))
  try simp only [pa, List.set]
  refine wt 63 100 ?_ (fun V hV => ?_) ?_
  rotate_left 1
  · (clear hV; go_simp; (try with_reducible rfl))
  try simp only [pa, List.set]
  refine wt 64 101 ?_ (fun V hV => ?_) ?_
  rotate_left 1
  · (clear hV; go_simp; (try with_reducible rfl))
  try simp only [pa, List.set]
  refine walk_pend ⟨66, 103, (.cells #[.int .u64 1, .int .u64 2] 32), fun r => .slice (some ⟨r, 0, none⟩) 2 2⟩ ⟨_, rfl, rfl, rfl, fun W => ?_⟩ ?_
  · (go_simp; (try with_reducible rfl))
  refine walk_pend ⟨65, 102, (.cells #[.string ⟨#[109]⟩] 9), fun r => .slice (some ⟨r, 0, none⟩) 1 1⟩ ⟨_, rfl, rfl, rfl, fun W => ?_⟩ ?_
  · (go_simp; (try with_reducible rfl))
  refine walk_force (by kernel_rfl) (by kernel_rfl) (by kernel_rfl) (by kernel_rfl) (fun r65 x65 hV hr65 hB65 => ?_)
  have lt65 : r65 < x65.heap.size := (Array.getElem?_eq_some_iff.1 hr65).1
  have HL5 := Lib.hid (HL4.out.trans hV)
  have ZF5 : Hid (∀ s, x65.heap.size ≤ s → _ ∧ s ≠ r65) := Lib.hid (fun s h => ⟨ZF4.out s (Nat.le_trans hV.size h), Nat.ne_of_gt (Nat.lt_of_lt_of_le lt65 h)⟩)
  refine ⟨Later x65, Later x65, Later.refl _, fun V' h => hV.trans h, fun _ h => h, fun V' h => ZF4.out _ (Nat.le_trans hV.size h.size), fun V' h => Nat.lt_of_lt_of_le lt65 h.size, closed_later _, ?_⟩
  try simp only [pa, List.set]
  have HT65 := Lib.hid hV
  clear hV
  refine walk_force (by kernel_rfl) (by kernel_rfl) (by kernel_rfl) (by kernel_rfl) (fun r66 x66 hV hr66 hB66 => ?_)
  have lt66 : r66 < x66.heap.size := (Array.getElem?_eq_some_iff.1 hr66).1
  have HL6 := Lib.hid (HL5.out.trans hV)
  have ZF6 : Hid (∀ s, x66.heap.size ≤ s → _ ∧ s ≠ r66) := Lib.hid (fun s h => ⟨ZF5.out s (Nat.le_trans hV.size h), Nat.ne_of_gt (Nat.lt_of_lt_of_le lt66 h)⟩)
  refine ⟨Later x66, Later x66, Later.refl _, fun V' h => hV.trans h, fun _ h => h, fun V' h => ZF5.out _ (Nat.le_trans hV.size h.size), fun V' h => Nat.lt_of_lt_of_le lt66 h.size, closed_later _, ?_⟩
  try simp only [pa, List.set]
  have k65 := Lib.hid (Blk.below (show Blk x65 r65 9 #[.string ⟨#[109]⟩] from hr65) hV lt65)
  have CK := Lib.hid (kid_at k65.out (show Blk x66 r66 32 #[.int .u64 1, .int .u64 2] from hr66))
  have HT66 := Lib.hid hV
  clear hV
  refine wt 67 104 ?_ (fun V hV => ?_) ?_
  rotate_left 1
  · (clear hV; go_simp; (try with_reducible rfl))
  try simp only [pa, List.set]
  refine walk_core 68 rfl (by kernel_rfl) (fun _ _ _ _ _ h => h) (fun V hV K hK => ?_)
  have hV0 := HL6.out.trans hV
  go_simp
  go_at_call 48
  refine (CK.out _ hV).mono ?_
  rintro e x68 ⟨rfl, hb⟩
  have HT68 := Lib.hid (hV.of hb)
  have HL7 := Lib.hid (hV0.of hb)
  have hsize := hb.size
  have hkeep := fun (r : Nat) (_ : True) (h : r < V.heap.size) => hb.block r h
  have ZF7 : Hid (∀ s, x68.heap.size ≤ s → _) := Lib.hid (fun s h => ZF6.out s (Nat.le_trans hV.size (Nat.le_trans hsize h)))
  refine hK.out _ _ (Later x68) (Later x68) _ (fun r _ h => hkeep r trivial h) (fun _ h _ => h) (fun V' h => (hV.of hb).trans h) (fun _ h => h) (fun V' h => ZF7.out _ h.size) (Later.refl _) (closed_later _) ?_
  clear hK K hV hsize hkeep hV0 hb
  try simp only [pa, List.set]
  refine wt 69 106 ?_ (fun V hV => ?_) ?_
  rotate_left 1
  · (clear hV; go_simp; (try with_reducible rfl))
  try simp only [pa, List.set]
  refine wt 70 107 ?_ (fun V hV => ?_) ?_
  rotate_left 1
  · (clear hV; go_simp; (try with_reducible rfl))
  try simp only [pa, List.set]
  refine wt 71 0 ?_ (fun V hV => ?_) ?_
  rotate_left 1
  · (clear hV; go_simp; (try with_reducible rfl))
  try simp only [pa, List.set]
  refine walk_exit (fun V hV => wpAnyJ_done (by kernel_rfl) ?_ _)
  have hV0 := HL7.out.trans hV
  have HZ := Lib.hid (HB11.out.trans ((show Below _ _ _ from hV0).mono HB11.out.size))
  clear hV hV0
  go_wp2_with fail
  go_ret
  exact ⟨rfl, HZ.out⟩
end Go.Proofs.Ytlbikfamjogpnaa
end

/- A leaf's halves, in plain Lean: both may be, and each has few bytes if the leaf has. No program here. Conditions: the leaf may be. -/
section
namespace Go.Proofs.Ytlbikfamjogpnaa
open Go.RowKit Go.Proofs.YtlbikfamjogpnaaW.PrintWords Go.Proofs.Ytlbikfamjogpnaa.QPage

theorem leaf_shape {p : Pg} (h : goodB p = true) (hl : p.leaf = true) : p.vals.length = p.keys.length ∧ p.kids = [] := by
  unfold goodB shapeB at h
  rw [hl] at h
  simp only [Bool.and_eq_true, decide_eq_true_eq, if_true] at h
  exact ⟨h.2.2.2.1, List.eq_nil_of_length_eq_zero h.2.2.2.2⟩
section
variable {p : Pg} (hn : p.keys.length ≤ 60) (hl : p.vals.length = p.keys.length) (hk : ∀ s ∈ p.keys, 1 ≤ s.size ∧ s.size ≤ 40) (hv : ∀ s ∈ p.vals, s.size ≤ 400)
include hn hl hk hv
end
end Go.Proofs.Ytlbikfamjogpnaa
end

/- page.Split of a page that is too small, and PageKnown. Conditions: none. -/
section
namespace Go.Proofs.Ytlbikfamjogpnaa
open Go.RowKit Go.Proofs.YtlbikfamjogpnaaW.PrintWords Go.Proofs.Ytlbikfamjogpnaa.QPage
set_option linter.unusedVariables false
set_option linter.unusedSimpArgs false
section
variable {w : World} {A1 A2 A3 : Option Addr} {c1 c2 c3 : Nat} {lf : Bool} {ks vs : List ByteArray} {ns : List Int}
set_option maxRecDepth 100000 in
set_option maxHeartbeats 8000000 in
theorem split_small (h : (lf = true ∧ ks.length < 2) ∨ (lf = false ∧ ks.length < 3)) :
    Calls Try.prog 37 #[.agg #[.bool lf, .slice A1 ks.length c1, .slice A2 vs.length c2, .slice A3 ns.length c3]] w fun e w' => e = .returned (.tuple #[.agg #[.bool lf, .slice A1 ks.length c1, .slice A2 vs.length c2, .slice A3 ns.length c3], .string ByteArray.empty, .agg #[.bool false, .slice none 0 0, .slice none 0 0, .slice none 0 0]]) ∧ Below w.heap.size w w' := by
  generalize ks.length = n1 at *
  generalize vs.length = n2 at *
  generalize ns.length = n3 at *
  rcases h with ⟨rfl, h1⟩ | ⟨rfl, h1⟩
  · have g1 : decide ((n1 : Int) < 2) = true := decide_eq_true (by omega)
    have g2 : decide (n1 < 2) = true := decide_eq_true (by omega)
    clear h1
    go_enter Try.func37, Try.ntmps37
    go_wp2_with fail
    obtain ⟨W, hW⟩ : ∃ W, W = ((w.alloc (.cells #[.bool true, .slice A1 n1 c1, .slice A2 n2 c2, .slice A3 n3 c3] 67)).alloc (.cells #[.bool true, .slice A1 n1 c1, .slice A2 n2 c2, .slice A3 n3 c3] 67)).alloc (.cells #[.bool false, .slice none 0 0, .slice none 0 0, .slice none 0 0] 67) := ⟨_, rfl⟩
    rw [← hW]
    have k1 : Blk W (w.heap.size + 1) 67 #[.bool true, .slice A1 n1 c1, .slice A2 n2 c2, .slice A3 n3 c3] := by
      have := (Blk.new (w.alloc (.cells #[.bool true, .slice A1 n1 c1, .slice A2 n2 c2, .slice A3 n3 c3] 67)) 67 #[.bool true, .slice A1 n1 c1, .slice A2 n2 c2, .slice A3 n3 c3]).alloc (.cells #[.bool false, .slice none 0 0, .slice none 0 0, .slice none 0 0] 67)
      rw [← hW] at this
      simpa using this
    have k2 : Blk W (w.heap.size + 1 + 1) 67 #[.bool false, .slice none 0 0, .slice none 0 0, .slice none 0 0] := by
      have := Blk.new ((w.alloc (.cells #[.bool true, .slice A1 n1 c1, .slice A2 n2 c2, .slice A3 n3 c3] 67)).alloc (.cells #[.bool true, .slice A1 n1 c1, .slice A2 n2 c2, .slice A3 n3 c3] 67)) 67 #[.bool false, .slice none 0 0, .slice none 0 0, .slice none 0 0]
      rw [← hW] at this
      simpa using this
    have hb : Below w.heap.size w W := by rw [hW]; exact (((Below.refl _ _).alloc (Nat.le_refl _) _).alloc (by simp) _).alloc (by simp; omega) _
    exact bodyPost_ret_by (results_csc rfl _ _ (w.heap.size + 1) (w.heap.size + 1 + 1) 67 _ _ (0, 0) (0, 0) _ rfl rfl k1 k2 Try.underlying67 rfl (by kernel_rfl) (by kernel_rfl)) rfl ⟨rfl, hb⟩
  · have g1 : decide ((n1 : Int) < 3) = true := decide_eq_true (by omega)
    have g2 : decide (n1 < 3) = true := decide_eq_true (by omega)
    clear h1
    go_enter Try.func37, Try.ntmps37
    go_wp2_with fail
    obtain ⟨W, hW⟩ : ∃ W, W = ((w.alloc (.cells #[.bool false, .slice A1 n1 c1, .slice A2 n2 c2, .slice A3 n3 c3] 67)).alloc (.cells #[.bool false, .slice A1 n1 c1, .slice A2 n2 c2, .slice A3 n3 c3] 67)).alloc (.cells #[.bool false, .slice none 0 0, .slice none 0 0, .slice none 0 0] 67) := ⟨_, rfl⟩
    rw [← hW]
    have k1 : Blk W (w.heap.size + 1) 67 #[.bool false, .slice A1 n1 c1, .slice A2 n2 c2, .slice A3 n3 c3] := by
      have := (Blk.new (w.alloc (.cells #[.bool false, .slice A1 n1 c1, .slice A2 n2 c2, .slice A3 n3 c3] 67)) 67 #[.bool false, .slice A1 n1 c1, .slice A2 n2 c2, .slice A3 n3 c3]).alloc (.cells #[.bool false, .slice none 0 0, .slice none 0 0, .slice none 0 0] 67)
      rw [← hW] at this
      simpa using this
    have k2 : Blk W (w.heap.size + 1 + 1) 67 #[.bool false, .slice none 0 0, .slice none 0 0, .slice none 0 0] := by
      have := Blk.new ((w.alloc (.cells #[.bool false, .slice A1 n1 c1, .slice A2 n2 c2, .slice A3 n3 c3] 67)).alloc (.cells #[.bool false, .slice A1 n1 c1, .slice A2 n2 c2, .slice A3 n3 c3] 67)) 67 #[.bool false, .slice none 0 0, .slice none 0 0, .slice none 0 0]
      rw [← hW] at this
      simpa using this
    have hb : Below w.heap.size w W := by rw [hW]; exact (((Below.refl _ _).alloc (Nat.le_refl _) _).alloc (by simp) _).alloc (by simp; omega) _
    exact bodyPost_ret_by (results_csc rfl _ _ (w.heap.size + 1) (w.heap.size + 1 + 1) 67 _ _ (0, 0) (0, 0) _ rfl rfl k1 k2 Try.underlying67 rfl (by kernel_rfl) (by kernel_rfl)) rfl ⟨rfl, hb⟩
end
end Go.Proofs.Ytlbikfamjogpnaa
end

/- A page that reads still reads when another page's own block is written. Conditions: none. -/
section
namespace Go.Proofs.Ytlbikfamjogpnaa
open Go.RowKit Go.Proofs.YtlbikfamjogpnaaW.PrintWords Go.Proofs.Ytlbikfamjogpnaa.QPage
set_option linter.unusedVariables false
set_option linter.unusedSimpArgs false

theorem C_set_far {α : Type} {enc : α → Value} {h1 : ∀ x, (enc x).oneCell' = true} {w : World} {A : Option Addr} {l : List α} {g i : Nat} {t : TypeId} {cs : Array Value} {u : Value} (h : Kd.C (Kd.scalar enc h1) w A l.length l) (hb : Blk w g t cs) (hne : ∀ (x : α) (j : Nat), cs[j]? ≠ some (enc x)) :
    Kd.C (Kd.scalar enc h1) (w.setCell ⟨g, i, none⟩ u) A l.length l := by
  have hr := reads_of_C h
  refine C_of_reads (B := w.heap.size) ⟨hr.1, fun h0 => ?_⟩ h.2.1
  obtain ⟨ad, e, hlt, hc⟩ := hr.2 h0
  refine ⟨ad, e, hlt, fun j v hv => ?_⟩
  have h2 := hc j v hv
  have hbn : g ≠ (ad.add j).block := fun he => by
    obtain ⟨x, rfl⟩ : ∃ x, v = enc x := by
      rw [List.getElem?_map] at hv
      obtain ⟨x, _, rfl⟩ := Option.map_eq_some_iff.1 hv
      exact ⟨x, rfl⟩
    have h3 := hb.cell (ad.add j).off
    have hsp : (ad.add j).spot = none := by
      unfold World.cell? at h2
      split at h2
      · split at h2
        · cases h2
        · rename_i h; simpa using h
      · cases h2
    rw [show (⟨g, (ad.add j).off, none⟩ : Addr) = ad.add j by rw [he]; generalize ad.add j = a at *; cases a; simp at hsp; simp [hsp], h2] at h3
    exact hne x _ h3.symm
  rw [World.cell?_setCell_far w ⟨g, i, none⟩ _ _ hbn]
  exact h2

/-- No cell of the block is a text or a number. -/
def Plain4 (cs : Array Value) : Prop := ∃ b A1 n1 c1 A2 n2 c2 A3 n3 c3, cs = #[.bool b, .slice A1 n1 c1, .slice A2 n2 c2, .slice A3 n3 c3]
theorem Plain4.str {cs : Array Value} (h : Plain4 cs) (x : ByteArray) (j : Nat) : cs[j]? ≠ some (.string x) := by
  obtain ⟨b, A1, n1, c1, A2, n2, c2, A3, n3, c3, rfl⟩ := h
  match j with
  | 0 => simp
  | 1 => simp
  | 2 => simp
  | 3 => simp
  | j + 4 => simp
theorem Plain4.num {cs : Array Value} (h : Plain4 cs) (x : Int) (j : Nat) : cs[j]? ≠ some (.int .u64 x) := by
  obtain ⟨b, A1, n1, c1, A2, n2, c2, A3, n3, c3, rfl⟩ := h
  match j with
  | 0 => simp
  | 1 => simp
  | 2 => simp
  | 3 => simp
  | j + 4 => simp
section
variable {w : World} {A1 A2 A3 : Option Addr} {c1 c2 c3 : Nat} {p : Pg} {g : Nat} {t : TypeId}
theorem PgR.set1 (h : PgR w A1 c1 A2 c2 A3 c3 p) {cs : Array Value} (hb : Blk w g t cs) (hp : Plain4 cs) (i : Nat) (u : Value) : PgR (w.setCell ⟨g, i, none⟩ u) A1 c1 A2 c2 A3 c3 p :=
  ⟨C_set_far (h1 := fun _ => rfl) h.k hb (hp.str), h.kc, C_set_far (h1 := fun _ => rfl) h.v hb (hp.str), h.vc, C_set_far (h1 := fun _ => rfl) h.n hb (hp.num), h.nc⟩
theorem PgR.set4 (h : PgR w A1 c1 A2 c2 A3 c3 p) {b b' : Bool} {D1 D2 D3 E1 E2 E3 : Option Addr} {n1 n2 n3 m1 m2 m3 d1 d2 d3 e1 e2 e3 : Nat} (hb : Blk w g t #[.bool b, .slice D1 n1 d1, .slice D2 n2 d2, .slice D3 n3 d3]) :
    PgR ((((w.setCell ⟨g, 0, none⟩ (.bool b')).setCell ⟨g, 1, none⟩ (.slice E1 m1 e1)).setCell ⟨g, 2, none⟩ (.slice E2 m2 e2)).setCell ⟨g, 3, none⟩ (.slice E3 m3 e3)) A1 c1 A2 c2 A3 c3 p :=
  (((h.set1 hb ⟨_, _, _, _, _, _, _, _, _, _, rfl⟩ 0 _).set1 (hb.set_ 0 (.bool b')) ⟨_, _, _, _, _, _, _, _, _, _, rfl⟩ 1 _).set1 ((hb.set_ 0 (.bool b')).set_ 1 (.slice E1 m1 e1)) ⟨_, _, _, _, _, _, _, _, _, _, rfl⟩ 2 _).set1 (((hb.set_ 0 (.bool b')).set_ 1 (.slice E1 m1 e1)).set_ 2 (.slice E2 m2 e2)) ⟨_, _, _, _, _, _, _, _, _, _, rfl⟩ 3 _
end
end Go.Proofs.Ytlbikfamjogpnaa
end

/- PageSplits. Conditions: the page reads in memory. -/
section
namespace Go.Proofs.Ytlbikfamjogpnaa
open Go.RowKit Go.Proofs.YtlbikfamjogpnaaW.PrintWords Go.Proofs.Ytlbikfamjogpnaa.QPage
set_option linter.unusedVariables false
set_option linter.unusedSimpArgs false
section
variable {w : World} {A1 A2 A3 : Option Addr} {c1 c2 c3 : Nat} {lf : Bool} {ks vs : List ByteArray} {ns : List Int}

/-- A page in its own block. -/
def PgBox (w : World) (g : Nat) (p : Pg) : Prop := ∃ A1 c1 A2 c2 A3 c3, Blk w g 67 #[.bool p.leaf, .slice A1 p.keys.length c1, .slice A2 p.vals.length c2, .slice A3 p.kids.length c3] ∧ PgR w A1 c1 A2 c2 A3 c3 p
theorem PgBox.below {w w' : World} {g : Nat} {p : Pg} (h : PgBox w g p) (hb : Below w.heap.size w w') : PgBox w' g p := by
  obtain ⟨A1, c1, A2, c2, A3, c3, h1, h2⟩ := h
  exact ⟨A1, c1, A2, c2, A3, c3, h1.below hb h1.lt, h2.below hb⟩
theorem strs_all {l : List ByteArray} {w : World} {A : Option Addr} (h : Kd.C Kd.string w A l.length l) (h0 : 0 < l.length) : ∃ b o, A = some ⟨b, o, none⟩ ∧ ∀ i, i < l.length → ∀ w', Below w.heap.size w w' → w'.cell? ⟨b, o + i, none⟩ = some (.string (l.getD i ByteArray.empty)) := by
  obtain ⟨ad, rfl, hc0⟩ := str_at h h0
  have hsp : ad.spot = none := by
    have h0 := hc0 w (Below.refl _ _)
    rw [show ad.add 0 = ad by simp [Addr.add]] at h0
    unfold World.cell? at h0
    split at h0
    · split at h0
      · cases h0
      · rename_i h; simpa using h
    · cases h0
  obtain ⟨b, o, s⟩ := ad
  simp only at hsp
  subst hsp
  refine ⟨b, o, rfl, fun i hi w' hb => ?_⟩
  obtain ⟨ad', he, hc⟩ := str_at h hi
  obtain rfl : (⟨b, o, none⟩ : Addr) = ad' := by simpa using he
  have := hc w' hb
  unfold Addr.add at this
  split at this
  · rename_i h; subst h; exact this
  · exact this
end
end Go.Proofs.Ytlbikfamjogpnaa
end
