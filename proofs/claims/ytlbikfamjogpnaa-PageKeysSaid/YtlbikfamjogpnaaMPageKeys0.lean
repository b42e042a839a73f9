/- The texts of this proof, joined: contracts of the functions that the law reaches, and what they come to in plain Lean. Conditions: those that each theorem names. -/
import Derived.WalkKit
import Derived.WalkSpells
import Derived.Maps.AppendAt
import Derived.Deep.AppendLies
import Derived.Deep.Draws
import Derived.Laws.Rows
import Derived.Lib.Hide
import Derived.Test.YtlbikfamjogpnaaRows
import Derived.Test.YtlbikfamjogpnaaWWords
import Derived.Deep.LoopGhost
import Derived.RegionTactic
import Derived.Shelf.Abstract
import Derived.Test.YtlbikfamjogpnaaWMore
import Derived.Ground.Names2Prog
import Derived.Shelf.Spec.SlicesInsert
import Derived.Shelf.Spec.SlicesInsertGrow
import Derived.Shelf.Slices.Delete
import Derived.Shelf.Slices.Cells

/- Words for memory: a slice that reads as a list, a block that is known whole, append onto a row of one's own, worlds that keep all blocks but a few. No program here. Conditions: none. -/
section
namespace Go.Proofs.Ytlbikfamjogpnaa
open Go.RowKit

theorem block_of_add (a : Addr) (n : Nat) : (a.add n).block = a.block := by unfold Addr.add; split <;> rfl
theorem add_of_add (a : Addr) (i j : Nat) : (a.add i).add j = a.add (i + j) := by
  unfold Addr.add
  by_cases hi : i = 0 <;> by_cases hj : j = 0 <;> simp [hi, hj, Nat.add_assoc]

def Reads (w : World) (B size : Nat) (A : Option Addr) (n : Nat) (xs : List Value) : Prop :=
  xs.length = n * size ∧ (0 < n → ∃ ad, A = some ad ∧ ad.block < B ∧ ∀ j u, xs[j]? = some u → w.cell? (ad.add j) = some u)

section
variable {w w' : World} {B B' size n : Nat} {A : Option Addr} {xs : List Value}
theorem Reads.none_ : Reads w B size A 0 [] := ⟨by simp, fun h => absurd h (by omega)⟩
theorem Reads.at_ {k : Nat} (h : Reads w B 1 A n xs) (hk : k < n) : ∃ ad u, A = some ad ∧ ad.block < B ∧ xs[k]? = some u ∧ w.cell? (ad.add k) = some u := by
  obtain ⟨ad, e, hb, hc⟩ := h.2 (by omega)
  have hl : k < xs.length := by have := h.1; omega
  exact ⟨ad, xs[k], e, hb, List.getElem?_eq_getElem hl, hc k _ (List.getElem?_eq_getElem hl)⟩
theorem Reads.keep (h : Reads w B size A n xs) (hk : ∀ p : Addr, p.block < B → w'.cell? p = w.cell? p) : Reads w' B size A n xs :=
  ⟨h.1, fun hn => by
    obtain ⟨ad, e, hb, hc⟩ := h.2 hn
    exact ⟨ad, e, hb, fun j u hu => (hk _ (by rw [block_of_add]; exact hb)).trans (hc j u hu)⟩⟩
theorem Reads.more (h : Reads w B size A n xs) (hB : B ≤ B') : Reads w B' size A n xs :=
  ⟨h.1, fun hn => by
    obtain ⟨ad, e, hb, hc⟩ := h.2 hn
    exact ⟨ad, e, by omega, hc⟩⟩
theorem Reads.below (h : Reads w B size A n xs) (hb : Below B w w') : Reads w' B size A n xs := h.keep fun _ hp => hb.cell hp
theorem Reads.drew (h : Reads w B size A n xs) : Reads w.drew B size A n xs := h
theorem Reads.drewN (h : Reads w B size A n xs) (k : Nat) : Reads (w.drewN k) B size A n xs := h
theorem Reads.alloc (h : Reads w B size A n xs) (hB : B ≤ w.heap.size) (o : Obj) : Reads (w.alloc o) B size A n xs := h.keep fun p hp => World.cell?_alloc_lt w o p (by omega)
theorem Reads.setCell (h : Reads w B size A n xs) {p : Addr} (hB : B ≤ p.block) (u : Value) : Reads (w.setCell p u) B size A n xs :=
  h.keep fun q hq => World.cell?_setCell_other w p q u (fun e => by subst e; omega)
theorem Reads.grown (h : Reads w B size A n xs) {row : Option Nat} (hg : w.grownBy w' row) (hB : B ≤ w.heap.size) (hr : ∀ g, row = some g → B ≤ g) : Reads w' B size A n xs :=
  h.keep fun p hp => World.cell?_of_block (hg.block p.block (by omega) (fun e => by have := hr _ e.symm; omega))
theorem Reads.cut (h : Reads w B size A n xs) {k cap : Nat} (hk : k ≤ n) (hc : n ≤ cap) :
    Reads w B size (if cap = k then A else A.map (·.add (k * size))) (n - k) (xs.drop (k * size)) := by
  refine ⟨by rw [List.length_drop, h.1, Nat.sub_mul], fun hn => ?_⟩
  obtain ⟨ad, rfl, hb, hcell⟩ := h.2 (by omega)
  rw [if_neg (by omega)]
  refine ⟨ad.add (k * size), rfl, by rw [block_of_add]; exact hb, fun j u hu => ?_⟩
  rw [add_of_add]
  exact hcell _ u (by rw [← hu, List.getElem?_drop])
theorem Reads.take_ (h : Reads w B 1 A n xs) {k : Nat} (hk : k ≤ n) : Reads w B 1 A k (xs.take k) := by
  refine ⟨by rw [List.length_take, h.1]; omega, fun hp => ?_⟩
  obtain ⟨ad, e, hb, hc⟩ := h.2 (by omega)
  exact ⟨ad, e, hb, fun j u hu => hc j u (by rw [List.getElem?_take] at hu; split at hu <;> first | exact hu | cases hu)⟩
theorem Reads.of_own {base : Nat} {e : TypeId} {c : Nat} (h : w.ownsRow base e size (.slice A n c) n xs) : Reads w w.heap.size size A n xs := by
  refine ⟨h.1, fun hn => ?_⟩
  obtain ⟨g, cap, hv, _, hlt⟩ := h.form hn
  have hA : A = some ⟨g, 0, none⟩ := by injection hv
  subst hA
  exact ⟨_, rfl, hlt, h.cells (g := g) rfl⟩
end

def Blk (w : World) (g : Nat) (t : TypeId) (cs : Array Value) : Prop := w.heap[g]? = some (.cells cs t (0, 0))

section
variable {w w' : World} {g : Nat} {t : TypeId} {cs : Array Value}
theorem Blk.lt (h : Blk w g t cs) : g < w.heap.size := by
  rcases Nat.lt_or_ge g w.heap.size with hlt | hge
  · exact hlt
  · unfold Blk at h; rw [Array.getElem?_eq_none hge] at h; cases h
theorem Blk.cell (h : Blk w g t cs) (i : Nat) : w.cell? ⟨g, i, none⟩ = cs[i]? := cell_of_row w g i cs t (0, 0) h
theorem Blk.frozen (h : Blk w g t cs) (i : Nat) : w.frozen? ⟨g, i, none⟩ = false := by
  unfold Blk at h
  simp [World.frozen?, h]
theorem Blk.new (w : World) (t : TypeId) (cs : Array Value) : Blk (w.alloc (.cells cs t)) w.heap.size t cs := heap_alloc_new w _
theorem Blk.drew (h : Blk w g t cs) : Blk w.drew g t cs := h
theorem Blk.drewN (h : Blk w g t cs) (n : Nat) : Blk (w.drewN n) g t cs := h
theorem Blk.alloc (h : Blk w g t cs) (o : Obj) : Blk (w.alloc o) g t cs := (Below.heap_alloc w o g h.lt).trans h
theorem Blk.set_ (h : Blk w g t cs) (i : Nat) (u : Value) : Blk (w.setCell ⟨g, i, none⟩ u) g t (cs.setIfInBounds i u) := by
  unfold Blk at h ⊢
  simp [World.setCell, Array.getElem?_modify, h]
theorem Blk.far (h : Blk w g t cs) {p : Addr} (hp : g ≠ p.block) (u : Value) : Blk (w.setCell p u) g t cs := (Below.heap_setCell w p u g hp).trans h
theorem Blk.below {B : Nat} (h : Blk w g t cs) (hb : Below B w w') (hg : g < B) : Blk w' g t cs := (hb.block g hg).trans h
theorem Blk.grown {row : Option Nat} (h : Blk w g t cs) (hb : w.grownBy w' row) (hg : some g ≠ row) : Blk w' g t cs := (hb.block g h.lt hg).trans h
theorem Blk.ne_ {g' : Nat} {t' : TypeId} {cs' : Array Value} (h : Blk w g t cs) (h' : Blk w g' t' cs') (hne : t ≠ t') : g ≠ g' := by
  rintro rfl
  unfold Blk at h h'
  rw [h] at h'
  injection h' with h'
  injection h' with _ ht
  exact hne ht
theorem own_blk_ne {base : Nat} {e : TypeId} {size n : Nat} {v : Value} {xs : List Value} (h : w.ownsRow base e size v n xs) (hg : Blk w g t cs) (hne : e ≠ t) : v.ownBlock ≠ some g := by
  rcases h.2 with ⟨rfl, _⟩ | ⟨g', cap, cur, rfl, _, hh, _⟩
  · simp [Value.ownBlock]
  · intro he
    have : g' = g := by simpa [Value.ownBlock] using he
    subst this
    exact Blk.ne_ (t := e) hh hg hne rfl
end

section
variable {P : Program} (w : World)

theorem run_append_of_nil (base : Nat) (t ty e : TypeId) (i : TypeInfo) (size : Nat) (ht : P.underlying t = some (.slice e)) (hi : P.info? e = some i)
    (v : Value) (n : Nat) (xs : List Value) (hown : w.ownsRow base e size v n xs) (c : Nat) : (Builtin.append_ #[t, t] ty #[v, .slice none 0 c]).run P w = .ok v w := by
  rcases hown.2 with ⟨rfl, rfl⟩ | ⟨g, cap, cur, rfl, _, _, hnc, _⟩
  · simp [Builtin.append_, run_underlying ht, sizeOf, typeInfo, hi, Builtin.lenOf, Builtin.firstCells]
  · simp [Builtin.append_, run_underlying ht, sizeOf, typeInfo, hi, Builtin.lenOf, Builtin.firstCells, hnc, storeCells]

theorem run_append_any (base : Nat) (t ty e : TypeId) (i : TypeInfo) (z : Value) (size bytes : Nat) (ht : P.underlying t = some (.slice e)) (hi : P.info? e = some i) (hz : i.zero = some z)
    (hsize : i.size = size) (hby : i.bytes = bytes) (hzs : z.cells.size = size) (hsz : 0 < size)
    (v : Value) (n : Nat) (xs : List Value) (hown : w.ownsRow base e size v n xs)
    (B : Nat) (A : Option Addr) (m c : Nat) (news : List Value) (hr : Reads w B size A m news) (h1 : ∀ u ∈ news, u.oneCell' = true)
    (h63 : n + m ≤ maxLen) (hbytes : (n + m) * bytes ≤ 140737488355328) (hbase : base ≤ w.heap.size) :
    ∃ v' w', (Builtin.append_ #[t, t] ty #[v, .slice A m c]).run P w = .ok v' w' ∧ w'.ownsRow base e size v' (n + m) (xs ++ news) ∧ w.grownBy w' v.ownBlock ∧
      (v'.ownBlock = v.ownBlock ∨ v'.ownBlock = some w.heap.size) := by
  rcases A with _ | ad
  · have hm : m = 0 := by
      rcases Nat.eq_zero_or_pos m with h0 | h0
      · exact h0
      · obtain ⟨ad, h, _⟩ := hr.2 h0
        cases h
    subst hm
    have hn : news = [] := List.eq_nil_of_length_eq_zero (by simpa using hr.1)
    subst hn
    exact ⟨v, w, run_append_of_nil w base t ty e i size ht hi v n xs hown c, by simpa using hown, World.grownBy.refl w _, .inl rfl⟩
  · have hcells : ∀ j u, news[j]? = some u → w.cell? (ad.add j) = some u := by
      intro j u hu
      rcases Nat.eq_zero_or_pos m with h0 | h0
      · subst h0
        have hn : news = [] := List.eq_nil_of_length_eq_zero (by simpa using hr.1)
        subst hn
        simp at hu
      · obtain ⟨ad', h, _, hc⟩ := hr.2 h0
        injection h with h
        subst h
        exact hc j u hu
    obtain ⟨v', w', hrun, h2, h3, _, h5⟩ := run_append_own_at (P := P) w base t ty e i z size bytes ht hi hz hsize hby hzs hsz v n xs hown ad m c news hr.1 hcells h1 h63 hbytes hbase
    exact ⟨v', w', hrun, h2, h3, h5⟩

theorem wp_append_any {o : Oper} {a : Act} {K : Act → World → Prop} {Q : Exit → Act → World → Prop} (s x : Operand) (t : TypeId)
    (ho : o.op = .call { callee := .builtin .append, args := #[s, x], argTypes := #[t, t] })
    (base : Nat) (e : TypeId) (i : TypeInfo) (z : Value) (size bytes : Nat) (ht : P.underlying t = some (.slice e)) (hi : P.info? e = some i) (hz : i.zero = some z)
    (hsize : i.size = size) (hby : i.bytes = bytes) (hzs : z.cells.size = size) (hsz : 0 < size)
    (v : Value) (n : Nat) (xs : List Value) (hs : a.eval s = v) (hown : w.ownsRow base e size v n xs)
    (B : Nat) (A : Option Addr) (m c : Nat) (news : List Value) (hx : a.eval x = .slice A m c) (hr : Reads w B size A m news) (h1 : ∀ u ∈ news, u.oneCell' = true)
    (h63 : n + m ≤ maxLen) (hbytes : (n + m) * bytes ≤ 140737488355328) (hbase : base ≤ w.heap.size)
    (h : ∀ v' w', w'.ownsRow base e size v' (n + m) (xs ++ news) → w.grownBy w' v.ownBlock → (v'.ownBlock = v.ownBlock ∨ v'.ownBlock = some w.heap.size) → K (a.put o.dst v') w') : o.wp P a w K Q := by
  obtain ⟨v', w', hrun, h2, h3, h4⟩ := run_append_any (P := P) w base t o.type e i z size bytes ht hi hz hsize hby hzs hsz v n xs hown B A m c news hr h1 h63 hbytes hbase
  unfold Oper.wp execOp
  simp only [ho, resolve, invoke, builtin, Sem.run_bind, Sem.run_pure, Result.andThen_ok, List.map_toArray, List.map_cons, List.map_nil, hs, hx, hrun]
  exact h v' w' h2 h3 h4

theorem wpList_append_any {ops : Array Oper} {rest : List Oper} {o : Oper} {a : Act} {Q : Exit → Act → World → Prop} (hgd : o.guard = none) (s x : Operand) (t : TypeId)
    (ho : o.op = .call { callee := .builtin .append, args := #[s, x], argTypes := #[t, t] })
    (base : Nat) (e : TypeId) (i : TypeInfo) (z : Value) (size bytes : Nat) (ht : P.underlying t = some (.slice e)) (hi : P.info? e = some i) (hz : i.zero = some z)
    (hsize : i.size = size) (hby : i.bytes = bytes) (hzs : z.cells.size = size) (hsz : 0 < size)
    (v : Value) (n : Nat) (xs : List Value) (hs : a.eval s = v) (hown : w.ownsRow base e size v n xs)
    (B : Nat) (A : Option Addr) (m c : Nat) (news : List Value) (hx : a.eval x = .slice A m c) (hr : Reads w B size A m news) (h1 : ∀ u ∈ news, u.oneCell' = true)
    (h63 : n + m ≤ maxLen) (hbytes : (n + m) * bytes ≤ 140737488355328) (hbase : base ≤ w.heap.size)
    (h : ∀ v' w', w'.ownsRow base e size v' (n + m) (xs ++ news) → w.grownBy w' v.ownBlock → (v'.ownBlock = v.ownBlock ∨ v'.ownBlock = some w.heap.size) → wpList P ops Q rest (a.put o.dst v') w') : wpList P ops Q (o :: rest) a w :=
  wpList_plain hgd fun _ hK => wp_append_any w s x t ho base e i z size bytes ht hi hz hsize hby hzs hsz v n xs hs hown B A m c news hx hr h1 h63 hbytes hbase fun v' w' h2 h3 h4 => hK _ _ (h v' w' h2 h3 h4)
theorem step_append_any {ops : Array Oper} {o : Oper} {a : Act} {K : Act → World → Prop} {Q : Exit → Act → World → Prop} {E : Prop} (hgd : o.guard = none) (s x : Operand) (t : TypeId)
    (ho : o.op = .call { callee := .builtin .append, args := #[s, x], argTypes := #[t, t] })
    (base : Nat) (e : TypeId) (i : TypeInfo) (z : Value) (size bytes : Nat) (ht : P.underlying t = some (.slice e)) (hi : P.info? e = some i) (hz : i.zero = some z)
    (hsize : i.size = size) (hby : i.bytes = bytes) (hzs : z.cells.size = size) (hsz : 0 < size)
    (v : Value) (n : Nat) (xs : List Value) (hs : a.eval s = v) (hown : w.ownsRow base e size v n xs)
    (B : Nat) (A : Option Addr) (m c : Nat) (news : List Value) (hx : a.eval x = .slice A m c) (hr : Reads w B size A m news) (h1 : ∀ u ∈ news, u.oneCell' = true)
    (h63 : n + m ≤ maxLen) (hbytes : (n + m) * bytes ≤ 140737488355328) (hbase : base ≤ w.heap.size)
    (h : ∀ v' w', w'.ownsRow base e size v' (n + m) (xs ++ news) → w.grownBy w' v.ownBlock → (v'.ownBlock = v.ownBlock ∨ v'.ownBlock = some w.heap.size) → K (a.put o.dst v') w') :
    if Region.wanted o (yielded ops a.tmps) = true then Oper.wp P o a w K Q else E := by
  have hw : Region.wanted o (yielded ops a.tmps) = true := by simp [Region.wanted, hgd]
  rw [if_pos hw]
  exact wp_append_any w s x t ho base e i z size bytes ht hi hz hsize hby hzs hsz v n xs hs hown B A m c news hx hr h1 h63 hbytes hbase h
end

/-- An owned row that is no nil, written out. -/
theorem own_form {w : World} {base size n : Nat} {e : TypeId} {v : Value} {xs : List Value} (h : w.ownsRow base e size v n xs) {k : Nat} (hk : v.ownBlock = some k) :
    ∃ c, v = .slice (some ⟨k, 0, none⟩) n c ∧ n ≤ c ∧ base ≤ k ∧ k < w.heap.size := by
  have hl := h.lt k hk
  rcases h.2 with ⟨rfl, _⟩ | ⟨g, cap, cur, rfl, _, _, hnc, _⟩
  · simp [Value.ownBlock] at hk
  · have : g = k := by simpa [Value.ownBlock] using hk
    subst this
    exact ⟨cap, rfl, hnc, hl⟩

/-- An owned row's value is a slice. -/
theorem own_shape {w : World} {base size n : Nat} {e : TypeId} {v : Value} {xs : List Value} (h : w.ownsRow base e size v n xs) : ∃ A c, v = .slice A n c := by
  rcases h.2 with ⟨rfl, rfl⟩ | ⟨g, cap, cur, rfl, _⟩
  · exact ⟨none, 0, rfl⟩
  · exact ⟨some ⟨g, 0, none⟩, cap, rfl⟩

/-- An owned row stays while another block is written. -/
theorem own_far {w : World} {base size n : Nat} {e : TypeId} {v : Value} {xs : List Value} (h : w.ownsRow base e size v n xs) {p : Addr} (hp : v.ownBlock ≠ some p.block) (u : Value) : (w.setCell p u).ownsRow base e size v n xs := by
  obtain ⟨h1, h2⟩ := h
  refine ⟨h1, ?_⟩
  rcases h2 with h2 | ⟨g, cap, cur, hv, hg, hh, r⟩
  · exact .inl h2
  · refine .inr ⟨g, cap, cur, hv, hg, ?_, r⟩
    rw [Below.heap_setCell _ _ _ _ (by rintro rfl; exact hp (by rw [hv]; rfl))]
    exact hh

/-- A byte as a cell. -/
def byt (b : UInt8) : Value := .int .u8 (b.toNat : Int)
theorem byt_one (l : List UInt8) : ∀ u ∈ l.map byt, u.oneCell' = true := by
  intro u hu
  obtain ⟨b, _, rfl⟩ := List.mem_map.1 hu
  rfl

end Go.Proofs.Ytlbikfamjogpnaa
end

/- slices.Clone at []byte, []string and []uint64, told as the printed texts tell calls: a row that reads comes back as a new row of the call's own. Conditions: the row reads; it fits the reach. -/
section
namespace Go.Proofs.Ytlbikfamjogpnaa
open Go.RowKit Go.Proofs.YtlbikfamjogpnaaW.PrintWords

theorem cinfo_u8 : (Try.prog.info? 5).map (fun i => (i.zero, i.size, i.bytes)) = some (some (.int .u8 0), 1, 1) := by kernel_rfl
theorem cinfo_str : (Try.prog.info? 9).map (fun i => (i.zero, i.size, i.bytes)) = some (some (.string ⟨#[]⟩), 1, 16) := by kernel_rfl
theorem cinfo_u64 : (Try.prog.info? 32).map (fun i => (i.zero, i.size, i.bytes)) = some (some (.int .u64 0), 1, 8) := by kernel_rfl

theorem bytes_nle (a : List UInt8) : ∀ b, (Op.bytesLess a b || a == b) = !(Op.bytesLess b a) := by
  induction a with
  | nil => intro b; cases b <;> simp [Op.bytesLess]
  | cons x a ih =>
    intro b
    cases b with
    | nil => simp [Op.bytesLess]
    | cons y b =>
      have h := ih b
      have e : (x :: a == y :: b) = ((x == y) && (a == b)) := rfl
      rw [e]
      simp only [Op.bytesLess]
      rcases Nat.lt_trichotomy x.toNat y.toNat with h1 | h1 | h1
      · have a1 : x < y := h1
        have a2 : ¬ y < x := fun h2 => by have : y.toNat < x.toNat := h2; omega
        have a3 : x ≠ y := fun e => by subst e; omega
        simp [a1, a2, Ne.symm a3]
      · have a3 : x = y := UInt8.toNat_inj.1 h1
        subst a3
        have a1 : ¬ x < x := fun h2 => by have : x.toNat < x.toNat := h2; omega
        simpa [a1] using h
      · have a1 : y < x := h1
        have a2 : ¬ x < y := fun h2 => by have : x.toNat < y.toNat := h2; omega
        have a3 : x ≠ y := fun e => by subst e; omega
        simp [a1, a2, a3]
@[go_sem] theorem string_leq (t : TypeId) (a b : ByteArray) : binOp .leq t (.string a) (.string b) = pure (.bool !(Op.bytesLess b.toList a.toList)) := by rw [← bytes_nle]; simp [binOp, Op.stringOp]
@[go_sem] theorem string_gtr (t : TypeId) (a b : ByteArray) : binOp .gtr t (.string a) (.string b) = pure (.bool (Op.bytesLess b.toList a.toList)) := by
  have h := bytes_nle a.toList b.toList
  have e : Op.bytesLess b.toList a.toList = !(Op.bytesLess a.toList b.toList || a.toList == b.toList) := by rw [h]; simp
  rw [e]; simp [binOp, Op.stringOp]
@[go_sem] theorem string_geq (t : TypeId) (a b : ByteArray) : binOp .geq t (.string a) (.string b) = pure (.bool !(Op.bytesLess a.toList b.toList)) := by simp [binOp, Op.stringOp]

/-- A row of one cell an element that reads. -/
theorem reads_of_C {α : Type} {enc : α → Value} {h1 : ∀ x, (enc x).oneCell' = true} {w : World} {A : Option Addr} {n : Nat} {l : List α} (h : Kd.C (Kd.scalar enc h1) w A n l) : Reads w w.heap.size 1 A n (l.map enc) := by
  obtain ⟨hl, _, hc⟩ := h
  refine ⟨by rw [List.length_map, hl, Nat.mul_one], fun hn => ?_⟩
  obtain ⟨ad, rfl, hr⟩ := hc hn
  have hcell : ∀ j u, (l.map enc)[j]? = some u → w.cell? (ad.add j) = some u := by
    intro j u hu
    rw [List.getElem?_map, Option.map_eq_some_iff] at hu
    obtain ⟨p, hp, rfl⟩ := hu
    obtain ⟨c, _, hR, hcc⟩ := hr j p hp
    have hR' : c = [enc p] := hR
    subst hR'
    have := hcc 0 (enc p) rfl
    have e : j * (Kd.scalar enc h1).sz + 0 = j := by show j * 1 + 0 = j; omega
    rw [e] at this
    exact this
  refine ⟨ad, rfl, ?_, hcell⟩
  have h0 := hcell 0 (enc (l[0]'(by omega))) (by rw [List.getElem?_map, List.getElem?_eq_getElem (by omega)]; rfl)
  have := World.block_lt_of_cell? _ _ h0
  rwa [block_of_add] at this

theorem C_of_reads {α : Type} {enc : α → Value} {h1 : ∀ x, (enc x).oneCell' = true} {w : World} {B : Nat} {A : Option Addr} {n : Nat} {l : List α} (h : Reads w B 1 A n (l.map enc)) (hm : n ≤ 9223372036854775807) : Kd.C (Kd.scalar enc h1) w A n l := by
  obtain ⟨hl, hc⟩ := h
  refine ⟨by rw [List.length_map, Nat.mul_one] at hl; exact hl, hm, fun hn => ?_⟩
  obtain ⟨ad, rfl, _, hcell⟩ := hc hn
  refine ⟨ad, rfl, fun j p hp => ⟨[enc p], rfl, rfl, fun i u hu => ?_⟩⟩
  have e : i = 0 := by
    have := (List.getElem?_eq_some_iff.1 hu).1
    simpa using this
  subst e
  have hu' : enc p = u := by simpa using hu
  subst hu'
  have := hcell j (enc p) (by rw [List.getElem?_map, hp]; rfl)
  have e : j * (Kd.scalar enc h1).sz + 0 = j := by show j * 1 + 0 = j; omega
  rw [e]
  exact this

theorem R_of_own {α : Type} {enc : α → Value} {h1 : ∀ x, (enc x).oneCell' = true} {w : World} {base e : Nat} {v : Value} {l : List α} (h : w.ownsRow base e 1 v l.length (l.map enc)) : Kd.R (Kd.scalar enc h1) e w base (fun _ => True) v l := by
  refine ⟨fun _ _ => trivial, l.map enc, h, ?_, fun j p hp => ?_⟩
  · show (l.map enc).length = l.length * 1
    rw [List.length_map, Nat.mul_one]
  · show ((l.map enc).drop (j * 1)).take 1 = [enc p]
    rw [Nat.mul_one, List.take_one, List.head?_drop, List.getElem?_map, hp]
    rfl
theorem map_one {α : Type} {enc : α → Value} (h1 : ∀ x, (enc x).oneCell' = true) (l : List α) : ∀ u ∈ l.map enc, u.oneCell' = true := by
  intro u hu
  obtain ⟨b, _, rfl⟩ := List.mem_map.1 hu
  exact h1 b

def slices_Clone_byte_byte.f (l : List Int) : Option (List Int) := if l.length < 140737488355328 then some l else none
def slices_Clone_string_string.f (l : List ByteArray) : Option (List ByteArray) := if l.length < 8796093022208 then some l else none
def slices_Clone_uint64_uint64.f (l : List Int) : Option (List Int) := if l.length < 17592186044416 then some l else none

set_option maxHeartbeats 400000 in
theorem slices_Clone_byte_byte.calls (A0 : Option Addr) (c0 : Nat) (l0 : List Int) (r : List Int) (w : World) (hr0 : Kd.C (Kd.int .u8) w A0 l0.length l0) (hc0 : l0.length ≤ c0) (h : slices_Clone_byte_byte.f l0 = some r) :
    Calls Try.prog 94 #[.slice A0 l0.length c0] w fun e w' => ∃ v0_ : Value, e = .returned (v0_) ∧ Kd.R (Kd.int .u8) 5 w' w.heap.size (fun _ => True) v0_ r ∧ Below w.heap.size w w' := by
  unfold slices_Clone_byte_byte.f at h
  split at h
  case isFalse => cases h
  case isTrue hn =>
  injection h with h
  subst h
  have hr := reads_of_C hr0
  have hlen : A0 = none → l0 = [] := fun e => by
    rcases Nat.eq_zero_or_pos l0.length with h0 | h0
    · exact List.eq_nil_of_length_eq_zero h0
    · obtain ⟨ad, e2, _⟩ := hr.2 h0
      rw [e] at e2; cases e2
  rcases A0 with _ | ad
  · obtain rfl := hlen rfl
    have q := fun (w : World) => Lib.run_eql_slice_nil (P := Try.prog) w 36 5 none 0 c0 0 0 Try.underlying36
    clear hr0 hr hn hc0
    rw [List.length_nil]
    go_enter Try.func94, Try.ntmps94
    go_wp2
    go_ret
    exact ⟨_, rfl, Kd.R_nil _ _ _ _ _, Below.refl _ _⟩
  · obtain ⟨i0, hi0, hz0, hz1, hz2⟩ := info_parts cinfo_u8
    have q := fun (w : World) => Lib.run_eql_slice_nil (P := Try.prog) w 36 5 (some ad) l0.length c0 0 0 Try.underlying36
    clear hr0 hlen
    generalize hk : l0.length = n at *
    have HK := Lib.hid hk
    clear hk
    go_enter Try.func94, Try.ntmps94
    go_wp2_with (at_builtin; refine wpList_append_any _ rfl (.tmp 5) (.tmp 6) _ rfl w.heap.size 5 i0 _ 1 1 Try.underlying36 hi0 hz0 hz1 hz2 rfl (by omega) (.slice (some ⟨w.heap.size, 0, none⟩) 0 0) 0 [] rfl (World.ownsRow_lit w #[] 0 (Nat.le_refl _) (by unfold maxLen; omega) rfl) w.heap.size (some ad) n c0 (l0.map (Value.int .u8)) rfl (hr.alloc (Nat.le_refl _) _) (map_one (fun _ => rfl) l0) (by simp only [maxLen]; omega) (by omega) (by simp) ?_; intro v1 w1 hown1 hg1 hat1)
    go_ret
    refine ⟨v1, rfl, R_of_own (h1 := fun _ => rfl) (by rw [HK.out]; simpa using hown1), ((Below.refl _ _).alloc (Nat.le_refl _) _).grown hg1 (by simp) (fun k hk => by simp [Value.ownBlock] at hk; omega)⟩

set_option maxHeartbeats 400000 in
theorem slices_Clone_string_string.calls (A0 : Option Addr) (c0 : Nat) (l0 : List ByteArray) (r : List ByteArray) (w : World) (hr0 : Kd.C Kd.string w A0 l0.length l0) (hc0 : l0.length ≤ c0) (h : slices_Clone_string_string.f l0 = some r) :
    Calls Try.prog 103 #[.slice A0 l0.length c0] w fun e w' => ∃ v0_ : Value, e = .returned (v0_) ∧ Kd.R Kd.string 9 w' w.heap.size (fun _ => True) v0_ r ∧ Below w.heap.size w w' := by
  unfold slices_Clone_string_string.f at h
  split at h
  case isFalse => cases h
  case isTrue hn =>
  injection h with h
  subst h
  have hr := reads_of_C hr0
  have hlen : A0 = none → l0 = [] := fun e => by
    rcases Nat.eq_zero_or_pos l0.length with h0 | h0
    · exact List.eq_nil_of_length_eq_zero h0
    · obtain ⟨ad, e2, _⟩ := hr.2 h0
      rw [e] at e2; cases e2
  rcases A0 with _ | ad
  · obtain rfl := hlen rfl
    have q := fun (w : World) => Lib.run_eql_slice_nil (P := Try.prog) w 64 9 none 0 c0 0 0 Try.underlying64
    clear hr0 hr hn hc0
    rw [List.length_nil]
    go_enter Try.func103, Try.ntmps103
    go_wp2
    go_ret
    exact ⟨_, rfl, Kd.R_nil _ _ _ _ _, Below.refl _ _⟩
  · obtain ⟨i0, hi0, hz0, hz1, hz2⟩ := info_parts cinfo_str
    have q := fun (w : World) => Lib.run_eql_slice_nil (P := Try.prog) w 64 9 (some ad) l0.length c0 0 0 Try.underlying64
    clear hr0 hlen
    generalize hk : l0.length = n at *
    have HK := Lib.hid hk
    clear hk
    go_enter Try.func103, Try.ntmps103
    go_wp2_with (at_builtin; refine wpList_append_any _ rfl (.tmp 5) (.tmp 6) _ rfl w.heap.size 9 i0 _ 1 16 Try.underlying64 hi0 hz0 hz1 hz2 rfl (by omega) (.slice (some ⟨w.heap.size, 0, none⟩) 0 0) 0 [] rfl (World.ownsRow_lit w #[] 0 (Nat.le_refl _) (by unfold maxLen; omega) rfl) w.heap.size (some ad) n c0 (l0.map Value.string) rfl (hr.alloc (Nat.le_refl _) _) (map_one (fun _ => rfl) l0) (by simp only [maxLen]; omega) (by omega) (by simp) ?_; intro v1 w1 hown1 hg1 hat1)
    go_ret
    refine ⟨v1, rfl, R_of_own (h1 := fun _ => rfl) (by rw [HK.out]; simpa using hown1), ((Below.refl _ _).alloc (Nat.le_refl _) _).grown hg1 (by simp) (fun k hk => by simp [Value.ownBlock] at hk; omega)⟩

set_option maxHeartbeats 400000 in
theorem slices_Clone_uint64_uint64.calls (A0 : Option Addr) (c0 : Nat) (l0 : List Int) (r : List Int) (w : World) (hr0 : Kd.C (Kd.int .u64) w A0 l0.length l0) (hc0 : l0.length ≤ c0) (h : slices_Clone_uint64_uint64.f l0 = some r) :
    Calls Try.prog 104 #[.slice A0 l0.length c0] w fun e w' => ∃ v0_ : Value, e = .returned (v0_) ∧ Kd.R (Kd.int .u64) 32 w' w.heap.size (fun _ => True) v0_ r ∧ Below w.heap.size w w' := by
  unfold slices_Clone_uint64_uint64.f at h
  split at h
  case isFalse => cases h
  case isTrue hn =>
  injection h with h
  subst h
  have hr := reads_of_C hr0
  have hlen : A0 = none → l0 = [] := fun e => by
    rcases Nat.eq_zero_or_pos l0.length with h0 | h0
    · exact List.eq_nil_of_length_eq_zero h0
    · obtain ⟨ad, e2, _⟩ := hr.2 h0
      rw [e] at e2; cases e2
  rcases A0 with _ | ad
  · obtain rfl := hlen rfl
    have q := fun (w : World) => Lib.run_eql_slice_nil (P := Try.prog) w 65 32 none 0 c0 0 0 Try.underlying65
    clear hr0 hr hn hc0
    rw [List.length_nil]
    go_enter Try.func104, Try.ntmps104
    go_wp2
    go_ret
    exact ⟨_, rfl, Kd.R_nil _ _ _ _ _, Below.refl _ _⟩
  · obtain ⟨i0, hi0, hz0, hz1, hz2⟩ := info_parts cinfo_u64
    have q := fun (w : World) => Lib.run_eql_slice_nil (P := Try.prog) w 65 32 (some ad) l0.length c0 0 0 Try.underlying65
    clear hr0 hlen
    generalize hk : l0.length = n at *
    have HK := Lib.hid hk
    clear hk
    go_enter Try.func104, Try.ntmps104
    go_wp2_with (at_builtin; refine wpList_append_any _ rfl (.tmp 5) (.tmp 6) _ rfl w.heap.size 32 i0 _ 1 8 Try.underlying65 hi0 hz0 hz1 hz2 rfl (by omega) (.slice (some ⟨w.heap.size, 0, none⟩) 0 0) 0 [] rfl (World.ownsRow_lit w #[] 0 (Nat.le_refl _) (by unfold maxLen; omega) rfl) w.heap.size (some ad) n c0 (l0.map (Value.int .u64)) rfl (hr.alloc (Nat.le_refl _) _) (map_one (fun _ => rfl) l0) (by simp only [maxLen]; omega) (by omega) (by simp) ?_; intro v1 w1 hown1 hg1 hat1)
    go_ret
    refine ⟨v1, rfl, R_of_own (h1 := fun _ => rfl) (by rw [HK.out]; simpa using hown1), ((Below.refl _ _).alloc (Nat.le_refl _) _).grown hg1 (by simp) (fun k hk => by simp [Value.ownBlock] at hk; omega)⟩
end Go.Proofs.Ytlbikfamjogpnaa
end

/- publicanref4.cut, told as the printed texts tell calls: texts up to a place, others, and those from a later place on. Conditions: the rows read; all fits the reach. -/
section
namespace Go.Proofs.Ytlbikfamjogpnaa
open Go.RowKit Go.Proofs.YtlbikfamjogpnaaW.PrintWords

theorem C_none {α : Type} {d : Kd α} {w : World} {l : List α} (h : Kd.C d w none l.length l) : l = [] := by
  rcases Nat.eq_zero_or_pos l.length with h0 | h0
  · exact List.eq_nil_of_length_eq_zero h0
  · obtain ⟨ad, e2, _⟩ := h.2.2 h0
    cases e2

def publicanref4_cut.f (l0 : List ByteArray) (a1 : Int) (l2 : List ByteArray) (a3 : Int) : Option (List ByteArray) :=
  if 0 ≤ a1 ∧ 0 ≤ a3 ∧ a1 + a3 ≤ l0.length ∧ l0.length + l2.length + l0.length < 8796093022208 then some (l0.take a1.toNat ++ l2 ++ l0.drop (a1 + a3).toNat) else none

set_option maxRecDepth 100000 in
set_option maxHeartbeats 1000000 in
theorem publicanref4_cut.calls (A0 : Option Addr) (c0 : Nat) (l0 : List ByteArray) (a1 : Int) (A2 : Option Addr) (c2 : Nat) (l2 : List ByteArray) (a3 : Int) (r : List ByteArray) (w : World) (hr0 : Kd.C Kd.string w A0 l0.length l0) (hc0 : l0.length ≤ c0) (hr2 : Kd.C Kd.string w A2 l2.length l2) (hc2 : l2.length ≤ c2) (h : publicanref4_cut.f l0 a1 l2 a3 = some r) :
    Calls Try.prog 90 #[.slice A0 l0.length c0, .int .i64 a1, .slice A2 l2.length c2, .int .i64 a3] w fun e w' => ∃ v0_ : Value, e = .returned (v0_) ∧ Kd.R Kd.string 9 w' w.heap.size (fun _ => True) v0_ r ∧ Below w.heap.size w w' := by
  unfold publicanref4_cut.f at h
  split at h
  case isFalse => cases h
  case isTrue hn =>
  injection h with h
  subst h
  obtain ⟨h1, h2, h3, h4⟩ := hn
  obtain ⟨p, rfl⟩ : ∃ p : Nat, a1 = (p : Int) := ⟨a1.toNat, by omega⟩
  obtain ⟨q, rfl⟩ : ∃ q : Nat, a3 = (q : Int) := ⟨a3.toNat, by omega⟩
  obtain ⟨i0, hi0, hz0, hz1, hz2⟩ := info_parts cinfo_str
  have ew : IntKind.i64.wrap ((p : Int) + (q : Int)) = (p : Int) + (q : Int) := IntWalk.i64_in _ (by omega)
  have hr := reads_of_C hr0
  have hs := reads_of_C hr2
  have e1 : ((p : Int)).toNat = p := by omega
  have e2 : ((p : Int) + (q : Int)).toNat = p + q := by omega
  rw [e1, e2]
  have hnil : A0 = none → l0.length = 0 := fun h => by subst h; rw [C_none hr0]; rfl
  clear hr0 hr2 e1
  generalize hk : l0.length = n at *
  generalize hm : l2.length = m at *
  have HK := Lib.hid hk
  have HM := Lib.hid hm
  have HE := Lib.hid e2
  have i1 : (0 : Int) ≤ (p : Int) + (q : Int) := by omega
  have i2 : (p : Int) + (q : Int) ≤ (n : Int) := by omega
  have i3 : (p : Int) ≤ (c0 : Int) := by omega
  clear hk hm h1 h2 e2
  have hl0 : (l0.take p).length = p := by rw [List.length_take, HK.out]; omega
  have hrp : Reads w w.heap.size 1 A0 p ((l0.take p).map Value.string) := by rw [List.map_take]; exact hr.take_ (by omega)
  have hrd := hr.cut (k := p + q) (cap := c0) (by omega) hc0
  rw [Nat.mul_one, ← List.map_drop] at hrd
  have HRP := Lib.hid hrp
  have HS := Lib.hid hs
  have HL0 := Lib.hid hl0
  have hone := @map_one ByteArray Value.string (fun _ => rfl)
  have HONE := Lib.hid hone
  have HZ := Lib.hid hz1
  clear hr hrp hs hl0 hone
  have FIN0 : ∀ v w', w'.ownsRow w.heap.size 9 1 v (0 + p + m + (n - (p + q))) ([] ++ (l0.take p).map Value.string ++ l2.map Value.string ++ (l0.drop (p + q)).map Value.string) → Kd.R Kd.string 9 w' w.heap.size (fun _ => True) v (l0.take p ++ l2 ++ l0.drop (p + q)) := by
    intro v w' hv
    refine R_of_own (h1 := fun _ => rfl) ?_
    have e : (l0.take p ++ l2 ++ l0.drop (p + q)).length = 0 + p + m + (n - (p + q)) := by
      simp only [List.length_append, List.length_drop, HL0.out, HM.out, HK.out]; omega
    rw [e]
    simpa using hv
  have FIN := Lib.hid FIN0
  clear FIN0
  rcases A0 with _ | ad
  · have hn0 : n = 0 := hnil rfl
    have hp0 : p = 0 := by omega
    have hq0 : q = 0 := by omega
    subst hn0 hp0 hq0
    have HRD : Hid (Reads w w.heap.size 1 none 0 (((l0.drop 0).map Value.string))) := Lib.hid (by simpa using hrd)
    clear hrd hnil ew i1 i2 i3 h3
    go_enter Try.func90, Try.ntmps90
    go_wp2_with (first
      | (at_builtin; refine wpList_append_any _ rfl (.tmp 10) (.tmp 13) _ rfl w.heap.size 9 i0 _ 1 16 Try.underlying64 hi0 hz0 HZ.out hz2 rfl (by omega) (.slice (some ⟨w.heap.size, 0, none⟩) 0 0) 0 [] rfl (World.ownsRow_lit w #[] 0 (Nat.le_refl _) (by unfold maxLen; omega) rfl) w.heap.size _ 0 _ _ rfl (HRP.out.alloc (Nat.le_refl _) _) (HONE.out _) (by unfold maxLen; omega) (by omega) (by simp) ?_; intro v1 w1 hown1 hg1 hat1
         have hb1 : Below w.heap.size w w1 := ((Below.refl _ _).alloc (Nat.le_refl _) _).grown hg1 (by simp) (fun k hk => by simp [Value.ownBlock] at hk; omega)
         clear hat1 hg1)
      | (at_builtin; refine wpList_append_any _ rfl (.tmp 15) (.tmp 16) _ rfl w.heap.size 9 i0 _ 1 16 Try.underlying64 hi0 hz0 HZ.out hz2 rfl (by omega) v1 (0 + 0) _ rfl hown1 w.heap.size _ m c2 _ rfl (HS.out.below hb1) (HONE.out _) (by unfold maxLen; omega) (by omega) hb1.size ?_; intro v2 w2 hown2 hg2 hat2
         have hb2 : Below w.heap.size w w2 := hb1.grown hg2 hb1.size (fun k hk => (hown1.lt k hk).1)
         clear hat2 hg2)
      | (at_builtin; refine wpList_append_any _ rfl (.tmp 18) (.tmp 23) _ rfl w.heap.size 9 i0 _ 1 16 Try.underlying64 hi0 hz0 HZ.out hz2 rfl (by omega) v2 (0 + 0 + m) _ rfl hown2 w.heap.size _ 0 _ _ rfl (HRD.out.below hb2) (HONE.out _) (by unfold maxLen; omega) (by omega) hb2.size ?_; intro v3 w3 hown3 hg3 hat3
         have hb3 : Below w.heap.size w w3 := hb2.grown hg3 hb2.size (fun k hk => (hown2.lt k hk).1)
         clear hat3 hg3))
    go_ret
    exact ⟨v3, rfl, by have := FIN.out _ _ (by simpa using hown3); simpa using this, hb3⟩

  by_cases h0 : c0 = 0
  · have hn0 : n = 0 := by omega
    have hp0 : p = 0 := by omega
    have hq0 : q = 0 := by omega
    subst hn0 hp0 hq0 h0
    have HRD : Hid (Reads w w.heap.size 1 (some ad) 0 (((l0.drop 0).map Value.string))) := Lib.hid (by simpa using hrd)
    clear ew i1 i2 i3 h3 hrd hnil
    go_enter Try.func90, Try.ntmps90
    go_wp2_with (first
      | (at_builtin; refine wpList_append_any _ rfl (.tmp 10) (.tmp 13) _ rfl w.heap.size 9 i0 _ 1 16 Try.underlying64 hi0 hz0 HZ.out hz2 rfl (by omega) (.slice (some ⟨w.heap.size, 0, none⟩) 0 0) 0 [] rfl (World.ownsRow_lit w #[] 0 (Nat.le_refl _) (by unfold maxLen; omega) rfl) w.heap.size _ 0 _ _ rfl (HRP.out.alloc (Nat.le_refl _) _) (HONE.out _) (by unfold maxLen; omega) (by omega) (by simp) ?_; intro v1 w1 hown1 hg1 hat1
         have hb1 : Below w.heap.size w w1 := ((Below.refl _ _).alloc (Nat.le_refl _) _).grown hg1 (by simp) (fun k hk => by simp [Value.ownBlock] at hk; omega)
         clear hat1 hg1)
      | (at_builtin; refine wpList_append_any _ rfl (.tmp 15) (.tmp 16) _ rfl w.heap.size 9 i0 _ 1 16 Try.underlying64 hi0 hz0 HZ.out hz2 rfl (by omega) v1 (0 + 0) _ rfl hown1 w.heap.size _ m c2 _ rfl (HS.out.below hb1) (HONE.out _) (by unfold maxLen; omega) (by omega) hb1.size ?_; intro v2 w2 hown2 hg2 hat2
         have hb2 : Below w.heap.size w w2 := hb1.grown hg2 hb1.size (fun k hk => (hown1.lt k hk).1)
         clear hat2 hg2)
      | (at_builtin; refine wpList_append_any _ rfl (.tmp 18) (.tmp 23) _ rfl w.heap.size 9 i0 _ 1 16 Try.underlying64 hi0 hz0 HZ.out hz2 rfl (by omega) v2 (0 + 0 + m) _ rfl hown2 w.heap.size _ 0 _ _ rfl (HRD.out.below hb2) (HONE.out _) (by unfold maxLen; omega) (by omega) hb2.size ?_; intro v3 w3 hown3 hg3 hat3
         have hb3 : Below w.heap.size w w3 := hb2.grown hg3 hb2.size (fun k hk => (hown2.lt k hk).1)
         clear hat3 hg3))
    go_ret
    exact ⟨v3, rfl, by have := FIN.out _ _ (by simpa using hown3); simpa using this, hb3⟩

  · have hx0 : (c0 = 0) = False := eq_false h0
    have hrd' : Reads w w.heap.size 1 (if c0 = p + q then some ad else some (ad.add (p + q))) (n - (p + q)) ((l0.drop (p + q)).map Value.string) := hrd
    have HRD := Lib.hid hrd'
    clear hrd hrd' hnil h0
    go_enter Try.func90, Try.ntmps90
    go_wp2_with (first
      | (at_builtin; refine wpList_append_any _ rfl (.tmp 10) (.tmp 13) _ rfl w.heap.size 9 i0 _ 1 16 Try.underlying64 hi0 hz0 HZ.out hz2 rfl (by omega) (.slice (some ⟨w.heap.size, 0, none⟩) 0 0) 0 [] rfl (World.ownsRow_lit w #[] 0 (Nat.le_refl _) (by unfold maxLen; omega) rfl) w.heap.size _ p _ _ rfl (HRP.out.alloc (Nat.le_refl _) _) (HONE.out _) (by unfold maxLen; omega) (by omega) (by simp) ?_; intro v1 w1 hown1 hg1 hat1
         have hb1 : Below w.heap.size w w1 := ((Below.refl _ _).alloc (Nat.le_refl _) _).grown hg1 (by simp) (fun k hk => by simp [Value.ownBlock] at hk; omega)
         clear hat1 hg1)
      | (at_builtin; refine wpList_append_any _ rfl (.tmp 15) (.tmp 16) _ rfl w.heap.size 9 i0 _ 1 16 Try.underlying64 hi0 hz0 HZ.out hz2 rfl (by omega) v1 (0 + p) _ rfl hown1 w.heap.size _ m c2 _ rfl (HS.out.below hb1) (HONE.out _) (by unfold maxLen; omega) (by omega) hb1.size ?_; intro v2 w2 hown2 hg2 hat2
         have hb2 : Below w.heap.size w w2 := hb1.grown hg2 hb1.size (fun k hk => (hown1.lt k hk).1)
         clear hat2 hg2)
      | (at_builtin; refine wpList_append_any _ rfl (.tmp 18) (.tmp 23) _ rfl w.heap.size 9 i0 _ 1 16 Try.underlying64 hi0 hz0 HZ.out hz2 rfl (by omega) v2 (0 + p + m) _ rfl hown2 w.heap.size _ (n - (p + q)) _ _ rfl (HRD.out.below hb2) (HONE.out _) (by unfold maxLen; omega) (by omega) hb2.size ?_; intro v3 w3 hown3 hg3 hat3
         have hb3 : Below w.heap.size w w3 := hb2.grown hg3 hb2.size (fun k hk => (hown2.lt k hk).1)
         clear hat3 hg3))
    all_goals
      go_ret
      exact ⟨v3, rfl, by have := FIN.out _ _ (by simpa using hown3); simpa using this, hb3⟩

end Go.Proofs.Ytlbikfamjogpnaa
end

/- sort.Search and sort.SearchStrings: what they answer, sorted or not, told as the printed texts tell calls. Conditions: the row reads and fits the reach. -/
section
namespace Go.Proofs.Ytlbikfamjogpnaa
open Go.RowKit Go.Proofs.YtlbikfamjogpnaaW.PrintWords

/-- Where a search by halves ends. -/
def bs (p : Nat → Bool) (lo hi : Nat) : Nat :=
  if lo < hi then (if p ((lo + hi) / 2) then bs p lo ((lo + hi) / 2) else bs p ((lo + hi) / 2 + 1) hi) else lo
termination_by hi - lo
theorem bs_end (p : Nat → Bool) {lo hi : Nat} (h : ¬ lo < hi) : bs p lo hi = lo := by rw [bs, if_neg h]
theorem bs_yes (p : Nat → Bool) {lo hi : Nat} (h : lo < hi) (hp : p ((lo + hi) / 2) = true) : bs p lo hi = bs p lo ((lo + hi) / 2) := by rw [bs, if_pos h, if_pos hp]
theorem bs_no (p : Nat → Bool) {lo hi : Nat} (h : lo < hi) (hp : p ((lo + hi) / 2) = false) : bs p lo hi = bs p ((lo + hi) / 2 + 1) hi := by rw [bs, if_pos h, if_neg (by rw [hp]; simp)]

/-- It stops at the first place that says yes, if those behind it say yes too. -/
theorem bs_first (p : Nat → Bool) (k n : Nat) (h1 : ∀ i, i < k → p i = false) (h2 : ∀ i, k ≤ i → i < n → p i = true) (d : Nat) : ∀ lo hi, hi - lo ≤ d → lo ≤ k → k ≤ hi → hi ≤ n → bs p lo hi = k := by
  induction d with
  | zero => intro lo hi hd a b c; rw [bs_end p (by omega)]; omega
  | succ d ih =>
    intro lo hi hd a b c
    by_cases h : lo < hi
    · cases hp : p ((lo + hi) / 2) with
      | true =>
        rw [bs_yes p h hp]
        have : k ≤ (lo + hi) / 2 := by
          rcases Nat.lt_or_ge ((lo + hi) / 2) k with hk | hk
          · rw [h1 _ hk] at hp; cases hp
          · exact hk
        exact ih _ _ (by omega) a this (by omega)
      | false =>
        rw [bs_no p h hp]
        have : (lo + hi) / 2 < k := by
          rcases Nat.lt_or_ge ((lo + hi) / 2) k with hk | hk
          · exact hk
          · rw [h2 _ hk (by omega)] at hp; cases hp
        exact ih _ _ (by omega) (by omega) b c
    · rw [bs_end p h]; omega

set_option maxHeartbeats 4000000 in
set_option maxRecDepth 1000000 in
theorem search_any (g : Nat) (cb : Array Value) (n : Nat) (p : Nat → Bool) (w : World) (eg : ∀ args w, (callFunc g args).run Try.prog w = .ok (.enter g args) w) (hn : n < 1152921504606846976)
    (hf : ∀ (m i : Nat), i < n → Calls Try.prog g (#[.int .i64 i] ++ cb) (w.drewN m) fun e w' => e = .returned (.bool (p i)) ∧ ∃ q, w' = w.drewN q) :
    Calls Try.prog 110 #[.int .i64 n, .func (.func g) #[] cb] w fun e w' => e = .returned (.int .i64 (bs p 0 n : Nat)) ∧ ∃ q, w' = w.drewN q := by
  have HF := Lib.hid hf
  obtain ⟨r, hr⟩ : ∃ r, r = bs p 0 n := ⟨_, rfl⟩
  rw [← hr]
  have HR := Lib.hid hr
  clear hf hr
  go_enter Try.func110, Try.ntmps110
  go_wp2_with fail
  go_loopg [5, 6] n (fun kx s5 s6 wr => ∃ (lo hi q : Nat), s5 = .int .i64 lo ∧ s6 = .int .i64 hi ∧ lo ≤ hi ∧ hi ≤ n ∧ hi - lo ≤ kx ∧ wr = w.drewN q ∧ Hid (r = bs p lo hi))
  case atStart => exact ⟨0, n, 0, rfl, rfl, Nat.zero_le _, Nat.le_refl _, by omega, rfl, HR⟩
  case round =>
    obtain ⟨lo, hi, q, rfl, rfl, hlh, hin, hg, rfl, I⟩ := hrel
    by_cases hlt : lo < hi
    · have hc := HF.out q ((lo + hi) / 2) (by omega)
      rw [show (((lo + hi) / 2 : Nat) : Int) = ((lo : Int) + (hi : Int)) / 2 by omega] at hc
      cases hp : p ((lo + hi) / 2) <;> rw [hp] at hc
      · have I2 : Hid (r = bs p ((lo + hi) / 2 + 1) hi) := Lib.hid (by rw [I.out, bs_no p hlt hp])
        have HC := Lib.hid hc
        clear hp hc
        go_wp2_with (go_at_fn g; refine HC.out.mono ?_; rintro e w' ⟨rfl, nq, rfl⟩)
        go_roundg (hi - ((lo + hi) / 2 + 1))
        case measure => omega
        case rel => exact ⟨(lo + hi) / 2 + 1, hi, nq, by rw [show ((lo : Int) + (hi : Int)) / 2 + 1 = (((lo + hi) / 2 + 1 : Nat) : Int) by omega], rfl, by omega, hin, Nat.le_refl _, rfl, I2⟩
      · have I2 : Hid (r = bs p lo ((lo + hi) / 2)) := Lib.hid (by rw [I.out, bs_yes p hlt hp])
        have HC := Lib.hid hc
        clear hp hc
        go_wp2_with (go_at_fn g; refine HC.out.mono ?_; rintro e w' ⟨rfl, nq, rfl⟩)
        go_roundg ((lo + hi) / 2 - lo)
        case measure => omega
        case rel => exact ⟨lo, (lo + hi) / 2, nq, rfl, by rw [show ((lo : Int) + (hi : Int)) / 2 = (((lo + hi) / 2 : Nat) : Int) by omega], by omega, by omega, Nat.le_refl _, rfl, I2⟩
    · obtain rfl : hi = lo := by omega
      have e : r = hi := by rw [I.out, bs_end p (Nat.lt_irrefl _)]
      subst e
      clear I HR
      go_wp2
      go_ret
      exact ⟨rfl, _, rfl⟩

set_option maxHeartbeats 2000000 in
theorem search_closure (ba bx cap : Nat) (A : Option Addr) (l : List ByteArray) (x : ByteArray) (i : Nat) (W : World) (hi : i < l.length)
    (ha : W.cell? ⟨ba, 0, none⟩ = some (.slice A l.length cap)) (hx : W.cell? ⟨bx, 0, none⟩ = some (.string x)) (hc : Kd.C Kd.string W A l.length l) :
    Calls Try.prog 111 (#[.int .i64 i] ++ #[.pointer (some ⟨ba, 0, none⟩), .pointer (some ⟨bx, 0, none⟩)]) W fun e w' => e = .returned (.bool (!(Op.bytesLess (l.getD i ByteArray.empty).toList x.toList))) ∧ ∃ q, w' = W.drewN q := by
  obtain ⟨ad, u, rfl, _, hu, hcell⟩ := (reads_of_C (enc := Value.string) (h1 := fun _ => rfl) hc).at_ hi
  rw [List.getElem?_map, List.getElem?_eq_getElem hi] at hu
  obtain rfl : Value.string l[i] = u := by simpa using hu
  have eg : l.getD i ByteArray.empty = l[i] := by rw [List.getD_eq_getElem?_getD, List.getElem?_eq_getElem hi]; rfl
  rw [eg]
  generalize l[i] = y at *
  generalize l.length = n at *
  have hiz : (i : Int) < (n : Int) := by omega
  clear hc hu eg
  go_enter Try.func111, Try.ntmps111
  go_wp2_with fail
  go_region
  all_goals go_wp2
  all_goals go_ret
  all_goals exact ⟨by first | rfl | simp, 1, rfl⟩

theorem C_drew {α : Type} {d : Kd α} {w : World} {A : Option Addr} {n : Nat} {l : List α} (h : Kd.C d w A n l) (m : Nat) : Kd.C d (w.drewN m) A n l := Kd.C_below h (Drawn0.mk ⟨m, rfl⟩ : Drawn0 w (w.drewN m)).below

def sort_SearchStrings.f (l : List ByteArray) (x : ByteArray) : Option Int :=
  if l.length < 1152921504606846976 then some ((bs (fun i => !(Op.bytesLess (l.getD i ByteArray.empty).toList x.toList)) 0 l.length : Nat) : Int) else none

set_option maxHeartbeats 2000000 in
theorem sort_SearchStrings.calls (A0 : Option Addr) (c0 : Nat) (l0 : List ByteArray) (a1 : ByteArray) (r : Int) (w : World) (hr0 : Kd.C Kd.string w A0 l0.length l0) (_hc0 : l0.length ≤ c0) (h : sort_SearchStrings.f l0 a1 = some r) :
    Calls Try.prog 88 #[.slice A0 l0.length c0, .string a1] w fun e w' => e = .returned (.int .i64 r) ∧ Below w.heap.size w w' := by
  unfold sort_SearchStrings.f at h
  split at h
  case isFalse => cases h
  case isTrue hn =>
  injection h with h
  subst h
  obtain ⟨W0, hW0⟩ : ∃ W0, W0 = (w.alloc (.cells #[.slice A0 l0.length c0] 64)).alloc (.cells #[.string a1] 9) := ⟨_, rfl⟩
  have hb0 : Below w.heap.size w W0 := by rw [hW0]; exact ((Below.refl _ _).alloc (Nat.le_refl _) _).alloc (by simp) _
  have k1 : Blk W0 w.heap.size 64 #[.slice A0 l0.length c0] := by rw [hW0]; exact (Blk.new _ _ _).alloc _
  have k2 : Blk W0 (w.heap.size + 1) 9 #[.string a1] := by rw [hW0]; have := Blk.new (w.alloc (.cells #[.slice A0 l0.length c0] 64)) 9 #[.string a1]; simpa using this
  have ca : W0.cell? ⟨w.heap.size, 0, none⟩ = some (.slice A0 l0.length c0) := (k1.cell 0).trans rfl
  have cx : W0.cell? ⟨w.heap.size + 1, 0, none⟩ = some (.string a1) := (k2.cell 0).trans rfl
  have hC0 : Kd.C Kd.string W0 A0 l0.length l0 := Kd.C_below hr0 hb0
  have eg : ∀ args w, (callFunc 111 args).run Try.prog w = .ok (.enter 111 args) w := enters_of Try.func111 (by kernel_rfl) rfl
  have hS := search_any 111 #[.pointer (some ⟨w.heap.size, 0, none⟩), .pointer (some ⟨w.heap.size + 1, 0, none⟩)] l0.length (fun i => !(Op.bytesLess (l0.getD i ByteArray.empty).toList a1.toList)) W0 eg hn
    (fun m i hi => (search_closure w.heap.size (w.heap.size + 1) c0 A0 l0 a1 i (W0.drewN m) hi ca cx (C_drew hC0 m)).mono fun _ _ ⟨he, q, hq⟩ => ⟨he, m + q, by rw [hq, World.drewN_drewN]⟩)
  have HS := Lib.hid hS
  have HW := Lib.hid hW0
  have HB := Lib.hid hb0
  clear hS hW0 hb0 k1 k2 ca cx hC0 hr0 eg
  generalize bs (fun i => !(Op.bytesLess (l0.getD i ByteArray.empty).toList a1.toList)) 0 l0.length = r at *
  generalize l0.length = n at *
  go_enter Try.func88, Try.ntmps88
  go_wp2_with (go_at_call 110; rw [← HW.out]; refine HS.out.mono ?_; rintro e w' ⟨rfl, q, rfl⟩)
  go_ret
  exact ⟨rfl, HB.out.trans (((Drawn0.mk ⟨q, rfl⟩ : Drawn0 W0 (W0.drewN q)).below).mono HB.out.size)⟩
end Go.Proofs.Ytlbikfamjogpnaa
end

/- slices.Insert and slices.Delete at []string, told as the printed texts tell calls: a row of the call's own is handed over, and what comes back is one. Conditions: the rows are the call's own; the place lies in the row; all fits the reach. -/
section
namespace Go.Proofs.Ytlbikfamjogpnaa
open Go.RowKit Go.Proofs.YtlbikfamjogpnaaW.PrintWords Go.Shelf

def insRen : Go.Shelf.Ren := ⟨fun | 22 => 87 | 29 => 108 | 30 => 109 | 36 => 113 | 17 => 114 | n => n, fun | 24 => 64 | 9 => 9 | 3 => 3 | 4 => 4 | 0 => 0 | n => n, fun | n => n⟩
theorem insLays : Go.Proofs.Lays2.n22 Try.prog insRen := {
  mixed := by kernel_rfl
  f17 := Try.func114.trans (congrArg some (by kernel_rfl))
  f22 := Try.func87.trans (congrArg some (by kernel_rfl))
  f29 := Try.func108.trans (congrArg some (by kernel_rfl))
  f30 := Try.func109.trans (congrArg some (by kernel_rfl))
  f36 := Try.func113.trans (congrArg some (by kernel_rfl))
  t0 := Try.underlying0
  a0 := Try.isAgg0
  z0 := Try.sizeOf0
  v0 := Try.zeroValue0
  t3 := Try.underlying3
  a3 := Try.isAgg3
  z3 := Try.sizeOf3
  v3 := Try.zeroValue3
  t4 := Try.underlying4
  a4 := Try.isAgg4
  z4 := Try.sizeOf4
  v4 := Try.zeroValue4
  t9 := Try.underlying9
  a9 := Try.isAgg9
  z9 := Try.sizeOf9
  v9 := Try.zeroValue9
  t24 := Try.underlying64
  a24 := Try.isAgg64
  z24 := Try.sizeOf64
  v24 := Try.zeroValue64
  i9 := by kernel_rfl }
def delRen : Go.Shelf.Ren := ⟨fun | 24 => 91 | n => n, fun | 24 => 64 | 9 => 9 | 3 => 3 | 4 => 4 | 0 => 0 | n => n, fun | n => n⟩
theorem delLays : Go.Proofs.Lays2.n24 Try.prog delRen := {
  mixed := by kernel_rfl
  f24 := Try.func91.trans (congrArg some (by kernel_rfl))
  t0 := Try.underlying0
  a0 := Try.isAgg0
  z0 := Try.sizeOf0
  v0 := Try.zeroValue0
  t3 := Try.underlying3
  a3 := Try.isAgg3
  z3 := Try.sizeOf3
  v3 := Try.zeroValue3
  t4 := Try.underlying4
  a4 := Try.isAgg4
  z4 := Try.sizeOf4
  v4 := Try.zeroValue4
  t9 := Try.underlying9
  a9 := Try.isAgg9
  z9 := Try.sizeOf9
  v9 := Try.zeroValue9
  t24 := Try.underlying64
  a24 := Try.isAgg64
  z24 := Try.sizeOf64
  v24 := Try.zeroValue64
  i9 := by kernel_rfl }

/-- Cells written into a block. -/
theorem blk_setCells {g : Nat} {t : TypeId} (vs : List Value) : ∀ (o : Nat) (w : World) (cs : Array Value), Blk w g t cs → o + vs.length ≤ cs.size →
    ∃ cs', Blk (w.setCells g o vs) g t cs' ∧ cs'.size = cs.size ∧ cs'.toList = cs.toList.take o ++ (vs ++ cs.toList.drop (o + vs.length)) := by
  induction vs with
  | nil => intro o w cs h _; exact ⟨cs, h, rfl, by simp⟩
  | cons v vs ih =>
    intro o w cs h hl
    rw [List.length_cons] at hl
    obtain ⟨cs', h1, h2, h3⟩ := ih (o + 1) _ _ (h.set_ o v) (by simp; omega)
    refine ⟨cs', h1, by simpa using h2, ?_⟩
    rw [h3, Array.toList_setIfInBounds, List.length_cons]
    have ho : o < cs.toList.length := by rw [Array.length_toList]; omega
    rw [List.take_add_one, List.take_set_of_le (Nat.le_refl _), List.drop_set_of_lt (by omega), List.getElem?_set_self ho]
    simp [List.append_assoc, show o + 1 + vs.length = o + (vs.length + 1) by omega]

theorem setCells_kept (g : Nat) (vs : List Value) : ∀ (o : Nat) (w : World), (w.setCells g o vs).heap.size = w.heap.size ∧ ∀ i, i ≠ g → (w.setCells g o vs).heap[i]? = w.heap[i]? := by
  induction vs with
  | nil => intro o w; exact ⟨rfl, fun _ _ => rfl⟩
  | cons v vs ih =>
    intro o w
    obtain ⟨h1, h2⟩ := ih (o + 1) (w.setCell ⟨g, o, none⟩ v)
    exact ⟨h1.trans (by simp [World.setCell]), fun i hi => (h2 i hi).trans (Below.heap_setCell w ⟨g, o, none⟩ v i hi)⟩
theorem setCells_below {B g : Nat} {a : World} (hb : B ≤ g) (vs : List Value) : ∀ (o : Nat) (w : World), Below B a w → Below B a (w.setCells g o vs) := by
  induction vs with
  | nil => intro o w h; exact h
  | cons v vs ih => intro o w h; exact ih (o + 1) _ (h.setCell (p := ⟨g, o, none⟩) hb v)

/-- What an own row of strings is. -/
theorem R_str {w : World} {base : Nat} {ok : Nat → Prop} {v : Value} {l : List ByteArray} (h : Kd.R Kd.string 9 w base ok v l) :
    (v = .slice none 0 0 ∧ l = []) ∨ ∃ g cap cur, v = .slice (some ⟨g, 0, none⟩) l.length cap ∧ ok g ∧ base ≤ g ∧ Blk w g 9 cur ∧ l.length ≤ cap ∧ cap ≤ maxLen ∧ cur.size = cap ∧ cur.toList.take l.length = l.map Value.string := by
  obtain ⟨h0, inner, ho, hr⟩ := h
  have hin : inner = l.map Value.string := by
    obtain ⟨hl, he⟩ := hr
    have hl' : inner.length = l.length := by have : inner.length = l.length * 1 := hl; omega
    refine List.ext_getElem (by simpa using hl') fun i h1 h2 => ?_
    have hi : i < l.length := by omega
    have := he i l[i] (List.getElem?_eq_getElem hi)
    have e1 : (inner.drop (i * 1)).take 1 = [Value.string l[i]] := this
    rw [Nat.mul_one, List.take_one, List.head?_drop, List.getElem?_eq_getElem h1] at e1
    simp at e1
    simp [e1]
  subst hin
  obtain ⟨hl, hh⟩ := ho
  rcases hh with ⟨hv, hn⟩ | ⟨g, cap, cur, hv, hg, hb, hnc, hm, hs, ht⟩
  · exact .inl ⟨hv, List.eq_nil_of_length_eq_zero hn⟩
  · exact .inr ⟨g, cap, cur, hv, h0 g (by rw [hv]; rfl), hg, hb, hnc, hm, by have : cur.size = cap * 1 := hs; omega, by have : cur.toList.take (l.length * 1) = l.map Value.string := ht; rwa [Nat.mul_one] at this⟩
theorem str_R {w : World} {base : Nat} {ok : Nat → Prop} {g cap : Nat} {cur : Array Value} {l : List ByteArray} (hok : ok g) (hg : base ≤ g) (hb : Blk w g 9 cur) (h1 : l.length ≤ cap) (h2 : cap ≤ maxLen) (h3 : cur.size = cap) (h4 : cur.toList.take l.length = l.map Value.string) :
    Kd.R Kd.string 9 w base ok (.slice (some ⟨g, 0, none⟩) l.length cap) l := by
  have ho : w.ownsRow base 9 1 (.slice (some ⟨g, 0, none⟩) l.length cap) l.length (l.map Value.string) :=
    ⟨by simp, .inr ⟨g, cap, cur, rfl, hg, hb, h1, h2, by omega, by rw [Nat.mul_one]; exact h4⟩⟩
  have := R_of_own (h1 := fun _ => rfl) ho
  exact ⟨fun k hk => by
    have e : k = g := by simpa [Value.ownBlock] using hk.symm
    subst e; exact hok, this.2⟩

section
variable {w : World} {g : Nat} {cur : Array Value} {xs : List Value}
theorem blk_reads {t : TypeId} (h : Blk w g t cur) (ht : cur.toList.take xs.length = xs) : ∀ (j : Nat) (v : Value), xs[j]? = some v → w.cell? ⟨g, 0 + j, none⟩ = some v := by
  intro j v hv
  have hj := (List.getElem?_eq_some_iff.1 hv).1
  rw [Nat.zero_add, h.cell j, ← Array.getElem?_toList]
  rw [← ht, List.getElem?_take, if_pos hj] at hv
  exact hv
theorem blk_there {t : TypeId} (h : Blk w g t cur) (j : Nat) (hj : j < cur.size) : (w.cell? ⟨g, j, none⟩).isSome = true := by
  rw [h.cell j, Array.getElem?_eq_getElem hj]; rfl
end

def slices_Insert_string_string.f (l0 : List ByteArray) (a1 : Int) (l2 : List ByteArray) : Option (List ByteArray) :=
  if 0 ≤ a1 ∧ a1 ≤ l0.length ∧ 0 < l2.length ∧ l0.length + l2.length < 8796093022208 then some (l0.take a1.toNat ++ l2 ++ l0.drop a1.toNat) else none
def slices_Delete_string_string.f (l0 : List ByteArray) (a1 a2 : Int) : Option (List ByteArray) :=
  if 0 ≤ a1 ∧ a1 < a2 ∧ a2 ≤ l0.length then some (l0.take a1.toNat ++ l0.drop a2.toNat) else none

theorem slices_Delete_string_string.calls (P0_ : Nat → Prop) (u9000_ : Value) (l0 : List ByteArray) (a1 a2 : Int) (r : List ByteArray) (w0 w : World) (hB : Below w0.heap.size w0 w) (ho0 : Kd.R Kd.string 9 w w0.heap.size P0_ u9000_ l0) (h : slices_Delete_string_string.f l0 a1 a2 = some r) :
    Calls Try.prog 91 #[u9000_, .int .i64 a1, .int .i64 a2] w fun e w' => ∃ v0_ : Value, e = .returned (v0_) ∧ Kd.R Kd.string 9 w' w0.heap.size (fun k_ => (P0_ k_ ∨ w.heap.size ≤ k_)) v0_ r ∧ Below w0.heap.size w0 w' ∧ Kept w w' (fun k_ => P0_ k_) := by
  unfold slices_Delete_string_string.f at h
  split at h
  case isFalse => cases h
  case isTrue hn =>
  injection h with h
  subst h
  obtain ⟨h1, h2, h3⟩ := hn
  obtain ⟨i, rfl⟩ : ∃ i : Nat, a1 = (i : Int) := ⟨a1.toNat, by omega⟩
  obtain ⟨j, rfl⟩ : ∃ j : Nat, a2 = (j : Int) := ⟨a2.toNat, by omega⟩
  rw [Int.toNat_natCast, Int.toNat_natCast]
  rcases R_str ho0 with ⟨_, rfl⟩ | ⟨g, cap, cur, rfl, hok, hg, hb, hnc, hm, hs, ht⟩
  · simp at h3; omega
  have ht' : cur.toList.take (l0.map Value.string).length = l0.map Value.string := by rw [List.length_map]; exact ht
  have hcell : ∀ k, k < l0.length → w.cell? ⟨g, 0 + k, none⟩ = some (.string (l0.getD k ByteArray.empty)) := fun k hk =>
    blk_reads hb ht' k _ (by rw [List.getElem?_map, List.getElem?_eq_getElem hk, List.getD_eq_getElem?_getD, List.getElem?_eq_getElem hk]; rfl)
  have hC := Go.Proofs.Any.slices_Delete_string_cells delLays g 0 l0.length cap i j (fun k => l0.getD k ByteArray.empty) w hnc (by unfold maxLen at hm; omega) (by omega) (by omega) hcell (fun k _ => hb.frozen _)
  refine hC.mono fun e w' ⟨he, q, hw⟩ => ?_
  have hs1 : Lib.strsOf (fun k => l0.getD k ByteArray.empty) l0.length = l0.map (fun s : ByteArray => s.data.toList) := by
    refine List.ext_getElem (by simp [Lib.strsOf]) fun k h1 h2 => ?_
    have hk : k < l0.length := by simpa using h2
    simp only [Lib.strsOf, List.getElem_map, List.getElem_range]
    rw [List.getD_eq_getElem?_getD, List.getElem?_eq_getElem hk]; rfl
  have hs2 : ∀ l : List ByteArray, (l.map (fun s : ByteArray => s.data.toList)).map encStr = l.map Value.string := by
    intro l; rw [List.map_map]; rfl
  rw [hs1] at hw
  have hval : (((l0.map (fun s : ByteArray => s.data.toList)).take i ++ (l0.map (fun s : ByteArray => s.data.toList)).drop j ++ List.replicate (j - i) []).map encStr) = (l0.take i ++ l0.drop j).map Value.string ++ List.replicate (j - i) (encStr []) := by
    rw [List.map_append, List.map_append, List.map_replicate, ← List.map_take, ← List.map_drop, hs2, hs2, List.map_append]
  rw [hval] at hw
  generalize hvs : (l0.take i ++ l0.drop j).map Value.string ++ List.replicate (j - i) (encStr []) = vs at hw
  have hlen : vs.length = l0.length := by rw [← hvs]; simp; omega
  obtain ⟨cs', hb', hs', ht2⟩ := blk_setCells vs 0 _ _ (hb.drewN q) (by omega)
  rw [List.take_zero, List.nil_append, Nat.zero_add] at ht2
  have hr : (l0.take i ++ l0.drop j).length = l0.length - (j - i) := by simp; omega
  obtain ⟨hk1, hk2⟩ := setCells_kept g vs 0 (w.drewN q)
  subst hw
  refine ⟨_, he, ?_, ?_, ?_⟩
  · rw [← hr]
    refine str_R (.inl hok) hg hb' (by omega) hm (by omega) ?_
    rw [ht2, ← hvs, List.append_assoc, List.take_left' (by simp)]
  · exact setCells_below hg vs 0 _ (hB.trans ((Drawn0.mk ⟨q, rfl⟩ : Drawn0 w (w.drewN q)).below.mono hB.size))
  · exact ⟨by rw [hk1]; exact Nat.le_refl _, fun k _ hne => hk2 k (fun e => hne (by rw [e]; exact hok))⟩

/-- Where cells are moved up, and others laid into the gap. -/
theorem moved {α : Type} (L cs vs : List α) (i m : Nat) (hi : i ≤ cs.length) (hm : vs.length = m) (hL : L.take cs.length = cs) (hl : cs.length + m ≤ L.length) (M : List α)
    (h1 : M = L.take (i + m) ++ (cs.drop i ++ L.drop (i + m + (cs.drop i).length))) : (M.take i ++ (vs ++ M.drop (i + vs.length))).take (cs.length + m) = cs.take i ++ vs ++ cs.drop i := by
  have e0 : (L.take (i + m)).length = i + m := by rw [List.length_take]; omega
  have e1 : M.take i = cs.take i := by
    rw [h1, List.take_append_of_le_length (by omega), List.take_take, ← hL, List.take_take]
    congr 1; omega
  have e2 : M.drop (i + vs.length) = cs.drop i ++ L.drop (i + m + (cs.drop i).length) := by
    rw [h1, hm, List.drop_left' e0]
  rw [e1, e2, ← List.append_assoc, ← List.append_assoc]
  refine List.take_left' ?_
  simp
  omega

theorem slices_Insert_string_string.calls (P0_ : Nat → Prop) (u9000_ : Value) (l0 : List ByteArray) (a1 : Int) (P2_ : Nat → Prop) (u9001_ : Value) (l2 : List ByteArray) (r : List ByteArray) (w0 w : World) (hB : Below w0.heap.size w0 w) (ho0 : Kd.R Kd.string 9 w w0.heap.size P0_ u9000_ l0) (hp0_2 : ∀ k_, P0_ k_ → ¬ P2_ k_) (ho2 : Kd.R Kd.string 9 w w0.heap.size P2_ u9001_ l2) (_hp2_0 : ∀ k_, P2_ k_ → ¬ P0_ k_) (h : slices_Insert_string_string.f l0 a1 l2 = some r) :
    Calls Try.prog 87 #[u9000_, .int .i64 a1, u9001_] w fun e w' => ∃ v0_ : Value, e = .returned (v0_) ∧ Kd.R Kd.string 9 w' w0.heap.size (fun k_ => ((P0_ k_ ∨ P2_ k_) ∨ w.heap.size ≤ k_)) v0_ r ∧ Below w0.heap.size w0 w' ∧ Kept w w' (fun k_ => P0_ k_ ∨ P2_ k_) := by
  unfold slices_Insert_string_string.f at h
  split at h
  case isFalse => cases h
  case isTrue hn =>
  injection h with h
  subst h
  obtain ⟨h1, h2, h3, h4⟩ := hn
  obtain ⟨i, rfl⟩ : ∃ i : Nat, a1 = (i : Int) := ⟨a1.toNat, by omega⟩
  rw [Int.toNat_natCast]
  have hsz := hB.size
  rcases R_str ho2 with ⟨_, rfl⟩ | ⟨vb, vc, vcur, rfl, vok, vg, vblk, vnc, vm, vs', vt⟩
  · simp at h3
  have hi : i ≤ l0.length := by omega
  have h64 : (l0.length + l2.length) * 16 ≤ 140737488355328 := by omega
  have vcells : ∀ (j : Nat) (v : Value), (l2.map Value.string)[j]? = some v → w.cell? ⟨vb, 0 + j, none⟩ = some v := blk_reads vblk (by rw [List.length_map]; exact vt)
  have one0 := @map_one ByteArray Value.string (fun _ => rfl) l0
  have one2 := @map_one ByteArray Value.string (fun _ => rfl) l2
  have hlr : (l0.take i ++ l2 ++ l0.drop i).length = l0.length + l2.length := by simp; omega
  rcases R_str ho0 with ⟨rfl, rfl⟩ | ⟨g, cap, cur, rfl, hok, hg, hb, hnc, hm, hs, ht⟩
  · obtain rfl : i = 0 := by simpa using hi
    have hC := Go.Proofs.Any2.slices_Insert_string_end_grow insLays none 0 0 vb 0 l2.length vc [] (l2.map Value.string) w h3 (Nat.le_refl _) (by omega) (by omega) rfl (by simp) (fun _ => rfl) (fun _ h => by cases h) vcells one2
    refine hC.mono fun e w' ⟨he, hw⟩ => ?_
    have hge := grownCap_ge w (0 + l2.length) 0 9
    have hmx := grownCap_le_maxLen w (0 + l2.length) 0 9 (by unfold maxLen; omega)
    have hgc : grownCap w (0 + l2.length) 0 (insRen.t 9) = grownCap w (0 + l2.length) 0 9 := rfl
    have ht9 : insRen.t 9 = 9 := rfl
    rw [hgc] at he hw
    rw [ht9] at hw
    generalize grownCap w (0 + l2.length) 0 9 = gc at *
    subst hw
    have hb' := Blk.new w.drew 9 (([] ++ l2.map Value.string).toArray ++ Builtin.zeroCells (Value.string { data := #[] }).cells (gc - (0 + l2.length)))
    refine ⟨_, he, ?_, ?_, ?_⟩
    · have := str_R (w := w.drew.alloc (.cells (([] ++ l2.map Value.string).toArray ++ Builtin.zeroCells (Value.string { data := #[] }).cells (gc - (0 + l2.length))) 9)) (base := w0.heap.size) (ok := fun k_ => ((P0_ k_ ∨ P2_ k_) ∨ w.heap.size ≤ k_)) (g := w.heap.size) (cap := gc) (l := l2) (.inr (Nat.le_refl _)) hsz hb' (by omega) hmx (by rw [Array.size_append, size_zeroCells]; simp [Value.cells]; omega) (by rw [Array.toList_append]; simp)
      simpa using this
    · exact (hB.drew).alloc hsz _
    · exact (Kept.of_below (((Below.refl w.heap.size w).drew).alloc (Nat.le_refl _) _) _)
  have hcells : ∀ (j : Nat) (v : Value), (l0.map Value.string)[j]? = some v → w.cell? ⟨g, 0 + j, none⟩ = some v := blk_reads hb (by rw [List.length_map]; exact ht)
  have hne : vb ≠ g := fun e => hp0_2 g hok (by rw [← e]; exact vok)
  rcases Nat.lt_or_ge i l0.length with hlt | hge'
  · by_cases hroom : l0.length + l2.length ≤ cap
    · have hC := Go.Proofs.Any2.slices_Insert_string_shift insLays g 0 l0.length cap i vb 0 l2.length vc (l0.map Value.string) (l2.map Value.string) w hlt h3 hroom (by unfold maxLen at hm; omega) hne (by simp) (by simp) hcells
        (fun j hj => by rw [Nat.zero_add]; exact blk_there hb j (by omega)) (fun j _ => hb.frozen _) vcells one0 one2 9 9 vcur.size cur.size (by unfold Blk at vblk; simp [World.shape?, vblk]) (by unfold Blk at hb; simp [World.shape?, hb]) (by omega) (vblk.frozen _) (vblk.frozen _)
      refine hC.mono fun e w' ⟨he, hw⟩ => ?_
      rw [Nat.zero_add, Nat.zero_add] at hw
      subst hw
      have hd : ((l0.map Value.string).drop i).length = l0.length - i := by simp
      obtain ⟨cs1, b1, s1, t1⟩ := blk_setCells ((l0.map Value.string).drop i) (i + l2.length) _ _ hb.drew (by rw [hd]; omega)
      obtain ⟨cs2, b2, s2, t2⟩ := blk_setCells (l2.map Value.string) i _ _ b1 (by rw [s1, List.length_map]; omega)
      obtain ⟨k1, k2⟩ := setCells_kept g ((l0.map Value.string).drop i) (i + l2.length) w.drew
      obtain ⟨k3, k4⟩ := setCells_kept g (l2.map Value.string) i (w.drew.setCells g (i + l2.length) ((l0.map Value.string).drop i))
      have hfit : (l0.map Value.string).length + l2.length ≤ cur.toList.length := by
        have hcl : cur.toList.length = cur.size := Array.length_toList
        rw [List.length_map, hcl, hs]; exact hroom
      have hmv := moved cur.toList (l0.map Value.string) (l2.map Value.string) i l2.length (by simpa using hi) (by simp) (by rw [List.length_map]; exact ht) hfit cs1.toList (by rw [t1])
      rw [List.length_map] at hmv
      refine ⟨_, he, ?_, ?_, ?_⟩
      · rw [← hlr]
        refine str_R (.inl (.inl hok)) hg b2 (by omega) hm (by omega) ?_
        rw [t2, hlr, hmv]
        simp
      · exact setCells_below hg _ _ _ (setCells_below hg _ _ _ hB.drew)
      · refine ⟨by rw [k3, k1]; exact Nat.le_refl _, fun k _ hk => ?_⟩
        have hkg : k ≠ g := fun e => hk (.inl (by rw [e]; exact hok))
        exact (k4 k hkg).trans (k2 k hkg)
    · have hC := Go.Proofs.Any2.slices_Insert_string_grow insLays g 0 l0.length cap i vb 0 l2.length vc (l0.map Value.string) (l2.map Value.string) w hlt h3 hnc (by omega) h64 (by simp) (by simp) hcells vcells one0 one2
      refine hC.mono fun e w' ⟨he, hw⟩ => ?_
      have hge := grownCap_ge w (l0.length + l2.length) cap 9
      have hmx := grownCap_le_maxLen w (l0.length + l2.length) cap 9 (by unfold maxLen; omega)
      have hgc : grownCap w (l0.length + l2.length) cap (insRen.t 9) = grownCap w (l0.length + l2.length) cap 9 := rfl
      have ht9 : insRen.t 9 = 9 := rfl
      rw [hgc] at he hw
      rw [ht9] at hw
      generalize grownCap w (l0.length + l2.length) cap 9 = gc at *
      generalize hcs : ((l0.map Value.string).take i).toArray ++ Builtin.zeroCells (Value.string { data := #[] }).cells (l0.length + l2.length - i) ++ Builtin.zeroCells (Value.string { data := #[] }).cells (gc - (l0.length + l2.length)) = ccs at hw
      have hz : (Value.string { data := #[] }).cells.size = 1 := rfl
      have hcsz : ccs.size = gc := by
        rw [← hcs, Array.size_append, Array.size_append, size_zeroCells, size_zeroCells, hz]
        simp
        omega
      have hct : ccs.toList.take i = (l0.map Value.string).take i := by
        rw [← hcs, Array.toList_append, Array.toList_append, List.append_assoc]
        exact List.take_left' (by simp; omega)
      have hcl : ccs.toList.length = ccs.size := Array.length_toList
      have hb0 := Blk.new w 9 ccs
      obtain ⟨cs1, b1, s1, t1⟩ := blk_setCells (l2.map Value.string) i _ _ hb0.drew (by rw [List.length_map]; omega)
      obtain ⟨cs2, b2, s2, t2⟩ := blk_setCells ((l0.map Value.string).drop i) (i + l2.length) _ _ b1.drew (by rw [s1]; simp; omega)
      subst hw
      refine ⟨_, he, ?_, ?_, ?_⟩
      · rw [← hlr]
        refine str_R (.inr (Nat.le_refl _)) hsz b2 (by omega) hmx (by omega) ?_
        have e1 : cs1.toList.take (i + l2.length) = (l0.map Value.string).take i ++ l2.map Value.string := by
          rw [t1, hct, ← List.append_assoc]
          exact List.take_left' (by simp; omega)
        rw [t2, e1, ← List.append_assoc, hlr]
        rw [List.take_left' (by simp; omega)]
        simp
      · exact setCells_below hsz _ _ _ ((setCells_below hsz _ _ _ ((hB.alloc hsz _).drew)).drew)
      · exact Kept.of_below (setCells_below (Nat.le_refl _) _ _ _ ((setCells_below (Nat.le_refl _) _ _ _ (((Below.refl w.heap.size w).alloc (Nat.le_refl _) _).drew)).drew)) _
  · obtain rfl : i = l0.length := by omega
    have hres : l0.take l0.length ++ l2 ++ l0.drop l0.length = l0 ++ l2 := by simp
    rw [hres] at hlr ⊢
    by_cases hroom : l0.length + l2.length ≤ cap
    · have hC := Go.Proofs.Any2.slices_Insert_string_end_room insLays g 0 l0.length cap vb 0 l2.length vc (l2.map Value.string) w h3 hroom (by unfold maxLen at hm; omega) (by simp) (fun j hj => blk_there hb _ (by omega)) (fun j _ => hb.frozen _) vcells one2
      refine hC.mono fun e w' ⟨he, hw⟩ => ?_
      rw [Nat.zero_add] at hw
      subst hw
      obtain ⟨cs1, b1, s1, t1⟩ := blk_setCells (l2.map Value.string) l0.length _ _ hb (by rw [List.length_map]; omega)
      obtain ⟨k1, k2⟩ := setCells_kept g (l2.map Value.string) l0.length w
      refine ⟨_, he, ?_, ?_, ?_⟩
      · rw [← hlr]
        refine str_R (.inl (.inl hok)) hg b1 (by omega) hm (by omega) ?_
        rw [t1, ht, hlr, ← List.append_assoc]
        rw [List.take_left' (by simp)]
        simp
      · exact setCells_below hg _ _ _ hB
      · exact ⟨by rw [k1]; exact Nat.le_refl _, fun k _ hk => k2 k (fun e => hk (.inl (by rw [e]; exact hok)))⟩
    · have hC := Go.Proofs.Any2.slices_Insert_string_end_grow insLays (some ⟨g, 0, none⟩) l0.length cap vb 0 l2.length vc (l0.map Value.string) (l2.map Value.string) w h3 hnc (by omega) h64 (by simp) (by simp) (fun h => by cases h) (fun a ha j v hv => by
        injection ha with ha
        subst ha
        have := hcells j v hv
        rw [Nat.zero_add] at this
        have e : (⟨g, 0, none⟩ : Addr).add j = ⟨g, j, none⟩ := by unfold Addr.add; by_cases e : j = 0 <;> simp [e]
        rw [e]; exact this) vcells one2
      refine hC.mono fun e w' ⟨he, hw⟩ => ?_
      have hge := grownCap_ge w (l0.length + l2.length) cap 9
      have hmx := grownCap_le_maxLen w (l0.length + l2.length) cap 9 (by unfold maxLen; omega)
      have hgc : grownCap w (l0.length + l2.length) cap (insRen.t 9) = grownCap w (l0.length + l2.length) cap 9 := rfl
      have ht9 : insRen.t 9 = 9 := rfl
      rw [hgc] at he hw
      rw [ht9] at hw
      generalize grownCap w (l0.length + l2.length) cap 9 = gc at *
      subst hw
      have hz : (Value.string { data := #[] }).cells.size = 1 := rfl
      refine ⟨_, he, ?_, ?_, ?_⟩
      · rw [← hlr]
        refine str_R (.inr (Nat.le_refl _)) hsz (Blk.new w.drew 9 _) (by omega) hmx (by rw [Array.size_append, size_zeroCells, hz]; simp; omega) ?_
        rw [Array.toList_append, hlr]
        exact (List.take_left' (by simp)).trans (by simp)
      · exact (hB.drew).alloc hsz _
      · exact Kept.of_below (((Below.refl w.heap.size w).drew).alloc (Nat.le_refl _) _) _
end Go.Proofs.Ytlbikfamjogpnaa
end

/- Cuts with a capacity (x[i:j:j]): what they come to, and what they read. Conditions: the bounds lie in the row. -/
section
namespace Go.Proofs.Ytlbikfamjogpnaa
open Go.RowKit Go.Proofs.YtlbikfamjogpnaaW.PrintWords
section
variable {P : Program}
theorem cut_toc (t e : TypeId) (kh : IntKind) {i : TypeInfo} (ht : P.underlying t = some (.slice e)) (hi : P.info? e = some i) (A : Option Addr) (n c : Nat) (j : Int) (h0 : 0 ≤ j) (hm : j ≤ n) (hc : n ≤ c) :
    ∀ W : World, (Instr.slice t (.slice A n c) none (some (.int kh j)) (some (.int kh j))).run P W = .ok (.slice A j.toNat j.toNat) W := by
  intro W
  have hel : P.elem t = e := by simp [Program.elem, ht]
  have hu : P.underlying t = some (.slice (P.elem t)) := by rw [hel]; exact ht
  have ha : (A.map fun x => x.add 0) = A := by cases A <;> simp [Addr.add]
  rw [run_slice_hm W t A n c hu kh kh j j h0 (Int.le_refl _) (by omega), hel]
  simp [sizeOf, typeInfo, hi, sliced, Result.andThen, ha]
theorem cut_midc (t e : TypeId) (kl kh : IntKind) {i : TypeInfo} (ht : P.underlying t = some (.slice e)) (hi : P.info? e = some i) (size : Nat) (hsz : i.size = size) (A : Option Addr) (n c : Nat) (lo hi' : Int) (h0 : 0 ≤ lo) (h1 : lo ≤ hi') (h2 : hi' ≤ n) (hc : n ≤ c) :
    ∀ W : World, (Instr.slice t (.slice A n c) (some (.int kl lo)) (some (.int kh hi')) (some (.int kh hi'))).run P W = .ok (.slice (if hi'.toNat = lo.toNat then A else A.map (·.add (lo.toNat * size))) (hi'.toNat - lo.toNat) (hi'.toNat - lo.toNat)) W := by
  intro W
  have hel : P.elem t = e := by simp [Program.elem, ht]
  have hu : P.underlying t = some (.slice (P.elem t)) := by rw [hel]; exact ht
  rw [run_slice_lhm W t A n c hu kl kh kh lo hi' hi' h0 h1 (Int.le_refl _) (by omega), hel]
  simp [sizeOf, typeInfo, hi, hsz, sliced, Result.andThen]
end
section
variable {α : Type} {k : Kd α} {w : World} {A : Option Addr} {xs : List α} {lo hi : Nat} {ok : Nat → Prop}
theorem Kd.C_midc (h : Kd.C k w A xs.length xs) (h1 : lo ≤ hi) (h2 : hi ≤ xs.length) : Kd.C k w (if hi = lo then A else A.map (·.add (lo * k.sz))) ((xs.take hi).drop lo).length ((xs.take hi).drop lo) := by
  have hl : (xs.take hi).length = hi := by rw [List.length_take]; omega
  exact Kd.C_drop (Kd.C_take h h2) (by omega) (by omega)
theorem Kd.F_midc (h : Kd.F k w ok A xs.length xs) (h1 : lo ≤ hi) (h2 : hi ≤ xs.length) : Kd.F k w ok (if hi = lo then A else A.map (·.add (lo * k.sz))) ((xs.take hi).drop lo).length ((xs.take hi).drop lo) := Kd.F_imp h (fun _ hC => Kd.C_midc hC h1 h2)
end
end Go.Proofs.Ytlbikfamjogpnaa
end
