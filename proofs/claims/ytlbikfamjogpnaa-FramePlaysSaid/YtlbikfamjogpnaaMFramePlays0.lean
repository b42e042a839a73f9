/- The texts of this proof, joined: contracts of the functions that the law reaches, and what they come to in plain Lean. Conditions: those that each theorem names. -/
import Derived.WalkKit
import Derived.WalkSpells
import Derived.Maps.AppendAt
import Derived.Deep.AppendLies
import Derived.Deep.Draws
import Derived.Laws.Rows
import Derived.Lib.Hide
import Derived.WalkLawsBesides
import Derived.Laws.CopyOwn
import Derived.Test.YtlbikfamjogpnaaRows
import Derived.Deep.LoopGhost
import Derived.Lib.AppendStr
import Derived.Deep.Slices
import Derived.Deep.Strs
import Derived.ChangeSame
import Derived.ProofKit
import Derived.BigQuiet
import Derived.Deep.QuietTactic
import Derived.Deep.RegionHeld3
import Derived.Deep.DrawnRows
import Derived.Below
import Derived.Deep.DeepCutAuto

/- Words for memory: a slice that reads as a list, a block that is known whole, append onto a row of one's own, worlds that keep all blocks but a few. No program here. Conditions: none. -/
section
namespace Go.Proofs.Ytlbikfamjogpnaa
open Go.RowKit

theorem block_of_add (a : Addr) (n : Nat) : (a.add n).block = a.block := by unfold Addr.add; split <;> rfl
theorem add_of_add (a : Addr) (i j : Nat) : (a.add i).add j = a.add (i + j) := by
  unfold Addr.add
  by_cases hi : i = 0 <;> by_cases hj : j = 0 <;> simp [hi, hj, Nat.add_assoc]

def Reads (w : World) (B size : Nat) (A : Option Addr) (n : Nat) (xs : List Value) : Prop :=
  xs.length = n * size ∧ (0 < n → ∃ ad, A = some ad ∧ ad.block < B ∧ ∀ j u, xs[j]? = some u → w.cell? (ad.add j) = some u)

section
variable {w w' : World} {B B' size n : Nat} {A : Option Addr} {xs : List Value}
theorem Reads.none_ : Reads w B size A 0 [] := ⟨by simp, fun h => absurd h (by omega)⟩
theorem Reads.at_ {k : Nat} (h : Reads w B 1 A n xs) (hk : k < n) : ∃ ad u, A = some ad ∧ ad.block < B ∧ xs[k]? = some u ∧ w.cell? (ad.add k) = some u := by
  obtain ⟨ad, e, hb, hc⟩ := h.2 (by omega)
  have hl : k < xs.length := by have := h.1; omega
  exact ⟨ad, xs[k], e, hb, List.getElem?_eq_getElem hl, hc k _ (List.getElem?_eq_getElem hl)⟩
theorem Reads.keep (h : Reads w B size A n xs) (hk : ∀ p : Addr, p.block < B → w'.cell? p = w.cell? p) : Reads w' B size A n xs :=
  ⟨h.1, fun hn => by
    obtain ⟨ad, e, hb, hc⟩ := h.2 hn
    exact ⟨ad, e, hb, fun j u hu => (hk _ (by rw [block_of_add]; exact hb)).trans (hc j u hu)⟩⟩
theorem Reads.more (h : Reads w B size A n xs) (hB : B ≤ B') : Reads w B' size A n xs :=
  ⟨h.1, fun hn => by
    obtain ⟨ad, e, hb, hc⟩ := h.2 hn
    exact ⟨ad, e, by omega, hc⟩⟩
theorem Reads.below (h : Reads w B size A n xs) (hb : Below B w w') : Reads w' B size A n xs := h.keep fun _ hp => hb.cell hp
theorem Reads.drew (h : Reads w B size A n xs) : Reads w.drew B size A n xs := h
theorem Reads.drewN (h : Reads w B size A n xs) (k : Nat) : Reads (w.drewN k) B size A n xs := h
theorem Reads.alloc (h : Reads w B size A n xs) (hB : B ≤ w.heap.size) (o : Obj) : Reads (w.alloc o) B size A n xs := h.keep fun p hp => World.cell?_alloc_lt w o p (by omega)
theorem Reads.setCell (h : Reads w B size A n xs) {p : Addr} (hB : B ≤ p.block) (u : Value) : Reads (w.setCell p u) B size A n xs :=
  h.keep fun q hq => World.cell?_setCell_other w p q u (fun e => by subst e; omega)
theorem Reads.grown (h : Reads w B size A n xs) {row : Option Nat} (hg : w.grownBy w' row) (hB : B ≤ w.heap.size) (hr : ∀ g, row = some g → B ≤ g) : Reads w' B size A n xs :=
  h.keep fun p hp => World.cell?_of_block (hg.block p.block (by omega) (fun e => by have := hr _ e.symm; omega))
theorem Reads.cut (h : Reads w B size A n xs) {k cap : Nat} (hk : k ≤ n) (hc : n ≤ cap) :
    Reads w B size (if cap = k then A else A.map (·.add (k * size))) (n - k) (xs.drop (k * size)) := by
  refine ⟨by rw [List.length_drop, h.1, Nat.sub_mul], fun hn => ?_⟩
  obtain ⟨ad, rfl, hb, hcell⟩ := h.2 (by omega)
  rw [if_neg (by omega)]
  refine ⟨ad.add (k * size), rfl, by rw [block_of_add]; exact hb, fun j u hu => ?_⟩
  rw [add_of_add]
  exact hcell _ u (by rw [← hu, List.getElem?_drop])
theorem Reads.take_ (h : Reads w B 1 A n xs) {k : Nat} (hk : k ≤ n) : Reads w B 1 A k (xs.take k) := by
  refine ⟨by rw [List.length_take, h.1]; omega, fun hp => ?_⟩
  obtain ⟨ad, e, hb, hc⟩ := h.2 (by omega)
  exact ⟨ad, e, hb, fun j u hu => hc j u (by rw [List.getElem?_take] at hu; split at hu <;> first | exact hu | cases hu)⟩
theorem Reads.of_own {base : Nat} {e : TypeId} {c : Nat} (h : w.ownsRow base e size (.slice A n c) n xs) : Reads w w.heap.size size A n xs := by
  refine ⟨h.1, fun hn => ?_⟩
  obtain ⟨g, cap, hv, _, hlt⟩ := h.form hn
  have hA : A = some ⟨g, 0, none⟩ := by injection hv
  subst hA
  exact ⟨_, rfl, hlt, h.cells (g := g) rfl⟩
end

def Blk (w : World) (g : Nat) (t : TypeId) (cs : Array Value) : Prop := w.heap[g]? = some (.cells cs t (0, 0))

section
variable {w w' : World} {g : Nat} {t : TypeId} {cs : Array Value}
theorem Blk.lt (h : Blk w g t cs) : g < w.heap.size := by
  rcases Nat.lt_or_ge g w.heap.size with hlt | hge
  · exact hlt
  · unfold Blk at h; rw [Array.getElem?_eq_none hge] at h; cases h
theorem Blk.cell (h : Blk w g t cs) (i : Nat) : w.cell? ⟨g, i, none⟩ = cs[i]? := cell_of_row w g i cs t (0, 0) h
theorem Blk.frozen (h : Blk w g t cs) (i : Nat) : w.frozen? ⟨g, i, none⟩ = false := by
  unfold Blk at h
  simp [World.frozen?, h]
theorem Blk.new (w : World) (t : TypeId) (cs : Array Value) : Blk (w.alloc (.cells cs t)) w.heap.size t cs := heap_alloc_new w _
theorem Blk.drew (h : Blk w g t cs) : Blk w.drew g t cs := h
theorem Blk.drewN (h : Blk w g t cs) (n : Nat) : Blk (w.drewN n) g t cs := h
theorem Blk.alloc (h : Blk w g t cs) (o : Obj) : Blk (w.alloc o) g t cs := (Below.heap_alloc w o g h.lt).trans h
theorem Blk.set_ (h : Blk w g t cs) (i : Nat) (u : Value) : Blk (w.setCell ⟨g, i, none⟩ u) g t (cs.setIfInBounds i u) := by
  unfold Blk at h ⊢
  simp [World.setCell, Array.getElem?_modify, h]
theorem Blk.far (h : Blk w g t cs) {p : Addr} (hp : g ≠ p.block) (u : Value) : Blk (w.setCell p u) g t cs := (Below.heap_setCell w p u g hp).trans h
theorem Blk.below {B : Nat} (h : Blk w g t cs) (hb : Below B w w') (hg : g < B) : Blk w' g t cs := (hb.block g hg).trans h
theorem Blk.grown {row : Option Nat} (h : Blk w g t cs) (hb : w.grownBy w' row) (hg : some g ≠ row) : Blk w' g t cs := (hb.block g h.lt hg).trans h
theorem Blk.ne_ {g' : Nat} {t' : TypeId} {cs' : Array Value} (h : Blk w g t cs) (h' : Blk w g' t' cs') (hne : t ≠ t') : g ≠ g' := by
  rintro rfl
  unfold Blk at h h'
  rw [h] at h'
  injection h' with h'
  injection h' with _ ht
  exact hne ht
theorem own_blk_ne {base : Nat} {e : TypeId} {size n : Nat} {v : Value} {xs : List Value} (h : w.ownsRow base e size v n xs) (hg : Blk w g t cs) (hne : e ≠ t) : v.ownBlock ≠ some g := by
  rcases h.2 with ⟨rfl, _⟩ | ⟨g', cap, cur, rfl, _, hh, _⟩
  · simp [Value.ownBlock]
  · intro he
    have : g' = g := by simpa [Value.ownBlock] using he
    subst this
    exact Blk.ne_ (t := e) hh hg hne rfl
end

section
variable {P : Program} (w : World)

theorem run_append_of_nil (base : Nat) (t ty e : TypeId) (i : TypeInfo) (size : Nat) (ht : P.underlying t = some (.slice e)) (hi : P.info? e = some i)
    (v : Value) (n : Nat) (xs : List Value) (hown : w.ownsRow base e size v n xs) (c : Nat) : (Builtin.append_ #[t, t] ty #[v, .slice none 0 c]).run P w = .ok v w := by
  rcases hown.2 with ⟨rfl, rfl⟩ | ⟨g, cap, cur, rfl, _, _, hnc, _⟩
  · simp [Builtin.append_, run_underlying ht, sizeOf, typeInfo, hi, Builtin.lenOf, Builtin.firstCells]
  · simp [Builtin.append_, run_underlying ht, sizeOf, typeInfo, hi, Builtin.lenOf, Builtin.firstCells, hnc, storeCells]

theorem run_append_any (base : Nat) (t ty e : TypeId) (i : TypeInfo) (z : Value) (size bytes : Nat) (ht : P.underlying t = some (.slice e)) (hi : P.info? e = some i) (hz : i.zero = some z)
    (hsize : i.size = size) (hby : i.bytes = bytes) (hzs : z.cells.size = size) (hsz : 0 < size)
    (v : Value) (n : Nat) (xs : List Value) (hown : w.ownsRow base e size v n xs)
    (B : Nat) (A : Option Addr) (m c : Nat) (news : List Value) (hr : Reads w B size A m news) (h1 : ∀ u ∈ news, u.oneCell' = true)
    (h63 : n + m ≤ maxLen) (hbytes : (n + m) * bytes ≤ 140737488355328) (hbase : base ≤ w.heap.size) :
    ∃ v' w', (Builtin.append_ #[t, t] ty #[v, .slice A m c]).run P w = .ok v' w' ∧ w'.ownsRow base e size v' (n + m) (xs ++ news) ∧ w.grownBy w' v.ownBlock ∧
      (v'.ownBlock = v.ownBlock ∨ v'.ownBlock = some w.heap.size) := by
  rcases A with _ | ad
  · have hm : m = 0 := by
      rcases Nat.eq_zero_or_pos m with h0 | h0
      · exact h0
      · obtain ⟨ad, h, _⟩ := hr.2 h0
        cases h
    subst hm
    have hn : news = [] := List.eq_nil_of_length_eq_zero (by simpa using hr.1)
    subst hn
    exact ⟨v, w, run_append_of_nil w base t ty e i size ht hi v n xs hown c, by simpa using hown, World.grownBy.refl w _, .inl rfl⟩
  · have hcells : ∀ j u, news[j]? = some u → w.cell? (ad.add j) = some u := by
      intro j u hu
      rcases Nat.eq_zero_or_pos m with h0 | h0
      · subst h0
        have hn : news = [] := List.eq_nil_of_length_eq_zero (by simpa using hr.1)
        subst hn
        simp at hu
      · obtain ⟨ad', h, _, hc⟩ := hr.2 h0
        injection h with h
        subst h
        exact hc j u hu
    obtain ⟨v', w', hrun, h2, h3, _, h5⟩ := run_append_own_at (P := P) w base t ty e i z size bytes ht hi hz hsize hby hzs hsz v n xs hown ad m c news hr.1 hcells h1 h63 hbytes hbase
    exact ⟨v', w', hrun, h2, h3, h5⟩

theorem wp_append_any {o : Oper} {a : Act} {K : Act → World → Prop} {Q : Exit → Act → World → Prop} (s x : Operand) (t : TypeId)
    (ho : o.op = .call { callee := .builtin .append, args := #[s, x], argTypes := #[t, t] })
    (base : Nat) (e : TypeId) (i : TypeInfo) (z : Value) (size bytes : Nat) (ht : P.underlying t = some (.slice e)) (hi : P.info? e = some i) (hz : i.zero = some z)
    (hsize : i.size = size) (hby : i.bytes = bytes) (hzs : z.cells.size = size) (hsz : 0 < size)
    (v : Value) (n : Nat) (xs : List Value) (hs : a.eval s = v) (hown : w.ownsRow base e size v n xs)
    (B : Nat) (A : Option Addr) (m c : Nat) (news : List Value) (hx : a.eval x = .slice A m c) (hr : Reads w B size A m news) (h1 : ∀ u ∈ news, u.oneCell' = true)
    (h63 : n + m ≤ maxLen) (hbytes : (n + m) * bytes ≤ 140737488355328) (hbase : base ≤ w.heap.size)
    (h : ∀ v' w', w'.ownsRow base e size v' (n + m) (xs ++ news) → w.grownBy w' v.ownBlock → (v'.ownBlock = v.ownBlock ∨ v'.ownBlock = some w.heap.size) → K (a.put o.dst v') w') : o.wp P a w K Q := by
  obtain ⟨v', w', hrun, h2, h3, h4⟩ := run_append_any (P := P) w base t o.type e i z size bytes ht hi hz hsize hby hzs hsz v n xs hown B A m c news hr h1 h63 hbytes hbase
  unfold Oper.wp execOp
  simp only [ho, resolve, invoke, builtin, Sem.run_bind, Sem.run_pure, Result.andThen_ok, List.map_toArray, List.map_cons, List.map_nil, hs, hx, hrun]
  exact h v' w' h2 h3 h4

theorem wpList_append_any {ops : Array Oper} {rest : List Oper} {o : Oper} {a : Act} {Q : Exit → Act → World → Prop} (hgd : o.guard = none) (s x : Operand) (t : TypeId)
    (ho : o.op = .call { callee := .builtin .append, args := #[s, x], argTypes := #[t, t] })
    (base : Nat) (e : TypeId) (i : TypeInfo) (z : Value) (size bytes : Nat) (ht : P.underlying t = some (.slice e)) (hi : P.info? e = some i) (hz : i.zero = some z)
    (hsize : i.size = size) (hby : i.bytes = bytes) (hzs : z.cells.size = size) (hsz : 0 < size)
    (v : Value) (n : Nat) (xs : List Value) (hs : a.eval s = v) (hown : w.ownsRow base e size v n xs)
    (B : Nat) (A : Option Addr) (m c : Nat) (news : List Value) (hx : a.eval x = .slice A m c) (hr : Reads w B size A m news) (h1 : ∀ u ∈ news, u.oneCell' = true)
    (h63 : n + m ≤ maxLen) (hbytes : (n + m) * bytes ≤ 140737488355328) (hbase : base ≤ w.heap.size)
    (h : ∀ v' w', w'.ownsRow base e size v' (n + m) (xs ++ news) → w.grownBy w' v.ownBlock → (v'.ownBlock = v.ownBlock ∨ v'.ownBlock = some w.heap.size) → wpList P ops Q rest (a.put o.dst v') w') : wpList P ops Q (o :: rest) a w :=
  wpList_plain hgd fun _ hK => wp_append_any w s x t ho base e i z size bytes ht hi hz hsize hby hzs hsz v n xs hs hown B A m c news hx hr h1 h63 hbytes hbase fun v' w' h2 h3 h4 => hK _ _ (h v' w' h2 h3 h4)
theorem step_append_any {ops : Array Oper} {o : Oper} {a : Act} {K : Act → World → Prop} {Q : Exit → Act → World → Prop} {E : Prop} (hgd : o.guard = none) (s x : Operand) (t : TypeId)
    (ho : o.op = .call { callee := .builtin .append, args := #[s, x], argTypes := #[t, t] })
    (base : Nat) (e : TypeId) (i : TypeInfo) (z : Value) (size bytes : Nat) (ht : P.underlying t = some (.slice e)) (hi : P.info? e = some i) (hz : i.zero = some z)
    (hsize : i.size = size) (hby : i.bytes = bytes) (hzs : z.cells.size = size) (hsz : 0 < size)
    (v : Value) (n : Nat) (xs : List Value) (hs : a.eval s = v) (hown : w.ownsRow base e size v n xs)
    (B : Nat) (A : Option Addr) (m c : Nat) (news : List Value) (hx : a.eval x = .slice A m c) (hr : Reads w B size A m news) (h1 : ∀ u ∈ news, u.oneCell' = true)
    (h63 : n + m ≤ maxLen) (hbytes : (n + m) * bytes ≤ 140737488355328) (hbase : base ≤ w.heap.size)
    (h : ∀ v' w', w'.ownsRow base e size v' (n + m) (xs ++ news) → w.grownBy w' v.ownBlock → (v'.ownBlock = v.ownBlock ∨ v'.ownBlock = some w.heap.size) → K (a.put o.dst v') w') :
    if Region.wanted o (yielded ops a.tmps) = true then Oper.wp P o a w K Q else E := by
  have hw : Region.wanted o (yielded ops a.tmps) = true := by simp [Region.wanted, hgd]
  rw [if_pos hw]
  exact wp_append_any w s x t ho base e i z size bytes ht hi hz hsize hby hzs hsz v n xs hs hown B A m c news hx hr h1 h63 hbytes hbase h
end

/-- An owned row that is no nil, written out. -/
theorem own_form {w : World} {base size n : Nat} {e : TypeId} {v : Value} {xs : List Value} (h : w.ownsRow base e size v n xs) {k : Nat} (hk : v.ownBlock = some k) :
    ∃ c, v = .slice (some ⟨k, 0, none⟩) n c ∧ n ≤ c ∧ base ≤ k ∧ k < w.heap.size := by
  have hl := h.lt k hk
  rcases h.2 with ⟨rfl, _⟩ | ⟨g, cap, cur, rfl, _, _, hnc, _⟩
  · simp [Value.ownBlock] at hk
  · have : g = k := by simpa [Value.ownBlock] using hk
    subst this
    exact ⟨cap, rfl, hnc, hl⟩

/-- An owned row's value is a slice. -/
theorem own_shape {w : World} {base size n : Nat} {e : TypeId} {v : Value} {xs : List Value} (h : w.ownsRow base e size v n xs) : ∃ A c, v = .slice A n c := by
  rcases h.2 with ⟨rfl, rfl⟩ | ⟨g, cap, cur, rfl, _⟩
  · exact ⟨none, 0, rfl⟩
  · exact ⟨some ⟨g, 0, none⟩, cap, rfl⟩

/-- An owned row stays while another block is written. -/
theorem own_far {w : World} {base size n : Nat} {e : TypeId} {v : Value} {xs : List Value} (h : w.ownsRow base e size v n xs) {p : Addr} (hp : v.ownBlock ≠ some p.block) (u : Value) : (w.setCell p u).ownsRow base e size v n xs := by
  obtain ⟨h1, h2⟩ := h
  refine ⟨h1, ?_⟩
  rcases h2 with h2 | ⟨g, cap, cur, hv, hg, hh, r⟩
  · exact .inl h2
  · refine .inr ⟨g, cap, cur, hv, hg, ?_, r⟩
    rw [Below.heap_setCell _ _ _ _ (by rintro rfl; exact hp (by rw [hv]; rfl))]
    exact hh

/-- A byte as a cell. -/
def byt (b : UInt8) : Value := .int .u8 (b.toNat : Int)
theorem byt_one (l : List UInt8) : ∀ u ∈ l.map byt, u.oneCell' = true := by
  intro u hu
  obtain ⟨b, _, rfl⟩ := List.mem_map.1 hu
  rfl

end Go.Proofs.Ytlbikfamjogpnaa
end

/- The words for memory of Base0, with the walk's laws that stand beside the common ones. No program here. Conditions: none. -/
section

end

/- A disk as a plain Lean value, and where it lies in memory. No program here. Conditions: none. -/
section
namespace Go.Proofs.Ytlbikfamjogpnaa
open Go.RowKit

structure Dk where
  S : List (List UInt8)
  off : Bool
  cut : Int
  odd : Bool
  writes : Int
  lives : Int

def zeros64 : List UInt8 := List.replicate 64 0
def pad (b : List UInt8) : List UInt8 := b ++ List.replicate (64 - b.length) 0
theorem pad_length (b : List UInt8) (h : b.length ≤ 64) : (pad b).length = 64 := by simp [pad]; omega

/-- Why a call may not be. -/
def Dk.may (d : Dk) (sector size : Int) : Int :=
  if sector < 0 ∨ (d.S.length : Int) ≤ sector ∨ 64 < size then 1 else if d.off = true then 4 else 0

def Dk.put (d : Dk) (sector : Int) (b : List UInt8) : Dk := { d with S := d.S.set sector.toNat (pad b) }
def Dk.cutOff (d : Dk) : Dk := { d with cut := 0, off := true }
def Dk.counted (d : Dk) : Dk := { d with writes := wrap64 (d.writes + 1) }
def Dk.less (d : Dk) : Dk := { d with cut := d.cut - 1 }

/-- A write: the disk behind it, and what it answers. -/
def Dk.write (d : Dk) (sector : Int) (b : List UInt8) : Dk × Int :=
  if d.may sector b.length = 0 then
    if 0 < d.cut then
      if d.cut = 1 then (if d.odd = true then (d.cutOff.put sector b, 4) else (d.cutOff, 4))
      else ((d.less.put sector b).counted, 0)
    else ((d.put sector b).counted, 0)
  else (d, d.may sector b.length)

def Dk.armed (d : Dk) (n how : Int) : Dk := { d with cut := max n 0, odd := how.tmod 2 != 0 }
def Dk.on (d : Dk) : Dk := { d with off := false, cut := 0, lives := wrap64 (d.lives + 1) }
def Dk.new (n : Nat) : Dk := { S := List.replicate n zeros64, off := false, cut := 0, odd := false, writes := 0, lives := 1 }

/-- A sector's slice: nil, or 64 bytes. -/
def SecAt (w : World) (v : Value) (s : List UInt8) : Prop :=
  s.length = 64 ∧ ((v = .slice none 0 0 ∧ s = zeros64) ∨ ∃ g, v = .slice (some ⟨g, 0, none⟩) 64 64 ∧ Blk w g 5 (s.map byt).toArray)

/-- The disk's struct lies in block b, its sectors' slices in block a. -/
def DiskAt (w : World) (b a : Nat) (d : Dk) : Prop :=
  ∃ (c : Nat) (arr : Array Value),
    Blk w b 95 #[.slice (some ⟨a, 0, none⟩) d.S.length c, .bool d.off, .int .i64 d.cut, .bool d.odd, .int .i64 d.writes, .int .i64 d.lives] ∧
    Blk w a 36 arr ∧ arr.size = c ∧ d.S.length ≤ c ∧ c ≤ maxLen ∧ 1 ≤ d.S.length ∧ d.S.length ≤ 4096 ∧ 0 ≤ d.cut ∧ d.cut ≤ 9223372036854775807 ∧
    ∀ (i : Nat) (s : List UInt8), d.S[i]? = some s → ∃ v, arr[i]? = some v ∧ SecAt w v s

theorem SecAt.keep {w w' : World} {v : Value} {s : List UInt8} (h : SecAt w v s) (hk : ∀ g cs, Blk w g 5 cs → Blk w' g 5 cs) : SecAt w' v s := by
  refine ⟨h.1, ?_⟩
  rcases h.2 with h | ⟨g, hv, hb⟩
  · exact .inl h
  · exact .inr ⟨g, hv, hk g _ hb⟩

theorem DiskAt.keep {w w' : World} {b a : Nat} {d : Dk} (h : DiskAt w b a d) (hb : w'.heap[b]? = w.heap[b]?) (ha : w'.heap[a]? = w.heap[a]?)
    (hk : ∀ g cs, Blk w g 5 cs → Blk w' g 5 cs) : DiskAt w' b a d := by
  obtain ⟨c, arr, h1, h2, h3, h4, h5, h6, h7, h8, h9, h10⟩ := h
  refine ⟨c, arr, hb.trans h1, ha.trans h2, h3, h4, h5, h6, h7, h8, h9, fun i s hs => ?_⟩
  obtain ⟨v, hv, hsec⟩ := h10 i s hs
  exact ⟨v, hv, hsec.keep hk⟩

theorem DiskAt.ne {w : World} {b a : Nat} {d : Dk} (h : DiskAt w b a d) : b ≠ a := by
  obtain ⟨c, arr, h1, h2, _⟩ := h
  exact h1.ne_ h2 (by decide)
theorem DiskAt.ltb {w : World} {b a : Nat} {d : Dk} (h : DiskAt w b a d) : b < w.heap.size := by
  obtain ⟨c, arr, h1, h2, _⟩ := h
  exact h1.lt
theorem DiskAt.lta {w : World} {b a : Nat} {d : Dk} (h : DiskAt w b a d) : a < w.heap.size := by
  obtain ⟨c, arr, h1, h2, _⟩ := h
  exact h2.lt
theorem DiskAt.below {w w' : World} {b a : Nat} {d : Dk} (h : DiskAt w b a d) (hb : Below w.heap.size w w') : DiskAt w' b a d :=
  h.keep (hb.block b h.ltb) (hb.block a h.lta) (fun _ _ hg => hg.below hb hg.lt)

/-- All blocks but those of S are as they were; the streams too. -/
structure DKept (S : Nat → Prop) (w w' : World) : Prop where
  os : w'.os = w.os
  tape : w'.tape = w.tape
  output : w'.output = w.output
  size : w.heap.size ≤ w'.heap.size
  block : ∀ k, k < w.heap.size → ¬ S k → w'.heap[k]? = w.heap[k]?

section
variable {S T : Nat → Prop} {w w' w'' : World}
theorem DKept.refl : DKept S w w := ⟨rfl, rfl, rfl, Nat.le_refl _, fun _ _ _ => rfl⟩
theorem DKept.of_below (h : Below w.heap.size w w') : DKept S w w' := ⟨h.os, h.tape, h.output, h.size, fun k hk _ => h.block k hk⟩
theorem DKept.trans (h : DKept S w w') (k : DKept T w' w'') (hT : ∀ i, i < w.heap.size → T i → S i) : DKept S w w'' :=
  ⟨k.os.trans h.os, k.tape.trans h.tape, k.output.trans h.output, Nat.le_trans h.size k.size,
    fun i hi hn => (k.block i (Nat.lt_of_lt_of_le hi h.size) (fun ht => hn (hT i hi ht))).trans (h.block i hi hn)⟩
theorem DKept.below {B : Nat} (h : DKept S w w') (hB : B ≤ w.heap.size) (hS : ∀ i, S i → B ≤ i) : Below B w w' :=
  ⟨h.os, h.tape, h.output, h.size, fun k hk => h.block k (Nat.lt_of_lt_of_le hk hB) (fun hs => by have := hS k hs; omega)⟩
theorem DKept.blk {g : Nat} {t : TypeId} {cs : Array Value} (h : DKept S w w') (hg : Blk w g t cs) (hn : ¬ S g) : Blk w' g t cs := (h.block g hg.lt hn).trans hg
theorem DKept.setCell {p : Addr} {u : Value} (h : DKept S w w') (hp : S p.block ∨ w.heap.size ≤ p.block) : DKept S w (w'.setCell p u) :=
  ⟨h.os, h.tape, h.output, by simpa [World.setCell] using h.size, fun k hk hn => (Below.heap_setCell _ _ _ _ (by
    rintro rfl
    rcases hp with hp | hp
    · exact hn hp
    · omega)).trans (h.block k hk hn)⟩
theorem DKept.set {b i : Nat} {u : Value} (h : DKept S w w') (hp : S b) : DKept S w (w'.setCell ⟨b, i, none⟩ u) := h.setCell (.inl hp)
theorem DKept.set_new {b i : Nat} {u : Value} (h : DKept S w w') (hp : w.heap.size ≤ b) : DKept S w (w'.setCell ⟨b, i, none⟩ u) := h.setCell (.inr hp)
theorem DKept.alloc (h : DKept S w w') (o : Obj) : DKept S w (w'.alloc o) :=
  ⟨h.os, h.tape, h.output, Nat.le_trans h.size (by simp), fun k hk hn => (Below.heap_alloc _ _ _ (Nat.lt_of_lt_of_le hk h.size)).trans (h.block k hk hn)⟩
theorem DKept.grown {row : Option Nat} (h : DKept S w w') (hg : w'.grownBy w'' row) (hr : ∀ k, row = some k → S k ∨ w.heap.size ≤ k) : DKept S w w'' :=
  ⟨hg.os.trans h.os, hg.tape.trans h.tape, hg.output.trans h.output, Nat.le_trans h.size hg.size, fun k hk hn => (hg.block k (Nat.lt_of_lt_of_le hk h.size) (fun e => by
    rcases hr k e.symm with h1 | h1
    · exact hn h1
    · omega)).trans (h.block k hk hn)⟩
theorem DKept.drew (h : DKept S w w') : DKept S w w'.drew := ⟨h.os, h.tape, h.output, h.size, h.block⟩
end

/-- The struct alone is written. -/
theorem DiskAt.upd {w w' : World} {b a : Nat} {d : Dk} (h : DiskAt w b a d) (d' : Dk) (hS : d'.S = d.S) (h0 : 0 ≤ d'.cut) (h1 : d'.cut ≤ 9223372036854775807)
    (hb : ∀ s0 : Value, Blk w b 95 #[s0, .bool d.off, .int .i64 d.cut, .bool d.odd, .int .i64 d.writes, .int .i64 d.lives] →
      Blk w' b 95 #[s0, .bool d'.off, .int .i64 d'.cut, .bool d'.odd, .int .i64 d'.writes, .int .i64 d'.lives]) (hk : DKept (fun k => k = b) w w') : DiskAt w' b a d' := by
  have hne := h.ne
  obtain ⟨c, arr, hb0, ha, h3, h4, h5, h6, h7, h8, h9, h10⟩ := h
  refine ⟨c, arr, by rw [hS]; exact hb _ hb0, hk.blk ha (fun e => hne e.symm), h3, by rw [hS]; exact h4, h5, by rw [hS]; exact h6, by rw [hS]; exact h7, h0, h1, fun i s hs => ?_⟩
  rw [hS] at hs
  obtain ⟨v, hv, hsec⟩ := h10 i s hs
  exact ⟨v, hv, hsec.keep fun g cs hg => hk.blk hg (fun e => by subst e; exact hg.ne_ hb0 (by decide) rfl)⟩

/-- The two blocks of a disk. -/
abbrev DS (b a : Nat) : Nat → Prop := fun k => k = b ∨ k = a

/-- A block of bytes is none of a disk's own two. -/
theorem DiskAt.apart {w : World} {b a g : Nat} {d : Dk} {cs : Array Value} (h : DiskAt w b a d) (hg : Blk w g 5 cs) : ¬ DS b a g := by
  obtain ⟨c, arr, hb, ha, _⟩ := h
  rintro (e | e)
  · subst e; exact hg.ne_ hb (by decide) rfl
  · subst e; exact hg.ne_ ha (by decide) rfl

/-- Another disk keeps as it is while one is written. -/
theorem DiskAt.other {w w' : World} {b a b' a' : Nat} {d d' : Dk} (h : DiskAt w b a d) (h' : DiskAt w b' a' d') (hk : DKept (DS b' a') w w') (hb : b ≠ b') (ha : a ≠ a') : DiskAt w' b a d := by
  have nb : ¬ DS b' a' b := by
    obtain ⟨c, arr, hb1, ha1, _⟩ := h
    obtain ⟨c', arr', hb2, ha2, _⟩ := h'
    rintro (e | e)
    · exact hb e
    · subst e; exact hb1.ne_ ha2 (by decide) rfl
  have na : ¬ DS b' a' a := by
    obtain ⟨c, arr, hb1, ha1, _⟩ := h
    obtain ⟨c', arr', hb2, ha2, _⟩ := h'
    rintro (e | e)
    · subst e; exact ha1.ne_ hb2 (by decide) rfl
    · exact ha e
  exact h.keep (hk.block b h.ltb nb) (hk.block a h.lta na) (fun g cs hg => hk.blk hg (h'.apart hg))

/-- A sector is written, and the struct. -/
theorem DiskAt.put {w w' : World} {b a : Nat} {d : Dk} (h : DiskAt w b a d) (k g : Nat) (s : List UInt8) (d' : Dk) (hS : d'.S = d.S.set k s) (h0 : 0 ≤ d'.cut) (h1 : d'.cut ≤ 9223372036854775807)
    (hs : s.length = 64)
    (hb : ∀ s0 : Value, Blk w b 95 #[s0, .bool d.off, .int .i64 d.cut, .bool d.odd, .int .i64 d.writes, .int .i64 d.lives] →
      Blk w' b 95 #[s0, .bool d'.off, .int .i64 d'.cut, .bool d'.odd, .int .i64 d'.writes, .int .i64 d'.lives])
    (ha : ∀ arr, Blk w a 36 arr → Blk w' a 36 (arr.setIfInBounds k (.slice (some ⟨g, 0, none⟩) 64 64))) (hg : Blk w' g 5 (s.map byt).toArray)
    (hk : DKept (fun k => k = b ∨ k = a) w w') : DiskAt w' b a d' := by
  obtain ⟨c, arr, hb0, ha0, h3, h4, h5, h6, h7, h8, h9, h10⟩ := h
  have hl : d'.S.length = d.S.length := by rw [hS]; simp
  refine ⟨c, _, by rw [hl]; exact hb _ hb0, ha _ ha0, by simpa using h3, by rw [hl]; exact h4, h5, by rw [hl]; exact h6, by rw [hl]; exact h7, h0, h1, fun i s' hs' => ?_⟩
  by_cases e : k = i
  · subst e
    have hlt : k < d'.S.length := (List.getElem?_eq_some_iff.1 hs').1
    have e' : s' = s := by
      rw [hS, List.getElem?_set_self (by omega)] at hs'
      exact (Option.some.inj hs').symm
    subst e'
    exact ⟨.slice (some ⟨g, 0, none⟩) 64 64, by rw [Array.getElem?_setIfInBounds_self_of_lt (by omega)], hs, .inr ⟨g, rfl, hg⟩⟩
  · rw [hS, List.getElem?_set_ne e] at hs'
    obtain ⟨v, hv, hsec⟩ := h10 i s' hs'
    refine ⟨v, by rw [Array.getElem?_setIfInBounds_ne e]; exact hv, hsec.keep fun g cs hg => hk.blk hg ?_⟩
    rintro (e | e)
    · subst e; exact hg.ne_ hb0 (by decide) rfl
    · subst e; exact hg.ne_ ha0 (by decide) rfl

/-- A slice of bytes that can be read; nil let in. -/
def Bts (w : World) (A : Option Addr) (n c : Nat) (l : List UInt8) : Prop :=
  (A = none → n = 0 ∧ c = 0) ∧ Reads w w.heap.size 1 A n (l.map byt) ∧ n ≤ c ∧ c ≤ maxLen ∧ l.length = n

/-- A slice of bytes that lies below block B0. -/
def BtsB (w : World) (B0 : Nat) (A : Option Addr) (n c : Nat) (l : List UInt8) : Prop :=
  (A = none → n = 0 ∧ c = 0) ∧ Reads w B0 1 A n (l.map byt) ∧ n ≤ c ∧ c ≤ maxLen ∧ l.length = n
theorem BtsB.bts {w : World} {B0 n c : Nat} {A : Option Addr} {l : List UInt8} (h : BtsB w B0 A n c l) (hB : B0 ≤ w.heap.size) : Bts w A n c l := ⟨h.1, h.2.1.more hB, h.2.2⟩
theorem BtsB.below {w w' : World} {B0 n c : Nat} {A : Option Addr} {l : List UInt8} (h : BtsB w B0 A n c l) (hb : Below B0 w w') : BtsB w' B0 A n c l := ⟨h.1, h.2.1.below hb, h.2.2⟩

/-- An owned row of bytes is a slice of bytes. -/
theorem own_bts {w : World} {base n c : Nat} {A : Option Addr} {l : List UInt8} (h : w.ownsRow base 5 1 (.slice A n c) n (l.map byt)) : Bts w A n c l := by
  have hr := Reads.of_own h
  have hl : l.length = n := by have := h.1; simpa using this
  rcases h.2 with ⟨hv, hn⟩ | ⟨g, cap, cur, hv, _, _, h1, h2, _⟩
  · simp only [Value.slice.injEq] at hv
    obtain ⟨rfl, _, rfl⟩ := hv
    exact ⟨fun _ => ⟨hn, rfl⟩, hr, by omega, Nat.zero_le _, hl⟩
  · simp only [Value.slice.injEq] at hv
    obtain ⟨rfl, _, rfl⟩ := hv
    exact ⟨(fun h => by cases h), hr, h1, h2, hl⟩

def zrow : Array Value := (zeros64.map byt).toArray
theorem pad_cells (l : List UInt8) : (splice (zeros64.map byt) 0 (l.map byt)).toArray = ((pad l).map byt).toArray := by
  have e : zeros64.map byt = List.replicate 64 (byt 0) := by unfold zeros64; rw [List.map_replicate]
  rw [e]
  generalize hz : byt 0 = z
  simp only [splice, pad, List.take_zero, List.nil_append, List.length_map, Nat.zero_add, List.drop_replicate, List.map_append, List.map_replicate, hz]

end Go.Proofs.Ytlbikfamjogpnaa
end

/- Laws of slices of bytes that every later text wants: as a string, as a block, nil, below. Conditions: none. -/
section
namespace Go.Proofs.Ytlbikfamjogpnaa
open Go.RowKit

/-- A slice of bytes that can be read, as a string. -/
theorem run_string_of {P : Program} (w : World) (src dst e : TypeId) (hs : P.underlying src = some (.slice e)) (he : P.underlying e = some (.int .u8)) (hd : P.underlying dst = some .string)
    {B n c : Nat} {A : Option Addr} {l : List UInt8} (hr : Reads w B 1 A n (l.map byt)) : (convert src dst (.slice A n c)).run P w = .ok (.string ⟨l.toArray⟩) w := by
  have hln : l.length = n := by have := hr.1; simpa using this
  rcases Nat.eq_zero_or_pos n with h0 | h0
  · subst h0
    obtain rfl : l = [] := List.eq_nil_of_length_eq_zero hln
    rw [run_convert_bytes_string w src dst e A 0 c hs he hd]
    cases A with
    | none => simp [Conv.bytesToString, ByteArray.empty, ByteArray.emptyWithCapacity]; rfl
    | some ad => simp [Conv.bytesToString, ByteArray.empty, ByteArray.emptyWithCapacity, loadCells, loadCellsFrom]; rfl
  · obtain ⟨ad, rfl, _, hx⟩ := hr.2 h0
    have hl : (loadCells ad n).run P w = .ok ((l.map fun b => (b.toNat : Int)).map (Value.int .u8)).toArray w := by
      have := run_loadCells_list (P := P) w ad ((l.map fun b => (b.toNat : Int)).map (Value.int .u8)) (fun j v hj => hx j v (by simpa [byt, Function.comp_def] using hj))
      simpa [hln] using this
    rw [run_convert_bytes_string w src dst e _ n c hs he hd, run_bytesToString w ad n c _ hl, foldl_push_bytes]
    simp [ByteArray.empty, ByteArray.emptyWithCapacity, Function.comp_def]
    rfl

theorem DKept.low {S : Nat → Prop} {B : Nat} {w0 w1 w2 : World} (h0 : Below B w0 w1) (hB : B ≤ w0.heap.size) (hS : ∀ i, S i → B ≤ i) (h : DKept S w1 w2) : Below B w0 w2 :=
  h0.trans (h.below (Nat.le_trans hB h0.size) hS)

theorem add_zero_off (g j : Nat) : (⟨g, 0, none⟩ : Addr).add j = ⟨g, j, none⟩ := by unfold Addr.add; by_cases e : j = 0 <;> simp [e]

/-- A whole block of bytes, as a slice. -/
theorem bts_blk {w : World} {g n : Nat} {l : List UInt8} (h : Blk w g 5 (l.map byt).toArray) (hl : l.length = n) (hm : n ≤ maxLen) : Bts w (some ⟨g, 0, none⟩) n n l := by
  refine ⟨by simp, ⟨by simp [hl], fun _ => ⟨_, rfl, h.lt, fun j u hu => ?_⟩⟩, Nat.le_refl _, hm, hl⟩
  rw [add_zero_off, h.cell j]
  simpa using hu
theorem bts_nil (w : World) : Bts w none 0 0 [] := ⟨fun _ => ⟨rfl, rfl⟩, Reads.none_, Nat.le_refl _, Nat.zero_le _, rfl⟩

theorem Bts.below {w w' : World} {A : Option Addr} {n c : Nat} {l : List UInt8} (h : Bts w A n c l) (hb : Below w.heap.size w w') : Bts w' A n c l :=
  (BtsB.below (show BtsB w w.heap.size A n c l from h) hb).bts hb.size
theorem bts_lit (W : World) (l : List UInt8) (n : Nat) (hn : l.length = n) (hm : n ≤ maxLen) (mk : Nat × Nat) :
    Bts (W.alloc (.cells (l.map byt).toArray 5 mk)) (some ⟨W.heap.size, 0, none⟩) n n l := by
  refine ⟨by simp, ⟨by simp [hn], fun _ => ⟨_, rfl, by simp, fun j u hu => ?_⟩⟩, Nat.le_refl _, hm, hn⟩
  rw [add_zero_off, World.cell?_alloc_mark]
  simpa using hu

theorem low {B p : Nat} {w0 w1 w2 : World} (h0 : Below B w0 w1) (hB : B ≤ w0.heap.size) (hp : B ≤ p) (h : DKept (fun k => k = p) w1 w2) : Below B w0 w2 :=
  DKept.low h0 hB (by rintro i rfl; exact hp) h

/-- What a law's row tells of an argument of bytes: it is nil, or it leads to a row of cells. -/
def IsRow (k : IntKind) (w : World) (a : Option Addr) (len cap : Nat) (zs : List Int) : Prop :=
  (a = none ∧ len = 0 ∧ cap = 0 ∧ zs = []) ∨
  ∃ x, a = some x ∧ len ≤ cap ∧ cap ≤ maxLen ∧ zs.length = cap ∧ (∀ i, i < zs.length → w.cell? (x.add i) = some (.int k (zs.getD i 0))) ∧ ∀ n ∈ zs, (Lit.int k n).wf = true

theorem IsRow.bts {w : World} {A : Option Addr} {n c : Nat} {zs : List Int} (h : IsRow .u8 w A n c zs) : ∃ l, Bts w A n c l := by
  rcases h with ⟨rfl, rfl, rfl, rfl⟩ | ⟨x, rfl, h1, h2, h3, h4, h5⟩
  · exact ⟨[], bts_nil w⟩
  · have hb : ∀ z ∈ zs, 0 ≤ z ∧ z < 256 := by
      intro z hz
      have := h5 z hz
      simp only [Lit.wf, Bool.and_eq_true, decide_eq_true_eq] at this
      have e1 : IntKind.u8.min = 0 := by decide
      have e2 : IntKind.u8.max = 255 := by decide
      omega
    have e : ((zs.take n).map fun z => UInt8.ofNat z.toNat).map byt = (zs.take n).map (Value.int .u8) := by
      rw [List.map_map]
      refine List.map_congr_left fun z hz => ?_
      have := hb z (List.mem_of_mem_take hz)
      simp only [Function.comp, byt, UInt8.toNat_ofNat']
      congr 1
      omega
    refine ⟨(zs.take n).map fun z => UInt8.ofNat z.toNat, by simp, ⟨by simp; omega, fun hn => ⟨x, rfl, ?_, fun j u hu => ?_⟩⟩, h1, h2, by simp; omega⟩
    · have := h4 0 (by omega)
      have := World.block_lt_of_cell? _ _ this
      rwa [block_of_add] at this
    · rw [e] at hu
      have hj : j < n := by
        have := (List.getElem?_eq_some_iff.1 hu).1
        simp at this
        omega
      rw [h4 j (by omega)]
      simp only [List.getElem?_map, List.getElem?_take, if_pos hj] at hu
      have hjz : j < zs.length := by omega
      rw [List.getElem?_eq_getElem hjz] at hu
      rw [List.getD, List.getElem?_eq_getElem hjz]
      simpa using hu
theorem own_keep {w w' : World} {base n size : Nat} {e : TypeId} {v : Value} {xs : List Value} (h : w.ownsRow base e size v n xs) (hk : ∀ g, v.ownBlock = some g → w'.heap[g]? = w.heap[g]?) : w'.ownsRow base e size v n xs := by
  refine ⟨h.1, ?_⟩
  rcases h.2 with h2 | ⟨g, cap, cur, hv, hg, hh, hnc, r⟩
  · exact .inl h2
  · exact .inr ⟨g, cap, cur, hv, hg, (hk g (by rw [hv]; simp [Value.ownBlock])).trans hh, hnc, r⟩
theorem own_nil_row (w : World) (B : Nat) (e : TypeId) : w.ownsRow B e 1 (.slice none 0 0) 0 [] := ⟨rfl, .inl ⟨rfl, rfl⟩⟩
end Go.Proofs.Ytlbikfamjogpnaa
end

/- Frames, in plain Lean: how many sectors, numbers as bytes (the lowest first). Conditions: none. -/
section
namespace Go.Proofs.Ytlbikfamjogpnaa
open Go.RowKit

/-- How many sectors a frame has. -/
def fsize (n : Int) : Int := if n < 0 ∨ 1000 < n then 0 else if n ≤ 44 then 1 else 1 + (n + 18) / 63

/-- A number's lowest k bytes. -/
def leB (v : Nat) : Nat → List UInt8
  | 0 => []
  | k + 1 => leB v k ++ [UInt8.ofNat (v / 2 ^ (8 * k) % 256)]
theorem leB_len (v k : Nat) : (leB v k).length = k := by
  induction k with
  | zero => rfl
  | succ k ih => simp [leB, ih]

/-- The number that bytes are, the lowest first. -/
def upB : List UInt8 → Nat
  | [] => 0
  | x :: l => x.toNat + 256 * upB l
theorem upB_lt (l : List UInt8) : upB l < 2 ^ (8 * l.length) := by
  induction l with
  | nil => simp [upB]
  | cons x l ih =>
    have := x.toNat_lt
    rw [upB, List.length_cons, show 8 * (l.length + 1) = 8 + 8 * l.length by omega, Nat.pow_add]
    omega
theorem upB_snoc (l : List UInt8) (x : UInt8) : upB (l ++ [x]) = upB l + x.toNat * 2 ^ (8 * l.length) := by
  induction l with
  | nil => simp [upB]
  | cons y l ih =>
    rw [List.cons_append, upB, ih, upB, List.length_cons, show 8 * (l.length + 1) = 8 + 8 * l.length by omega, Nat.pow_add, Nat.mul_add]
    have : 256 * (x.toNat * 2 ^ (8 * l.length)) = x.toNat * (2 ^ 8 * 2 ^ (8 * l.length)) := by
      rw [Nat.mul_left_comm]
    omega
theorem upB_leB (v k : Nat) : upB (leB v k) = v % 2 ^ (8 * k) := by
  induction k with
  | zero => simp [leB, upB, Nat.mod_one]
  | succ k ih =>
    rw [leB, upB_snoc, ih, leB_len]
    have e : (UInt8.ofNat (v / 2 ^ (8 * k) % 256)).toNat = v / 2 ^ (8 * k) % 256 := by simp
    rw [e, show 8 * (k + 1) = 8 * k + 8 by omega, Nat.pow_add, Nat.mod_mul, Nat.mul_comm (v / 2 ^ (8 * k) % 256)]

theorem up_bits (a x j : Nat) (h1 : a < 2 ^ (8 * j)) (hj : j < 8) (hx : x < 256) :
    bits .or .u64 (a : Int) (IntKind.u64.wrap ((x : Int) * 2 ^ (8 * j))) = ((a + x * 2 ^ (8 * j) : Nat) : Int) ∧ a + x * 2 ^ (8 * j) < 2 ^ (8 * (j + 1)) := by
  have hp : 0 < 2 ^ (8 * j) := Nat.pow_pos (by omega)
  have h2 : x * 2 ^ (8 * j) ≤ 255 * 2 ^ (8 * j) := Nat.mul_le_mul_right _ (by omega)
  have e8 : 2 ^ (8 * (j + 1)) = 256 * 2 ^ (8 * j) := by rw [show 8 * (j + 1) = 8 + 8 * j by omega, Nat.pow_add]
  have h3 : a + x * 2 ^ (8 * j) < 2 ^ (8 * (j + 1)) := by omega
  have h64 : 2 ^ (8 * (j + 1)) ≤ 2 ^ 64 := Nat.pow_le_pow_right (by omega) (by omega)
  refine ⟨?_, h3⟩
  have ew : IntKind.u64.wrap ((x : Int) * 2 ^ (8 * j)) = ((x * 2 ^ (8 * j) : Nat) : Int) := by
    rw [IntKind.wrap_u64, show ((2 : Int) ^ (8 * j)) = ((2 ^ (8 * j) : Nat) : Int) by simp, ← Int.natCast_mul]
    omega
  rw [ew, bits_or_u64_nat _ _ (by omega) (by omega)]
  congr 1
  rw [Nat.or_comm, nat_join (8 * j) _ _ (by rw [Nat.mul_mod_left]) h1, Nat.add_comm]
end Go.Proofs.Ytlbikfamjogpnaa
end

/- Numbers in bytes, and the sum of bytes, in plain Lean: what is written is read; unlike numbers are unlike bytes; one byte that is changed changes the sum. No program here. Conditions: none. -/
section
namespace Go.Proofs.Ytlbikfamjogpnaa

theorem xor_ones (n a : Nat) (h : a < 2 ^ n) : a ^^^ (2 ^ n - 1) = 2 ^ n - (a + 1) := by
  apply Nat.eq_of_testBit_eq
  intro i
  rw [Nat.testBit_xor, Nat.testBit_two_pow_sub_one, Nat.testBit_two_pow_sub_succ h]
  by_cases hi : i < n
  · simp [hi]
  · have : a.testBit i = false := Nat.testBit_lt_two_pow (Nat.lt_of_lt_of_le h (Nat.pow_le_pow_right (by omega) (by omega)))
    simp [hi, this]

/-! ### The sum -/
def crcP : Nat := 3988292384
def crcBit (s : Nat) : Nat := if s % 2 = 1 then s / 2 ^^^ crcP else s / 2
def crcN : Nat → Nat → Nat
  | 0, s => s
  | k + 1, s => crcN k (crcBit s)
def crcByte (s : Nat) (x : UInt8) : Nat := crcN 8 (s ^^^ x.toNat)
def crcAll (s : Nat) (l : List UInt8) : Nat := l.foldl crcByte s
def sumOf (l : List UInt8) : Nat := 4294967295 - crcAll 4294967295 l

theorem crcBit_lt {s : Nat} (h : s < 4294967296) : crcBit s < 4294967296 := by
  unfold crcBit
  split
  · exact Nat.xor_lt_two_pow (n := 32) (by omega) (by decide)
  · omega
theorem crcAll_append (l r : List UInt8) (s : Nat) : crcAll s (l ++ r) = crcAll (crcAll s l) r := by simp [crcAll]

/-- The reference's way: bit by bit off the byte. -/
def refBit (x k c : Nat) : Nat := if (c ^^^ x / 2 ^ k) % 2 = 1 then c / 2 ^^^ crcP else c / 2
def refN (x : Nat) : Nat → Nat → Nat
  | 0, c => c
  | k + 1, c => refBit x k (refN x k c)

theorem crcN_last (k : Nat) : ∀ s, crcN (k + 1) s = crcBit (crcN k s) := by
  induction k with
  | zero => intro s; rfl
  | succ k ih => intro s; exact ih (crcBit s)

theorem refN_crc (x k c : Nat) : crcN k (c ^^^ x) = refN x k c ^^^ x / 2 ^ k := by
  induction k with
  | zero => simp [crcN, refN]
  | succ k ih =>
    rw [crcN_last, ih]
    have d : ∀ a b : Nat, (a ^^^ b) / 2 = a / 2 ^^^ b / 2 := fun a b => by
      have := @Nat.shiftRight_xor_distrib 1 a b
      simpa [Nat.shiftRight_eq_div_pow] using this
    have e : x / 2 ^ (k + 1) = x / 2 ^ k / 2 := by rw [Nat.pow_succ, Nat.div_div_eq_div_mul]
    simp only [refN, refBit, crcBit, e, d]
    split
    · rw [Nat.xor_assoc, Nat.xor_assoc, Nat.xor_comm (x / 2 ^ k / 2)]
    · rfl
theorem refN_byte (c : Nat) (x : UInt8) : refN x.toNat 8 c = crcByte c x := by
  unfold crcByte
  rw [refN_crc]
  have : x.toNat / 2 ^ 8 = 0 := by have := x.toNat_lt; omega
  rw [this, Nat.xor_zero]
end Go.Proofs.Ytlbikfamjogpnaa
end

/- slices.Clone at []byte: what it hands back holds the bytes of what came in, in new memory; nothing else turns. Conditions: the slice can be read, and fits the reach. -/
section
namespace Go.Proofs.Ytlbikfamjogpnaa
open Go.RowKit

theorem info_u8 : (Try.prog.info? 5).map (fun i => (i.zero, i.size, i.bytes)) = some (some (.int .u8 0), 1, 1) := by kernel_rfl

set_option maxHeartbeats 400000 in
theorem clone_bytes_some (ad : Addr) (n c : Nat) (xs : List Value) (w : World) (hr : Reads w w.heap.size 1 (some ad) n xs) (h1 : ∀ u ∈ xs, u.oneCell' = true) (hn : n ≤ 140737488355328) :
    Calls Try.prog 94 #[.slice (some ad) n c] w fun e w' => ∃ v, e = .returned v ∧ w'.ownsRow w.heap.size 5 1 v n xs ∧ Below w.heap.size w w' ∧ (∃ g c, v = .slice (some ⟨g, 0, none⟩) n c) := by
  obtain ⟨i0, hi0, hz0, hz1, hz2⟩ := info_parts info_u8
  have q := fun (w : World) => Lib.run_eql_slice_nil (P := Try.prog) w 36 5 (some ad) n c 0 0 Try.underlying36
  go_enter Try.func94, Try.ntmps94
  go_wp2_with (at_builtin; refine wpList_append_any _ rfl (.tmp 5) (.tmp 6) _ rfl w.heap.size 5 i0 _ 1 1 Try.underlying36 hi0 hz0 hz1 hz2 rfl (by omega) (.slice (some ⟨w.heap.size, 0, none⟩) 0 0) 0 [] rfl (World.ownsRow_lit w #[] 0 (Nat.le_refl _) (by unfold maxLen; omega) rfl) w.heap.size (some ad) n c xs rfl (hr.alloc (Nat.le_refl _) _) h1 (by simp only [maxLen]; omega) (by omega) (by simp) ?_; intro v1 w1 hown1 hg1 hat1)
  go_ret
  refine ⟨v1, rfl, by simpa using hown1, ((Below.refl _ _).alloc (Nat.le_refl _) _).grown hg1 (by simp) (fun k hk => by simp [Value.ownBlock] at hk; omega), ?_⟩
  have hown1 : w1.ownsRow w.heap.size 5 1 v1 n xs := by simpa using hown1
  rcases hat1 with e | e
  · obtain ⟨c', hv, _⟩ := own_form hown1 (k := w.heap.size) (by rw [e]; rfl)
    exact ⟨_, c', hv⟩
  · obtain ⟨c', hv, _⟩ := own_form hown1 e
    exact ⟨_, c', hv⟩

theorem clone_bytes_nil (w : World) :
    Calls Try.prog 94 #[.slice none 0 0] w fun e w' => e = .returned (.slice none 0 0) ∧ w = w' := by
  have q := fun (w : World) => Lib.run_eql_slice_nil (P := Try.prog) w 36 5 none 0 0 0 0 Try.underlying36
  go_enter Try.func94, Try.ntmps94
  go_wp2
  go_ret
  exact ⟨rfl, rfl⟩
end Go.Proofs.Ytlbikfamjogpnaa
end

/- pack's writers: what each hands back. Conditions: the slice can be read. -/
section
namespace Go.Proofs.Ytlbikfamjogpnaa
open Go.RowKit

theorem clone_any {w : World} {A : Option Addr} {n c : Nat} {l : List UInt8} (h : Bts w A n c l) (hn : n ≤ 140737488355328) :
    Calls Try.prog 94 #[.slice A n c] w fun e w' => ∃ v, e = .returned v ∧ w'.ownsRow w.heap.size 5 1 v l.length (l.map byt) ∧ Below w.heap.size w w' := by
  obtain ⟨h0, hr, _, _, hl⟩ := h
  subst hl
  cases A with
  | none =>
    obtain ⟨h1, rfl⟩ := h0 rfl
    obtain rfl : l = [] := List.eq_nil_of_length_eq_zero h1
    exact (clone_bytes_nil w).mono fun e w' ⟨he, hw⟩ => by subst hw; exact ⟨_, he, World.ownsRow_nil _ _ _ _, Below.refl _ _⟩
  | some ad => exact (clone_bytes_some ad _ c _ w hr (byt_one l) hn).mono fun e w' ⟨v, he, ho, hb, _⟩ => ⟨v, he, ho, hb⟩

theorem byte_one (k : Int) : ∀ u ∈ [Value.int .u8 k], u.oneCell' = true := by
  intro u hu
  simp at hu
  subst hu
  rfl

/-- One byte more. -/
theorem own_more {w : World} {base : Nat} {g c n : Nat} {r : List UInt8} {k : Int} (x : UInt8) (hk : k = (x.toNat : Int)) (hn : r.length = n)
    (h : w.ownsRow base 5 1 (.slice (some ⟨g, 0, none⟩) (n + 1) c) (n + 1) (r.map byt ++ [.int .u8 k])) :
    w.ownsRow base 5 1 (.slice (some ⟨g, 0, none⟩) (r ++ [x]).length c) (r ++ [x]).length ((r ++ [x]).map byt) := by
  subst hn hk
  simpa [byt] using h

theorem own_lt {w w' : World} {base : Nat} {v : Value} {n : Nat} {xs : List Value} (h : w.ownsRow base 5 1 v n xs) {o : Obj} (hb : base ≤ w.heap.size) (hg : (w.alloc o).grownBy w' v.ownBlock) : Below base w w' :=
  ((Below.refl base w).alloc hb o).grown hg (by simp; omega) (fun k hk => (h.lt k hk).1)

end Go.Proofs.Ytlbikfamjogpnaa
end

/- pack's reader: what each call answers, and what it leaves. Conditions: the reader lies in memory as RdAt says. -/
section
namespace Go.Proofs.Ytlbikfamjogpnaa
open Go.RowKit

/-- A reader's struct (of type t) lies in block p: what is left, and whether it is bad. -/
def RdAt (t : TypeId) (w : World) (p : Nat) (l : List UInt8) (bad : Bool) : Prop :=
  ∃ A n c, Blk w p t #[.slice A n c, .bool bad] ∧ BtsB w p A n c l

theorem BtsB.kept {w w' : World} {S : Nat → Prop} {B0 n c : Nat} {A : Option Addr} {l : List UInt8} (h : BtsB w B0 A n c l) (hB : B0 ≤ w.heap.size) (hk : DKept S w w') (hS : ∀ i, S i → B0 ≤ i) : BtsB w' B0 A n c l :=
  h.below (hk.below hB hS)
theorem RdAt.kept {t : TypeId} {w w' : World} {S : Nat → Prop} {p : Nat} {l : List UInt8} {bad : Bool} (h : RdAt t w p l bad) (hk : DKept S w w') (hS : ∀ i, S i → p < i) : RdAt t w' p l bad := by
  obtain ⟨A, n, c, hb, hl⟩ := h
  exact ⟨A, n, c, hk.blk hb (fun h => by have := hS _ h; omega), hl.kept (Nat.le_of_lt hb.lt) hk (fun i hi => Nat.le_of_lt (hS i hi))⟩
theorem RdAt.below {t : TypeId} {w w' : World} {p : Nat} {l : List UInt8} {bad : Bool} (h : RdAt t w p l bad) (hb : Below w.heap.size w w') : RdAt t w' p l bad := by
  obtain ⟨A, n, c, hb1, hl⟩ := h
  exact ⟨A, n, c, hb1.below hb hb1.lt, hl.below (hb.mono (Nat.le_of_lt hb1.lt))⟩

theorem ret_int {k : IntKind} {a b : Int} (h : a = b) : Ending.returned (.int k a) = .returned (.int k b) := by rw [h]

section
variable {w : World} {p : Nat} {l : List UInt8} {bad : Bool}

end
end Go.Proofs.Ytlbikfamjogpnaa
end

/- The sum of bytes, pack's and the reference's. Conditions: the slice can be read. -/
section
namespace Go.Proofs.Ytlbikfamjogpnaa
open Go.RowKit

theorem u32_low (t : Nat) (h : t < 4294967296) : bits .and .u32 (t : Int) 1 = (t : Int) % 2 := by
  have := u32_and_nat t 1 h (by omega)
  rw [nat_mask1] at this
  simpa using this
theorem u32_pol (t : Nat) (h : t < 4294967296) : bits .xor .u32 ((t : Int) / 2) 3988292384 = ((t / 2 ^^^ crcP : Nat) : Int) := by
  have := u32_xor_nat (t / 2) 3988292384 (by omega) (by omega)
  simpa [crcP] using this
theorem u32_byte (t x : Nat) (h : t < 4294967296) (hx : x < 256) : bits .xor .u32 (t : Int) (x : Int) = ((t ^^^ x : Nat) : Int) := u32_xor_nat t x h (by omega)

theorem u32_not (s : Nat) (h : s < 4294967296) : bits .xor .u32 IntKind.u32.max (s : Int) = ((4294967295 - s : Nat) : Int) := by
  have e : IntKind.u32.max = ((4294967295 : Nat) : Int) := by decide
  rw [e, u32_xor_nat _ s (by omega) h, Nat.xor_comm]
  have := xor_ones 32 s h
  rw [show (2 : Nat) ^ 32 - 1 = 4294967295 from rfl] at this
  rw [this]
  omega

section
variable {w : World} {l : List UInt8} {A : Option Addr} {n c : Nat}

set_option maxRecDepth 100000 in
set_option maxHeartbeats 2000000 in
set_option maxRecDepth 100000 in
theorem sum_any (h : Bts w A n c l) :
    Calls Try.prog 95 #[.slice A n c] w fun e w' => e = .returned (.int .u32 (sumOf l : Int)) ∧ w = w' := by
  obtain ⟨h0, hrd, hnc, hcm, hln⟩ := h
  have HL := Lib.hid hln
  clear hln
  unfold maxLen at hcm
  go_enter Try.func95, Try.ntmps95
  go_wp2_with fail
  go_loopg [3, 8] n (fun k sv iv wr => ∃ (j s : Nat), j + k = n ∧ iv = .int .i64 (j : Int) ∧ sv = .int .u32 (s : Int) ∧ s < 4294967296 ∧ Hid (crcAll 4294967295 (l.take j) = s) ∧ w = wr)
  case atStart => exact ⟨0, 4294967295, by omega, rfl, rfl, by omega, rfl, rfl⟩
  case round =>
    obtain ⟨j, s, hj, rfl, rfl, hs, HS, rfl⟩ := hrel
    have HJ := Lib.hid hj
    clear hj
    by_cases hlt : j < n
    · obtain ⟨ad, u, rfl, _, hx, hcell⟩ := hrd.at_ hlt
      have hjl : j < l.length := by rw [HL.out]; exact hlt
      have hxb : u = byt l[j] := by simpa [hjl] using hx.symm
      subst hxb
      have hnext : crcAll 4294967295 (l.take (j + 1)) = crcByte (crcAll 4294967295 (l.take j)) l[j] := by
        rw [List.take_succ_eq_append_getElem hjl, crcAll_append]; rfl
      generalize l[j] = x at *
      unfold byt at hcell
      have hx256 := x.toNat_lt
      have HN := Lib.hid hnext
      have b0 := u32_byte s x.toNat hs hx256
      have hs0 : s ^^^ x.toNat < 4294967296 := Nat.xor_lt_two_pow (n := 32) hs (by omega)
      obtain ⟨s0, he0⟩ : ∃ s0, s0 = s ^^^ x.toNat := ⟨_, rfl⟩
      rw [← he0] at b0 hs0
      have HE0 := Lib.hid he0
      clear hx hnext he0
      go_wp2_with fail
      go_loopg [3, 16] 8 (fun q sv iv wr => ∃ (k t : Nat), k + q = 8 ∧ iv = .int .i64 (k : Int) ∧ sv = .int .u32 (t : Int) ∧ t < 4294967296 ∧ Hid (crcN 8 s0 = crcN (8 - k) t) ∧ w = wr)
      case atStart => exact ⟨0, s0, rfl, rfl, rfl, hs0, rfl, rfl⟩
      case round =>
        obtain ⟨k, t, hk, rfl, rfl, ht, HT, rfl⟩ := hrel
        by_cases hk8 : k < 8
        · have b1 := u32_low t ht
          have b2 := u32_pol t ht
          have HB := Lib.hid (crcBit_lt ht)
          have HT2 : Hid (crcN 8 s0 = crcN (8 - (k + 1)) (crcBit t)) := by
            have := HT.out
            rw [show 8 - k = (8 - (k + 1)) + 1 by omega] at this
            exact this
          have HK := Lib.hid hk
          clear hk
          by_cases hodd : t % 2 = 1
          · have g1 : ((t : Int) % 2 == 1) = true := beq_iff_eq.2 (by omega)
            have HC : Hid (crcBit t = t / 2 ^^^ crcP) := show _ = _ by unfold crcBit; rw [if_pos hodd]
            clear hodd
            go_wp2
            go_roundg (7 - k)
            case measure => have := HK.out; omega
            case rel => exact ⟨k + 1, crcBit t, by have := HK.out; omega, by go_num, by rw [HC.out], HB.out, HT2.out, rfl⟩
          · have g1 : ((t : Int) % 2 == 1) = false := beq_eq_false_iff_ne.2 (by omega)
            have HC : Hid (crcBit t = t / 2) := show _ = _ by unfold crcBit; rw [if_neg hodd]
            clear hodd
            go_wp2
            go_roundg (7 - k)
            case measure => have := HK.out; omega
            case rel => exact ⟨k + 1, crcBit t, by have := HK.out; omega, by go_num, by rw [HC.out]; simp, HB.out, HT2.out, rfl⟩
        · obtain rfl : k = 8 := by omega
          clear hk
          go_wp2
          go_roundg (n - (j + 1))
          case measure => have := HJ.out; omega
          case rel =>
            have hT : crcN 8 s0 = t := HT.out
            refine ⟨j + 1, t, by have := HJ.out; omega, by go_num, rfl, ht, ?_, rfl⟩
            exact (show _ = _ by rw [HN.out, HS.out, ← hT, HE0.out]; rfl)
    · obtain rfl : j = n := by have := HJ.out; omega
      go_wp2
      go_ret
      refine ⟨ret_int ?_, rfl⟩
      rw [u32_not s hs]
      have := HS.out
      rw [List.take_of_length_le (by rw [HL.out]; omega)] at this
      unfold sumOf
      rw [this]

set_option maxRecDepth 100000 in
set_option maxHeartbeats 2000000 in
set_option maxRecDepth 100000 in
theorem sum_ref (h : Bts w A n c l) :
    Calls Try.prog 101 #[.slice A n c] w fun e w' => e = .returned (.int .u32 (sumOf l : Int)) ∧ w = w' := by
  obtain ⟨h0, hrd, hnc, hcm, hln⟩ := h
  have HL := Lib.hid hln
  clear hln
  unfold maxLen at hcm
  go_enter Try.func101, Try.ntmps101
  go_wp2_with fail
  go_loopg [3, 4] n (fun k sv iv wr => ∃ (j s : Nat), j + k = n ∧ iv = .int .i64 (j : Int) ∧ sv = .int .u32 (s : Int) ∧ s < 4294967296 ∧ Hid (crcAll 4294967295 (l.take j) = s) ∧ w = wr)
  case atStart => exact ⟨0, 4294967295, by omega, rfl, rfl, by omega, rfl, rfl⟩
  case round =>
    obtain ⟨j, s, hj, rfl, rfl, hs, HS, rfl⟩ := hrel
    have HJ := Lib.hid hj
    clear hj
    by_cases hlt : j < n
    · obtain ⟨ad, u, rfl, _, hx, hcell⟩ := hrd.at_ hlt
      have hjl : j < l.length := by rw [HL.out]; exact hlt
      have hxb : u = byt l[j] := by simpa [hjl] using hx.symm
      subst hxb
      have hnext : crcAll 4294967295 (l.take (j + 1)) = crcByte (crcAll 4294967295 (l.take j)) l[j] := by
        rw [List.take_succ_eq_append_getElem hjl, crcAll_append]; rfl
      generalize l[j] = x at *
      unfold byt at hcell
      have hx256 := x.toNat_lt
      have HN := Lib.hid hnext
      clear hx hnext
      go_wp2_with fail
      go_loopg [3, 5] 8 (fun q sv iv wr => ∃ (k t : Nat), k + q = 8 ∧ iv = .int .i64 (k : Int) ∧ sv = .int .u32 (t : Int) ∧ t < 4294967296 ∧ Hid (refN x.toNat k s = t) ∧ w = wr)
      case atStart => exact ⟨0, s, rfl, rfl, rfl, hs, rfl, rfl⟩
      case round =>
        obtain ⟨k, t, hk, rfl, rfl, ht, HT, rfl⟩ := hrel
        by_cases hk8 : k < 8
        · have HK := Lib.hid hk
          clear hk
          obtain ⟨q, hq⟩ : ∃ q, q = t ^^^ x.toNat / 2 ^ k := ⟨_, rfl⟩
          have hxk : x.toNat / 2 ^ k < 256 := Nat.lt_of_le_of_lt (Nat.div_le_self _ _) hx256
          have bx : bits .xor .u32 (t : Int) ((x.toNat : Int) / 2 ^ k % 4294967296) = (q : Int) := by
            have e : ((x.toNat : Int) / 2 ^ k % 4294967296) = ((x.toNat / 2 ^ k : Nat) : Int) := by
              rw [show ((x.toNat : Int) / 2 ^ k) = ((x.toNat / 2 ^ k : Nat) : Int) by simp]
              generalize x.toNat / 2 ^ k = y at hxk ⊢
              omega
            rw [e, u32_byte t _ ht hxk, hq]
          have hq32 : q < 4294967296 := by rw [hq]; exact Nat.xor_lt_two_pow (n := 32) ht (by omega)
          have ba := u32_low q hq32
          have b2 := u32_pol t ht
          have hnx : refN x.toNat (k + 1) s = if q % 2 = 1 then t / 2 ^^^ crcP else t / 2 := by
            rw [hq, refN, HT.out]
            rfl
          have hn32 : t / 2 ^^^ crcP < 4294967296 := Nat.xor_lt_two_pow (n := 32) (by omega) (by decide)
          have HN32 := Lib.hid hn32
          clear hq hxk hn32
          by_cases hodd : q % 2 = 1
          · have g1 : ((q : Int) % 2 == 1) = true := beq_iff_eq.2 (by omega)
            rw [if_pos hodd] at hnx
            have HX := Lib.hid hnx
            clear hodd hnx
            go_wp2
            go_roundg (7 - k)
            case measure => have := HK.out; omega
            case rel => exact ⟨k + 1, t / 2 ^^^ crcP, by have := HK.out; omega, by go_num, rfl, HN32.out, HX.out, rfl⟩
          · have g1 : ((q : Int) % 2 == 1) = false := beq_eq_false_iff_ne.2 (by omega)
            rw [if_neg hodd] at hnx
            have HX := Lib.hid hnx
            clear hodd hnx
            go_wp2
            go_roundg (7 - k)
            case measure => have := HK.out; omega
            case rel => exact ⟨k + 1, t / 2, by have := HK.out; omega, by go_num, by simp, by omega, HX.out, rfl⟩
        · obtain rfl : k = 8 := by omega
          clear hk
          go_wp2
          go_roundg (n - (j + 1))
          case measure => have := HJ.out; omega
          case rel =>
            refine ⟨j + 1, t, by have := HJ.out; omega, by go_num, rfl, ht, ?_, rfl⟩
            exact (show _ = _ by rw [HN.out, HS.out, ← HT.out, refN_byte])
    · obtain rfl : j = n := by have := HJ.out; omega
      go_wp2
      go_ret
      refine ⟨ret_int ?_, rfl⟩
      rw [u32_not s hs]
      have := HS.out
      rw [List.take_of_length_le (by rw [HL.out]; omega)] at this
      unfold sumOf
      rw [this]
end
end Go.Proofs.Ytlbikfamjogpnaa
end

/- pack.I, pack.S, and the reference's writers: what each hands back. Conditions: the slice can be read. -/
section
namespace Go.Proofs.Ytlbikfamjogpnaa
open Go.RowKit

end Go.Proofs.Ytlbikfamjogpnaa
end

/- Slices that came in, of integers, of strings and of bytes: opened to their cells. Conditions: none. -/
section
namespace Go.Proofs.Ytlbikfamjogpnaa
open Go.ChangeShapes Go.WideShapes Go.Deep Go.RowKit

/-- A slice of one cell each that can be read; nil let in. -/
def Vals (w : World) (A : Option Addr) (n c : Nat) (vs : List Value) : Prop :=
  (A = none → n = 0 ∧ c = 0) ∧ Reads w w.heap.size 1 A n vs ∧ n ≤ c ∧ c ≤ maxLen
def Ints (k : IntKind) (w : World) (A : Option Addr) (n c : Nat) (zs : List Int) : Prop :=
  Vals w A n c (zs.map (.int k)) ∧ zs.length = n ∧ ∀ z ∈ zs, (Lit.int k z).wf = true
def Strs (w : World) (A : Option Addr) (n c : Nat) (zs : List ByteArray) : Prop :=
  Vals w A n c (zs.map .string) ∧ zs.length = n ∧ ∀ z ∈ zs, z.size ≤ maxLen

section
variable {H : Type} {enc : TypeId × Value → H} {P : Program} {W : World} {base : Nat} {spare : Nat → Bool} {held : Bool}

end

section
variable {w w' : World} {A : Option Addr} {n c B : Nat} {vs : List Value}
theorem Vals.below (h : Vals w A n c vs) (hb : Below w.heap.size w w') : Vals w' A n c vs := ⟨h.1, (h.2.1.below hb).more hb.size, h.2.2⟩
theorem Vals.at_ (h : Vals w A n c vs) {k : Nat} (hk : k < n) : ∃ ad u, A = some ad ∧ vs[k]? = some u ∧ w.cell? (ad.add k) = some u := by
  obtain ⟨ad, u, e, _, h1, h2⟩ := h.2.1.at_ hk
  exact ⟨ad, u, e, h1, h2⟩
end

theorem plain_of' {w : World} {a : Addr} {v : Value} (h : w.cell? a = some v) : a = ⟨a.block, a.off, none⟩ := by
  obtain ⟨b, o, sp⟩ := a
  cases sp with
  | none => rfl
  | some x =>
    simp only [World.cell?] at h
    split at h <;> simp at h

section
variable {w wr : World} {A : Option Addr} {n c : Nat}
theorem vals_at {vs : List Value} (h : Vals w A n c vs) {j : Nat} (hj : j < n) : ∃ ab ao u, A = some ⟨ab, ao, none⟩ ∧ vs[j]? = some u ∧ ∀ w', Below w.heap.size w w' → w'.cell? ⟨ab, ao + j, none⟩ = some u := by
  obtain ⟨ad, u, e, _, h1, h2⟩ := h.2.1.at_ hj
  obtain ⟨ad0, v0, e0, _, h10, h20⟩ := h.2.1.at_ (k := 0) (by omega)
  obtain rfl : ad0 = ad := by rw [e] at e0; injection e0 with e0; exact e0.symm
  have hpl := plain_of' h20
  obtain ⟨b, o, sp⟩ := ad0
  obtain rfl : sp = none := by simp [Addr.add] at hpl; exact hpl
  refine ⟨b, o, u, e, h1, fun w' hb => ?_⟩
  have e1 : (⟨b, o, none⟩ : Addr).add j = ⟨b, o + j, none⟩ := by
    unfold Addr.add
    by_cases e : j = 0 <;> simp [e]
  rw [e1] at h2
  exact (hb.cell (p := ⟨b, o + j, none⟩) (World.block_lt_of_cell? _ _ h2)).trans h2
end

end Go.Proofs.Ytlbikfamjogpnaa
end

/- Contracts of frame.Size, frame.low and frame.number. Conditions: a row of bytes that this owns; a slice of bytes that reads. -/
section
namespace Go.Proofs.Ytlbikfamjogpnaa
open Go.RowKit

theorem size_any (w : World) (n : Int) (h1 : -9223372036854775808 ≤ n) (h2 : n ≤ 9223372036854775807) :
    Calls Try.prog 17 #[.int .i64 n] w fun e w' => e = .returned (.int .i64 (fsize n)) ∧ w = w' := by
  by_cases a1 : n < 0 ∨ 1000 < n
  · have e : fsize n = 0 := by unfold fsize; rw [if_pos a1]
    rw [e]
    rcases a1 with a1 | a1
    · go_enter Try.func17, Try.ntmps17
      go_wp2
      go_ret
      exact ⟨rfl, rfl⟩
    · have a2 : ¬ n < 0 := by omega
      go_enter Try.func17, Try.ntmps17
      go_wp2
      go_ret
      exact ⟨rfl, rfl⟩
  · by_cases a3 : n ≤ 44
    · have e : fsize n = 1 := by unfold fsize; rw [if_neg a1, if_pos a3]
      have b1 : ¬ n < 0 := by omega
      have b2 : ¬ 1000 < n := by omega
      rw [e]
      go_enter Try.func17, Try.ntmps17
      go_wp2
      go_ret
      exact ⟨rfl, rfl⟩
    · have e : fsize n = 1 + (n - 44 + 63 - 1).tdiv 63 := by
        unfold fsize
        rw [if_neg a1, if_neg a3, Int.tdiv_eq_ediv_of_nonneg (by omega), show n - 44 + 63 - 1 = n + 18 by omega]
      have b1 : ¬ n < 0 := by omega
      have b2 : ¬ 1000 < n := by omega
      have b3 : (n - 44 + 63 - 1).tdiv 63 = (n + 18) / 63 := by rw [Int.tdiv_eq_ediv_of_nonneg (by omega), show n - 44 + 63 - 1 = n + 18 by omega]
      rw [e]
      go_enter Try.func17, Try.ntmps17
      go_wp2
      go_ret
      exact ⟨ret_int (by omega), rfl⟩

set_option maxRecDepth 100000 in
set_option maxHeartbeats 1000000 in
theorem low_any {w : World} {B n : Nat} {v : Value} {l : List UInt8} (x k : Nat) (h : w.ownsRow B 5 1 v n (l.map byt)) (hB : B ≤ w.heap.size) (hn : n ≤ 140737488355000) (hk : k ≤ 8) :
    Calls Try.prog 96 #[v, .int .u64 (x : Int), .int .i64 (k : Int)] w fun e w' => ∃ v', e = .returned v' ∧ w'.ownsRow B 5 1 v' (n + k) ((l ++ leB x k).map byt) ∧ Below B w w' := by
  obtain ⟨i0, hi0, hz0, hz1, hz2⟩ := info_parts info_u8
  have HO0 := Lib.hid h
  have hln : l.length = n := by have := h.1; simpa using this
  have HL := Lib.hid hln
  have HBB := Lib.hid hB
  clear h hln hB
  go_enter Try.func96, Try.ntmps96
  go_wp2_with fail
  go_loopg [0, 9] k (fun m bv iv wr => ∃ j : Nat, j + m = k ∧ iv = .int .i64 (j : Int) ∧ wr.ownsRow B 5 1 bv (n + j) ((l ++ leB x j).map byt) ∧ Below B w wr)
  case atStart => exact ⟨0, by omega, rfl, by simpa [leB] using HO0.out, Below.refl _ _⟩
  case round =>
    obtain ⟨j, hj, rfl, hown, hbel⟩ := hrel
    by_cases hlt : j < k
    · have HJ := Lib.hid hj
      have HO := Lib.hid hown
      have HBEL := Lib.hid hbel
      have hsz := Nat.le_trans HBB.out hbel.size
      have e8 : IntKind.i64.wrap (8 * (j : Int)) = 8 * (j : Int) := IntWalk.i64_in _ (by omega)
      have en : (8 * (j : Int)).toNat = 8 * j := by omega
      have e0 : (0 : Int) ≤ 8 * (j : Int) := by omega
      clear hj hown hbel
      have hb8 : (UInt8.ofNat (x / 2 ^ (8 * j) % 256)).toNat = x / 2 ^ (8 * j) % 256 := by simp
      go_wp2_with (at_builtin; go_must (refine wpList_append_lies _ rfl (.tmp 12) (.tmp 18) _ rfl B 5 i0 _ 1 1 Try.underlying36 hi0 hz0 hz1 hz2 rfl (by omega) u0 (n + j) ((l ++ leB x j).map byt) rfl (HO.out.alloc _) ⟨wr.heap.size, 0, none⟩ 1 1 [.int .u8 _] rfl rfl (cell_one_new _ _ _) (byte_one _) (by omega) (by unfold maxLen; omega) (by omega) (by simp; omega) _ rfl ?_); intro g c1 w2 hown2 hg2 hat2 hlt2)
      go_roundg (k - (j + 1))
      case measure => have := HJ.out; omega
      case rel =>
        have hln2 : (l ++ leB x j).length = n + j := by rw [List.length_append, leB_len, HL.out]
        have hx := own_more (k := (x : Int) / 2 ^ (8 * j) % 256) (UInt8.ofNat (x / 2 ^ (8 * j) % 256)) (by rw [hb8]; simp) hln2 hown2
        have el : (l ++ leB x j ++ [UInt8.ofNat (x / 2 ^ (8 * j) % 256)]).length = n + (j + 1) := by simp only [List.length_append, leB_len, HL.out, List.length_singleton]; rfl
        rw [el] at hx
        have h9 : w2.ownsRow B 5 1 (.slice (some ⟨g, 0, none⟩) (n + (j + 1)) c1) (n + (j + 1)) ((l ++ leB x (j + 1)).map byt) := by simpa [leB] using hx
        exact ⟨j + 1, by have := HJ.out; omega, by go_num, h9, HBEL.out.trans (own_lt HO.out hsz hg2)⟩
    · obtain rfl : k = j := by omega
      go_wp2
      go_ret
      exact ⟨_, rfl, hown, hbel⟩

set_option maxRecDepth 100000 in
set_option maxHeartbeats 1000000 in
theorem number_any {w : World} {A : Option Addr} {n c : Nat} {l : List UInt8} (h : Bts w A n c l) (hn : n ≤ 8) :
    Calls Try.prog 93 #[.slice A n c] w fun e w' => e = .returned (.int .u64 (upB l : Nat)) ∧ w = w' := by
  have hln := h.2.2.2.2
  have H := Lib.hid h
  have HL := Lib.hid hln
  clear h hln
  go_enter Try.func93, Try.ntmps93
  go_wp2_with fail
  go_loop [3, 8] (fun v i => ∃ j : Nat, j ≤ n ∧ i = .int .i64 (j : Int) ∧ v = .int .u64 (upB (l.take j) : Nat)) (fun _ i => match i with | .int _ m => n - m.toNat | _ => 0)
  case atStart => exact ⟨0, by omega, rfl, by simp [upB]⟩
  case round =>
    obtain ⟨j, hj, rfl, rfl⟩ := hrel
    by_cases hlt : j < n
    · obtain ⟨ab, ao, u, rfl, hu, hcell⟩ : ∃ ab ao, ∃ u : UInt8, A = some ⟨ab, ao, none⟩ ∧ l[j]? = some u ∧ w.cell? ⟨ab, ao + j, none⟩ = some (.int .u8 (u.toNat : Int)) := by
        have hv : Vals w A n c (l.map byt) := ⟨H.out.1, H.out.2.1, H.out.2.2.1, H.out.2.2.2.1⟩
        obtain ⟨ab, ao, v, e, h1, h2⟩ := vals_at hv hlt
        rw [List.getElem?_map] at h1
        obtain ⟨z, hz, rfl⟩ := Option.map_eq_some_iff.1 h1
        exact ⟨ab, ao, z, e, hz, h2 w (Below.refl _ _)⟩
      have htake : l.take (j + 1) = l.take j ++ [u] := by rw [List.take_add_one, hu]; rfl
      have hlt2 : (l.take j).length = j := by rw [List.length_take, HL.out]; omega
      have hb1 := upB_lt (l.take j)
      rw [hlt2] at hb1
      obtain ⟨hor, hlt3⟩ := up_bits (upB (l.take j)) u.toNat j hb1 (by omega) u.toNat_lt
      have hup : upB (l.take (j + 1)) = upB (l.take j) + u.toNat * 2 ^ (8 * j) := by rw [htake, upB_snoc, hlt2]
      have HU := Lib.hid hup
      have u256 := u.toNat_lt
      have e8 : IntKind.i64.wrap (8 * (j : Int)) = 8 * (j : Int) := IntWalk.i64_in _ (by omega)
      have en : (8 * (j : Int)).toNat = 8 * j := by omega
      have e0 : (0 : Int) ≤ 8 * (j : Int) := by omega
      clear hu htake hlt2 hb1 hlt3 hup
      go_wp2
      go_round
      case rel => exact ⟨j + 1, by omega, by go_num, by rw [HU.out]; simp⟩
      case measure => simp; omega
    · obtain rfl : n = j := by omega
      go_wp2
      go_ret
      have e : l.take n = l := List.take_of_length_le (by rw [HL.out]; exact Nat.le_refl _)
      rw [e]
      exact ⟨rfl, rfl⟩
end Go.Proofs.Ytlbikfamjogpnaa
end

/- The disk's small methods: what each answers, and what it leaves in memory. Conditions: the disk lies in memory as DiskAt says. -/
section
namespace Go.Proofs.Ytlbikfamjogpnaa
open Go.RowKit

section
variable {b a n c : Nat} {off odd : Bool} {cut writes lives : Int} {w : World}

/-- The struct's cells, for a walk. -/
theorem disk_cells {v0 v1 v2 v3 v4 v5 : Value} (h : Blk w b 95 #[v0, v1, v2, v3, v4, v5]) :
    w.cell? ⟨b, 0, none⟩ = some v0 ∧ w.cell? ⟨b, 1, none⟩ = some v1 ∧ w.cell? ⟨b, 2, none⟩ = some v2 ∧ w.cell? ⟨b, 3, none⟩ = some v3 ∧ w.cell? ⟨b, 4, none⟩ = some v4 ∧ w.cell? ⟨b, 5, none⟩ = some v5 :=
  ⟨(h.cell 0).trans rfl, (h.cell 1).trans rfl, (h.cell 2).trans rfl, (h.cell 3).trans rfl, (h.cell 4).trans rfl, (h.cell 5).trans rfl⟩

set_option maxHeartbeats 400000 in
theorem may_any (d : Dk) (sector size : Int) (h : DiskAt w b a d) :
    Calls Try.prog 70 #[.pointer (some ⟨b, 0, none⟩), .int .i64 sector, .int .i64 size] w fun e w' => e = .returned (.int .i64 (d.may sector size)) ∧ w = w' := by
  obtain ⟨S, off, cut, odd, writes, lives⟩ := d
  obtain ⟨c, arr, hb, -, -, -, -, h1, h2, -⟩ := h
  simp only at hb h1 h2
  obtain ⟨c0, c1, -, -, -, -⟩ := disk_cells hb
  clear hb
  by_cases e1 : sector < 0
  · have hm : Dk.may ⟨S, off, cut, odd, writes, lives⟩ sector size = 1 := by simp [Dk.may, e1]
    rw [hm]
    go_enter Try.func70, Try.ntmps70
    go_wp2
    go_ret
    exact ⟨rfl, rfl⟩
  by_cases e2 : (S.length : Int) ≤ sector
  · have hm : Dk.may ⟨S, off, cut, odd, writes, lives⟩ sector size = 1 := by simp [Dk.may, e2]
    rw [hm]
    go_enter Try.func70, Try.ntmps70
    go_wp2
    go_ret
    exact ⟨rfl, rfl⟩
  by_cases e3 : 64 < size
  · have hm : Dk.may ⟨S, off, cut, odd, writes, lives⟩ sector size = 1 := by simp [Dk.may, e3]
    rw [hm]
    go_enter Try.func70, Try.ntmps70
    go_wp2
    go_ret
    exact ⟨rfl, rfl⟩
  have hm : Dk.may ⟨S, off, cut, odd, writes, lives⟩ sector size = if off = true then 4 else 0 := by simp only [Dk.may]; rw [if_neg (by omega)]
  rw [hm]
  cases off with
  | true =>
    go_enter Try.func70, Try.ntmps70
    go_wp2
    go_ret
    exact ⟨rfl, rfl⟩
  | false =>
    go_enter Try.func70, Try.ntmps70
    go_wp2
    go_ret
    exact ⟨rfl, rfl⟩

theorem sectors_any (d : Dk) (h : DiskAt w b a d) :
    Calls Try.prog 54 #[.pointer (some ⟨b, 0, none⟩)] w fun e w' => e = .returned (.int .i64 d.S.length) ∧ w = w' := by
  obtain ⟨c, arr, hb, -, -, -, -, h1, h2, -⟩ := h
  obtain ⟨c0, c1, -, -, -, -⟩ := disk_cells hb
  clear hb
  go_enter Try.func54, Try.ntmps54
  go_wp2
  go_ret
  exact ⟨rfl, rfl⟩

theorem power_any (d : Dk) (h : DiskAt w b a d) :
    Calls Try.prog 55 #[.pointer (some ⟨b, 0, none⟩)] w fun e w' => e = .returned (.bool (!d.off)) ∧ w = w' := by
  obtain ⟨c, arr, hb, -, -, -, -, h1, h2, -⟩ := h
  obtain ⟨c0, c1, -, -, -, -⟩ := disk_cells hb
  clear hb
  go_enter Try.func55, Try.ntmps55
  go_wp2
  go_ret
  exact ⟨rfl, rfl⟩

theorem lives_any (d : Dk) (h : DiskAt w b a d) :
    Calls Try.prog 56 #[.pointer (some ⟨b, 0, none⟩)] w fun e w' => e = .returned (.int .i64 d.lives) ∧ w = w' := by
  obtain ⟨c, arr, hb, -, -, -, -, h1, h2, -⟩ := h
  obtain ⟨-, -, -, -, -, c5⟩ := disk_cells hb
  clear hb
  go_enter Try.func56, Try.ntmps56
  go_wp2
  go_ret
  exact ⟨rfl, rfl⟩

theorem cut_any (d : Dk) (n how : Int) (hn : n ≤ 9223372036854775807) (h : DiskAt w b a d) :
    Calls Try.prog 28 #[.pointer (some ⟨b, 0, none⟩), .int .i64 n, .int .i64 how] w fun e w' => e = .returned (.tuple #[]) ∧ DiskAt w' b a (d.armed n how) ∧ DKept (DS b a) w w' := by
  have H := h
  obtain ⟨c, arr, hb, -, -, -, -, h1, h2, -, h4, -⟩ := h
  have f2 := hb.frozen 2
  have f3 := hb.frozen 3
  obtain ⟨c0, c1, c2, c3, c4, c5⟩ := disk_cells hb
  clear hb
  go_enter Try.func28, Try.ntmps28
  go_wp2
  · go_end0
    refine ⟨rfl, H.upd _ rfl (by simp only [Dk.armed]; omega) (by simp only [Dk.armed]; omega) (fun s0 hb => ?_) (by repeat (first | exact DKept.refl | refine DKept.set ?_ (by first | exact rfl | exact Or.inl rfl))), (by repeat (first | exact DKept.refl | refine DKept.set ?_ (by first | exact rfl | exact Or.inl rfl)))⟩
    have := (hb.set_ 2 (.int .i64 0)).set_ 3 (.bool (how.tmod 2 != 0))
    have e : max n 0 = 0 := by omega
    simpa [Dk.armed, e] using this
  · go_end0
    refine ⟨rfl, H.upd _ rfl (by simp only [Dk.armed]; omega) (by simp only [Dk.armed]; omega) (fun s0 hb => ?_) (by repeat (first | exact DKept.refl | refine DKept.set ?_ (by first | exact rfl | exact Or.inl rfl))), (by repeat (first | exact DKept.refl | refine DKept.set ?_ (by first | exact rfl | exact Or.inl rfl)))⟩
    have := (hb.set_ 2 (.int .i64 n)).set_ 3 (.bool (how.tmod 2 != 0))
    have e : max n 0 = n := by omega
    simpa [Dk.armed, e] using this

theorem on_any (d : Dk) (h : DiskAt w b a d) :
    Calls Try.prog 24 #[.pointer (some ⟨b, 0, none⟩)] w fun e w' => e = .returned (.tuple #[]) ∧ DiskAt w' b a d.on ∧ DKept (DS b a) w w' := by
  have H := h
  obtain ⟨c, arr, hb, -, -, -, -, h1, h2, -⟩ := h
  have f2 := hb.frozen 2
  have f1 := hb.frozen 1
  have f5 := hb.frozen 5
  obtain ⟨c0, c1, c2, c3, c4, c5⟩ := disk_cells hb
  clear hb
  go_enter Try.func24, Try.ntmps24
  go_wp2
  go_end0
  refine ⟨rfl, H.upd _ rfl (by simp [Dk.on]) (by simp [Dk.on]) (fun s0 hb => ?_) (by repeat (first | exact DKept.refl | refine DKept.set ?_ (by first | exact rfl | exact Or.inl rfl))), (by repeat (first | exact DKept.refl | refine DKept.set ?_ (by first | exact rfl | exact Or.inl rfl)))⟩
  have := ((hb.set_ 1 (.bool false)).set_ 2 (.int .i64 0)).set_ 5 (.int .i64 (wrap64 (d.lives + 1)))
  simpa [Dk.on] using this
end
end Go.Proofs.Ytlbikfamjogpnaa
end

/- disk.New, Write, Read, Copy: what each answers, and what it leaves in memory. Conditions: the disk lies in memory as DiskAt says. -/
section
namespace Go.Proofs.Ytlbikfamjogpnaa
open Go.RowKit

theorem info_bytes : (Try.prog.info? 36).map (fun i => (i.zero, i.size, i.bytes)) = some (some (.slice none 0 0), 1, 24) := by kernel_rfl

theorem make_sectors (n : Nat) (hn : n ≤ 4096) (w : World) :
    (Instr.makeSlice 62 (.int .i64 (n : Int)) (.int .i64 (n : Int))).run Try.prog w = .ok (.slice (some ⟨w.heap.size, 0, none⟩) n n) (w.alloc (.cells (madeCells #[.slice none 0 0] n) 36)) := by
  obtain ⟨i0, hi0, hz0, hz1, hz2⟩ := info_parts info_bytes
  have h1 : i0.bytes * (n : Int) ≤ 281474976710656 := by rw [hz2]; omega
  have hr := run_make (P := Try.prog) w 62 36 i0 (.slice none 0 0) Try.underlying62 hi0 hz0 .i64 .i64 (n : Int) (n : Int) (by omega) (by omega) h1 (by omega)
  rw [hz1] at hr
  simpa [Value.cells] using hr

theorem make_64 (w : World) :
    (Instr.makeSlice 36 (.int .i64 64) (.int .i64 64)).run Try.prog w = .ok (.slice (some ⟨w.heap.size, 0, none⟩) 64 64) (w.alloc (.cells zrow 5)) := by
  obtain ⟨i0, hi0, hz0, hz1, hz2⟩ := info_parts info_u8
  have hr := run_make (P := Try.prog) w 36 5 i0 (.int .u8 0) Try.underlying36 hi0 hz0 .i64 .i64 64 64 (by omega) (by omega) (by rw [hz2]; omega) (by omega)
  rw [hz1] at hr
  have e : madeCells (Value.int .u8 0).cells ((64 : Int).toNat * 1) = zrow := by kernel_rfl
  rw [e] at hr
  exact hr

set_option maxHeartbeats 400000 in
theorem new_ok (n : Int) (w : World) (h1 : 1 ≤ n) (h2 : n ≤ 4096) :
    Calls Try.prog 14 #[.int .i64 n] w fun e w' => ∃ b a, e = .returned (.tuple #[.pointer (some ⟨b, 0, none⟩), .int .i64 0]) ∧ DiskAt w' b a (Dk.new n.toNat) ∧ w.heap.size ≤ b ∧ w.heap.size ≤ a ∧ Below w.heap.size w w' := by
  obtain ⟨m, rfl⟩ := Int.eq_ofNat_of_zero_le (show 0 ≤ n by omega)
  have hmk := make_sectors m (by omega)
  go_enter Try.func14, Try.ntmps14
  go_wp2
  go_ret2
  refine ⟨w.heap.size + 1, w.heap.size, rfl, ⟨m, madeCells #[.slice none 0 0] m, ?_, ?_, by simp [size_madeCells], by simp [Dk.new], by unfold maxLen; omega, by simp [Dk.new]; omega, by simp [Dk.new]; omega, by simp [Dk.new], by simp [Dk.new], ?_⟩, by omega, by omega, ((Below.refl _ _).alloc (Nat.le_refl _) _).alloc (by simp) _⟩
  · have := Blk.new (w.alloc (.cells (madeCells #[.slice none 0 0] m) 36)) 95 #[.slice (some ⟨w.heap.size, 0, none⟩) m m, .bool false, .int .i64 0, .bool false, .int .i64 0, .int .i64 1]
    simpa [Dk.new] using this
  · exact (Blk.new w 36 _).alloc _
  · intro i s hs
    simp only [Dk.new, Int.toNat_natCast] at hs
    obtain ⟨hi, rfl⟩ := List.getElem?_eq_some_iff.1 hs
    simp only [List.length_replicate] at hi
    refine ⟨.slice none 0 0, ?_, by simp [zeros64], .inl ⟨rfl, by simp⟩⟩
    have := toList_madeCells_one (.slice none 0 0) m
    rw [← Array.getElem?_toList, this]
    simp [hi]

theorem zrow_blk (w : World) : (w.alloc (.cells zrow 5)).heap[w.heap.size]? = some (.cells (zeros64.map byt).toArray 5 (0, 0)) := heap_alloc_new w _
theorem zrow_below (w : World) : Below w.heap.size w (w.alloc (.cells zrow 5)) := (Below.refl _ _).alloc (Nat.le_refl _) _

section
variable {b a m cc : Nat} {A : Option Addr} {w : World}

theorem may_cases (d : Dk) (sector size : Int) : d.may sector size = 0 ∨ d.may sector size = 1 ∨ d.may sector size = 4 := by
  unfold Dk.may
  split
  · exact .inr (.inl rfl)
  · split
    · exact .inr (.inr rfl)
    · exact .inl rfl
theorem may_zero {d : Dk} {sector size : Int} (h : d.may sector size = 0) : 0 ≤ sector ∧ sector < d.S.length ∧ size ≤ 64 ∧ d.off = false := by
  unfold Dk.may at h
  split at h
  · omega
  · split at h
    · omega
    · rename_i h1 h2
      exact ⟨by omega, by omega, by omega, by simpa using h2⟩

set_option maxHeartbeats 400000 in
theorem write_no (d : Dk) (sector : Int) (l : List UInt8) (h : DiskAt w b a d) (hl : Bts w A m cc l) (hm : d.may sector m ≠ 0) :
    Calls Try.prog 31 #[.pointer (some ⟨b, 0, none⟩), .int .i64 sector, .slice A m cc] w fun e w' => e = .returned (.int .i64 (d.write sector l).2) ∧ DiskAt w' b a (d.write sector l).1 ∧ DKept (DS b a) w w' := by
  have hlen := hl.2.2.2.2
  have C := may_any d sector m h
  have hw : d.write sector l = (d, d.may sector m) := by simp [Dk.write, hlen, hm]
  rw [hw]
  rcases may_cases d sector m with e | e | e
  · exact absurd e hm
  · rw [e] at C ⊢
    have H := Lib.hid C
    clear C hw e hm
    go_enter Try.func31, Try.ntmps31
    go_wp2_with (go_at_call 70; refine H.out.mono ?_; rintro e w' ⟨rfl, rfl⟩)
    go_ret
    exact ⟨rfl, h, DKept.refl⟩
  · rw [e] at C ⊢
    have H := Lib.hid C
    clear C hw e hm
    go_enter Try.func31, Try.ntmps31
    go_wp2_with (go_at_call 70; refine H.out.mono ?_; rintro e w' ⟨rfl, rfl⟩)
    go_ret
    exact ⟨rfl, h, DKept.refl⟩

set_option maxHeartbeats 1000000 in
theorem write_plain (d : Dk) (sector : Int) (l : List UInt8) (h : DiskAt w b a d) (hl : Bts w A m cc l) (hm : d.may sector m = 0) (hc : d.cut = 0) :
    Calls Try.prog 31 #[.pointer (some ⟨b, 0, none⟩), .int .i64 sector, .slice A m cc] w fun e w' => e = .returned (.int .i64 (d.write sector l).2) ∧ DiskAt w' b a (d.write sector l).1 ∧ DKept (DS b a) w w' := by
  obtain ⟨hnil, hrd, hmc, hcm, hlen⟩ := hl
  have C := may_any d sector m h
  have hw : d.write sector l = ((d.put sector l).counted, 0) := by simp [Dk.write, hlen, hm, hc]
  rw [hw]
  obtain ⟨hs0, hs1, hm64, hoff⟩ := may_zero hm
  rw [hm] at C
  have HC := Lib.hid C
  have H := h
  have hab := h.ne
  have hba : ¬ a = b := fun e => hab e.symm
  have hbl := h.ltb
  have hal := h.lta
  obtain ⟨c, arr, hb, ha, hsz, -, -, -, -, -, -, hsec⟩ := h
  obtain ⟨k, rfl⟩ := Int.eq_ofNat_of_zero_le hs0
  have hk : k < d.S.length := by omega
  obtain ⟨vk, hvk, -⟩ := hsec k _ (List.getElem?_eq_getElem hk)
  rw [hc] at hb
  have hck := (ha.cell k).trans hvk
  have fk := ha.frozen k
  have f4 := hb.frozen 4
  obtain ⟨c0, c1, c2, c3, c4, c5⟩ := disk_cells hb
  have HL := Lib.hid hlen
  have HO := Lib.hid hoff
  have HCUT := Lib.hid hc
  clear C hw hm hlen hoff hc hb ha hsec hvk hnil hsz
  have hmk := make_64
  go_enter Try.func31, Try.ntmps31
  go_wp2_with (first
    | (go_at_call 70; refine HC.out.mono ?_; rintro e w' ⟨rfl, rfl⟩)
    | (with_reducible refine wpList_copy_splice rfl (.tmp 18) (.tmp 19) _ _ rfl 5 Try.underlying36 (by kernel_rfl) (some ⟨w.heap.size, 0, none⟩) A 64 64 m cc rfl rfl w.heap.size 0 (zeros64.map byt) 5 (zrow_blk w) (l.map byt) ?cn ?cp ?cf (byt_one l) w.heap.size w (zrow_below w) (Nat.le_refl _) ?ch))
  case cn => have := HL.out; have e := Nat.min_eq_left (show m ≤ 64 by omega); simp only [List.length_map]; exact this.trans e.symm
  case cp => 
    intro hp
    obtain ⟨ad, e, -, hx⟩ := (hrd.alloc (Nat.le_refl _) (.cells zrow 5)).2 (by have := HL.out; omega)
    exact ⟨ad, e, fun j v hv => hx j _ (by simp [hv])⟩
  case cf => have := HL.out; first | omega | (simp [zeros64]; omega)
  case ch =>
    intro w1 hg1 hb1
    have k0 := (hb1.cell (p := ⟨b, 0, none⟩) hbl).trans c0
    have k2 := (hb1.cell (p := ⟨b, 2, none⟩) hbl).trans c2
    have k4 := (hb1.cell (p := ⟨b, 4, none⟩) hbl).trans c4
    have ka := (hb1.cell (p := ⟨a, k, none⟩) hal).trans hck
    have e4 := (hb1.frozen (p := ⟨b, 4, none⟩) hbl).trans f4
    have ea := (hb1.frozen (p := ⟨a, k, none⟩) hal).trans fk
    go_wp2
    go_ret
    have HP := pad_cells l
    have hgb := hg1.out
    rw [HP] at hgb
    refine ⟨rfl, H.put k w.heap.size (pad l) _ (by simp [Dk.put, Dk.counted]) (by have := HCUT.out; simp only [Dk.put, Dk.counted]; omega) (by have := HCUT.out; simp only [Dk.put, Dk.counted]; omega)
      (pad_length l (by have := HL.out; omega)) (fun s0 hb => ?_) (fun arr ha => ?_) ?_ ?_, ?_⟩
    · have := ((hb.below hb1 hbl).far (p := ⟨a, k, none⟩) hab (.slice (some ⟨w.heap.size, 0, none⟩) 64 64)).set_ 4 (.int .i64 (wrap64 (d.writes + 1)))
      simpa [Dk.put, Dk.counted] using this
    · exact ((ha.below hb1 hal).set_ k _).far (p := ⟨b, 4, none⟩) hba _
    · exact (Blk.far (p := ⟨a, k, none⟩) (show Blk w1 w.heap.size _ _ from hgb) (by show w.heap.size ≠ a; omega) _).far (p := ⟨b, 4, none⟩) (by show w.heap.size ≠ b; omega) _
    · exact DKept.set (S := DS b a) (DKept.set (S := DS b a) (DKept.of_below hb1) (.inr rfl)) (.inl rfl)
    · exact DKept.set (S := DS b a) (DKept.set (S := DS b a) (DKept.of_below hb1) (.inr rfl)) (.inl rfl)

set_option maxHeartbeats 1000000 in
theorem write_counts (d : Dk) (sector : Int) (l : List UInt8) (h : DiskAt w b a d) (hl : Bts w A m cc l) (hm : d.may sector m = 0) (hc : 2 ≤ d.cut) (hx : d.cut ≤ 9223372036854775807) :
    Calls Try.prog 31 #[.pointer (some ⟨b, 0, none⟩), .int .i64 sector, .slice A m cc] w fun e w' => e = .returned (.int .i64 (d.write sector l).2) ∧ DiskAt w' b a (d.write sector l).1 ∧ DKept (DS b a) w w' := by
  obtain ⟨hnil, hrd, hmc, hcm, hlen⟩ := hl
  have C := may_any d sector m h
  have hw : d.write sector l = ((d.less.put sector l).counted, 0) := by simp [Dk.write, hlen, hm, show 0 < d.cut by omega, show ¬ d.cut = 1 by omega]
  rw [hw]
  obtain ⟨hs0, hs1, hm64, hoff⟩ := may_zero hm
  rw [hm] at C
  have HC := Lib.hid C
  have H := h
  have hab := h.ne
  have hba : ¬ a = b := fun e => hab e.symm
  have hbl := h.ltb
  have hal := h.lta
  obtain ⟨c, arr, hb, ha, hsz, -, -, -, -, -, -, hsec⟩ := h
  obtain ⟨k, rfl⟩ := Int.eq_ofNat_of_zero_le hs0
  have hk : k < d.S.length := by omega
  obtain ⟨vk, hvk, -⟩ := hsec k _ (List.getElem?_eq_getElem hk)
  have hck := (ha.cell k).trans hvk
  have fk := ha.frozen k
  have f4 := hb.frozen 4
  have f2 := hb.frozen 2
  have f1 := hb.frozen 1
  obtain ⟨c0, c1, c2, c3, c4, c5⟩ := disk_cells hb
  have HL := Lib.hid hlen
  have HO := Lib.hid hoff
  have HCUT := Lib.hid hc
  have HM := Lib.hid hx
  clear C hw hm hlen hoff hb ha hsec hvk hnil hsz
  have hmk := make_64
  go_enter Try.func31, Try.ntmps31
  go_wp2_with (first
    | (go_at_call 70; refine HC.out.mono ?_; rintro e w' ⟨rfl, rfl⟩)
    | (with_reducible refine wpList_copy_splice rfl (.tmp 18) (.tmp 19) _ _ rfl 5 Try.underlying36 (by kernel_rfl) (some ⟨w.heap.size, 0, none⟩) A 64 64 m cc rfl rfl w.heap.size 0 (zeros64.map byt) 5 (zrow_blk w) (l.map byt) ?cn ?cp ?cf (byt_one l) w.heap.size w (zrow_below w) (Nat.le_refl _) ?ch))
  case cn => have := HL.out; have e := Nat.min_eq_left (show m ≤ 64 by omega); simp only [List.length_map]; exact this.trans e.symm
  case cp => 
    intro hp
    obtain ⟨ad, e, -, hx⟩ := (hrd.alloc (Nat.le_refl _) (.cells zrow 5)).2 (by have := HL.out; omega)
    exact ⟨ad, e, fun j v hv => hx j _ (by simp [hv])⟩
  case cf => have := HL.out; first | omega | (simp [zeros64]; omega)
  case ch =>
    intro w1 hg1 hb1
    have k0 := (hb1.cell (p := ⟨b, 0, none⟩) hbl).trans c0
    have k2 := (hb1.cell (p := ⟨b, 2, none⟩) hbl).trans c2
    have k4 := (hb1.cell (p := ⟨b, 4, none⟩) hbl).trans c4
    have ka := (hb1.cell (p := ⟨a, k, none⟩) hal).trans hck
    have k1 := (hb1.cell (p := ⟨b, 1, none⟩) hbl).trans c1
    have k3 := (hb1.cell (p := ⟨b, 3, none⟩) hbl).trans c3
    have e2 := (hb1.frozen (p := ⟨b, 2, none⟩) hbl).trans f2
    have e1 := (hb1.frozen (p := ⟨b, 1, none⟩) hbl).trans f1
    have e4 := (hb1.frozen (p := ⟨b, 4, none⟩) hbl).trans f4
    have ea := (hb1.frozen (p := ⟨a, k, none⟩) hal).trans fk
    go_wp2
    go_ret
    have HP := pad_cells l
    have hgb := hg1.out
    rw [HP] at hgb
    refine ⟨rfl, H.put k w.heap.size (pad l) _ (by simp [Dk.put, Dk.counted, Dk.less]) (by have := HCUT.out; simp only [Dk.put, Dk.counted, Dk.less]; omega) (by have := HCUT.out; have := HM.out; simp only [Dk.put, Dk.counted, Dk.less]; omega)
      (pad_length l (by have := HL.out; omega)) (fun s0 hb => ?_) (fun arr ha => ?_) ?_ ?_, ?_⟩
    · have := (((hb.below hb1 hbl).set_ 2 (.int .i64 (d.cut - 1))).far (p := ⟨a, k, none⟩) hab (.slice (some ⟨w.heap.size, 0, none⟩) 64 64)).set_ 4 (.int .i64 (wrap64 (d.writes + 1)))
      simpa [Dk.put, Dk.counted, Dk.less] using this
    · exact (((ha.below hb1 hal).far (p := ⟨b, 2, none⟩) hba _).set_ k _).far (p := ⟨b, 4, none⟩) hba _
    · exact ((Blk.far (p := ⟨b, 2, none⟩) (show Blk w1 w.heap.size _ _ from hgb) (by show w.heap.size ≠ b; omega) _).far (p := ⟨a, k, none⟩) (by show w.heap.size ≠ a; omega) _).far (p := ⟨b, 4, none⟩) (by show w.heap.size ≠ b; omega) _
    · exact DKept.set (S := DS b a) (DKept.set (S := DS b a) (DKept.set (S := DS b a) (DKept.of_below hb1) (.inl rfl)) (.inr rfl)) (.inl rfl)
    · exact DKept.set (S := DS b a) (DKept.set (S := DS b a) (DKept.set (S := DS b a) (DKept.of_below hb1) (.inl rfl)) (.inr rfl)) (.inl rfl)

set_option maxHeartbeats 1000000 in
theorem write_cut_odd (d : Dk) (sector : Int) (l : List UInt8) (h : DiskAt w b a d) (hl : Bts w A m cc l) (hm : d.may sector m = 0) (hc : d.cut = 1) (ho : d.odd = true) :
    Calls Try.prog 31 #[.pointer (some ⟨b, 0, none⟩), .int .i64 sector, .slice A m cc] w fun e w' => e = .returned (.int .i64 (d.write sector l).2) ∧ DiskAt w' b a (d.write sector l).1 ∧ DKept (DS b a) w w' := by
  obtain ⟨hnil, hrd, hmc, hcm, hlen⟩ := hl
  have C := may_any d sector m h
  have hw : d.write sector l = (d.cutOff.put sector l, 4) := by simp [Dk.write, hlen, hm, hc, ho]
  rw [hw]
  obtain ⟨hs0, hs1, hm64, hoff⟩ := may_zero hm
  rw [hm] at C
  have HC := Lib.hid C
  have H := h
  have hab := h.ne
  have hba : ¬ a = b := fun e => hab e.symm
  have hbl := h.ltb
  have hal := h.lta
  obtain ⟨c, arr, hb, ha, hsz, -, -, -, -, -, -, hsec⟩ := h
  obtain ⟨k, rfl⟩ := Int.eq_ofNat_of_zero_le hs0
  have hk : k < d.S.length := by omega
  obtain ⟨vk, hvk, -⟩ := hsec k _ (List.getElem?_eq_getElem hk)
  rw [hc, ho] at hb
  have hck := (ha.cell k).trans hvk
  have fk := ha.frozen k
  have f4 := hb.frozen 4
  have f2 := hb.frozen 2
  have f1 := hb.frozen 1
  obtain ⟨c0, c1, c2, c3, c4, c5⟩ := disk_cells hb
  have HL := Lib.hid hlen
  have HO := Lib.hid hoff
  clear C hw hm hlen hoff hc ho hb ha hsec hvk hnil hsz
  have hmk := make_64
  go_enter Try.func31, Try.ntmps31
  go_wp2_with (first
    | (go_at_call 70; refine HC.out.mono ?_; rintro e w' ⟨rfl, rfl⟩)
    | (with_reducible refine wpList_copy_splice rfl (.tmp 18) (.tmp 19) _ _ rfl 5 Try.underlying36 (by kernel_rfl) (some ⟨w.heap.size, 0, none⟩) A 64 64 m cc rfl rfl w.heap.size 0 (zeros64.map byt) 5 (zrow_blk w) (l.map byt) ?cn ?cp ?cf (byt_one l) w.heap.size w (zrow_below w) (Nat.le_refl _) ?ch))
  case cn => have := HL.out; have e := Nat.min_eq_left (show m ≤ 64 by omega); simp only [List.length_map]; exact this.trans e.symm
  case cp => 
    intro hp
    obtain ⟨ad, e, -, hx⟩ := (hrd.alloc (Nat.le_refl _) (.cells zrow 5)).2 (by have := HL.out; omega)
    exact ⟨ad, e, fun j v hv => hx j _ (by simp [hv])⟩
  case cf => have := HL.out; first | omega | (simp [zeros64]; omega)
  case ch =>
    intro w1 hg1 hb1
    have k0 := (hb1.cell (p := ⟨b, 0, none⟩) hbl).trans c0
    have k2 := (hb1.cell (p := ⟨b, 2, none⟩) hbl).trans c2
    have k4 := (hb1.cell (p := ⟨b, 4, none⟩) hbl).trans c4
    have ka := (hb1.cell (p := ⟨a, k, none⟩) hal).trans hck
    have k1 := (hb1.cell (p := ⟨b, 1, none⟩) hbl).trans c1
    have k3 := (hb1.cell (p := ⟨b, 3, none⟩) hbl).trans c3
    have e2 := (hb1.frozen (p := ⟨b, 2, none⟩) hbl).trans f2
    have e1 := (hb1.frozen (p := ⟨b, 1, none⟩) hbl).trans f1
    have e4 := (hb1.frozen (p := ⟨b, 4, none⟩) hbl).trans f4
    have ea := (hb1.frozen (p := ⟨a, k, none⟩) hal).trans fk
    go_wp2
    go_ret
    have HP := pad_cells l
    have hgb := hg1.out
    rw [HP] at hgb
    refine ⟨rfl, H.put k w.heap.size (pad l) _ (by simp [Dk.put, Dk.cutOff]) (by simp [Dk.put, Dk.cutOff]) (by simp [Dk.put, Dk.cutOff])
      (pad_length l (by have := HL.out; omega)) (fun s0 hb => ?_) (fun arr ha => ?_) ?_ ?_, ?_⟩
    · have := (((hb.below hb1 hbl).set_ 2 (.int .i64 0)).set_ 1 (.bool true)).far (p := ⟨a, k, none⟩) hab (.slice (some ⟨w.heap.size, 0, none⟩) 64 64)
      simpa [Dk.put, Dk.cutOff] using this
    · exact (((ha.below hb1 hal).far (p := ⟨b, 2, none⟩) hba _).far (p := ⟨b, 1, none⟩) hba _).set_ k _
    · exact ((Blk.far (p := ⟨b, 2, none⟩) (show Blk w1 w.heap.size _ _ from hgb) (by show w.heap.size ≠ b; omega) _).far (p := ⟨b, 1, none⟩) (by show w.heap.size ≠ b; omega) _).far (p := ⟨a, k, none⟩) (by show w.heap.size ≠ a; omega) _
    · exact DKept.set (S := DS b a) (DKept.set (S := DS b a) (DKept.set (S := DS b a) (DKept.of_below hb1) (.inl rfl)) (.inl rfl)) (.inr rfl)
    · exact DKept.set (S := DS b a) (DKept.set (S := DS b a) (DKept.set (S := DS b a) (DKept.of_below hb1) (.inl rfl)) (.inl rfl)) (.inr rfl)

set_option maxHeartbeats 1000000 in
theorem write_cut_even (d : Dk) (sector : Int) (l : List UInt8) (h : DiskAt w b a d) (hl : Bts w A m cc l) (hm : d.may sector m = 0) (hc : d.cut = 1) (ho : d.odd = false) :
    Calls Try.prog 31 #[.pointer (some ⟨b, 0, none⟩), .int .i64 sector, .slice A m cc] w fun e w' => e = .returned (.int .i64 (d.write sector l).2) ∧ DiskAt w' b a (d.write sector l).1 ∧ DKept (DS b a) w w' := by
  obtain ⟨hnil, hrd, hmc, hcm, hlen⟩ := hl
  have C := may_any d sector m h
  have hw : d.write sector l = (d.cutOff, 4) := by simp [Dk.write, hlen, hm, hc, ho]
  rw [hw]
  obtain ⟨hs0, hs1, hm64, hoff⟩ := may_zero hm
  rw [hm] at C
  have HC := Lib.hid C
  have H := h
  have hab := h.ne
  have hba : ¬ a = b := fun e => hab e.symm
  have hbl := h.ltb
  have hal := h.lta
  obtain ⟨c, arr, hb, ha, hsz, -, -, -, -, -, -, hsec⟩ := h
  obtain ⟨k, rfl⟩ := Int.eq_ofNat_of_zero_le hs0
  have hk : k < d.S.length := by omega
  obtain ⟨vk, hvk, -⟩ := hsec k _ (List.getElem?_eq_getElem hk)
  rw [hc, ho] at hb
  have hck := (ha.cell k).trans hvk
  have fk := ha.frozen k
  have f4 := hb.frozen 4
  have f2 := hb.frozen 2
  have f1 := hb.frozen 1
  obtain ⟨c0, c1, c2, c3, c4, c5⟩ := disk_cells hb
  have HL := Lib.hid hlen
  have HO := Lib.hid hoff
  clear C hw hm hlen hoff hc ho hb ha hsec hvk hnil hsz
  have hmk := make_64
  go_enter Try.func31, Try.ntmps31
  go_wp2_with (first
    | (go_at_call 70; refine HC.out.mono ?_; rintro e w' ⟨rfl, rfl⟩)
    | (with_reducible refine wpList_copy_splice rfl (.tmp 18) (.tmp 19) _ _ rfl 5 Try.underlying36 (by kernel_rfl) (some ⟨w.heap.size, 0, none⟩) A 64 64 m cc rfl rfl w.heap.size 0 (zeros64.map byt) 5 (zrow_blk w) (l.map byt) ?cn ?cp ?cf (byt_one l) w.heap.size w (zrow_below w) (Nat.le_refl _) ?ch))
  case cn => have := HL.out; have e := Nat.min_eq_left (show m ≤ 64 by omega); simp only [List.length_map]; exact this.trans e.symm
  case cp => 
    intro hp
    obtain ⟨ad, e, -, hx⟩ := (hrd.alloc (Nat.le_refl _) (.cells zrow 5)).2 (by have := HL.out; omega)
    exact ⟨ad, e, fun j v hv => hx j _ (by simp [hv])⟩
  case cf => have := HL.out; first | omega | (simp [zeros64]; omega)
  case ch =>
    intro w1 hg1 hb1
    have k0 := (hb1.cell (p := ⟨b, 0, none⟩) hbl).trans c0
    have k2 := (hb1.cell (p := ⟨b, 2, none⟩) hbl).trans c2
    have k4 := (hb1.cell (p := ⟨b, 4, none⟩) hbl).trans c4
    have ka := (hb1.cell (p := ⟨a, k, none⟩) hal).trans hck
    have k1 := (hb1.cell (p := ⟨b, 1, none⟩) hbl).trans c1
    have k3 := (hb1.cell (p := ⟨b, 3, none⟩) hbl).trans c3
    have e2 := (hb1.frozen (p := ⟨b, 2, none⟩) hbl).trans f2
    have e1 := (hb1.frozen (p := ⟨b, 1, none⟩) hbl).trans f1
    have e4 := (hb1.frozen (p := ⟨b, 4, none⟩) hbl).trans f4
    have ea := (hb1.frozen (p := ⟨a, k, none⟩) hal).trans fk
    go_wp2
    go_ret
    have HP := pad_cells l
    have hgb := hg1.out
    rw [HP] at hgb
    refine ⟨rfl, (H.below hb1).upd _ (by simp [Dk.cutOff]) (by simp [Dk.cutOff]) (by simp [Dk.cutOff]) (fun s0 hb => ?_) ?_, ?_⟩
    · have := (hb.set_ 2 (.int .i64 0)).set_ 1 (.bool true)
      simpa [Dk.cutOff] using this
    · exact DKept.set (DKept.set DKept.refl (by exact rfl)) (by exact rfl)
    · exact DKept.set (S := DS b a) (DKept.set (S := DS b a) (DKept.of_below hb1) (.inl rfl)) (.inl rfl)

/-- Write, whatever comes. -/
theorem write_any (d : Dk) (sector : Int) (l : List UInt8) (h : DiskAt w b a d) (hl : Bts w A m cc l) :
    Calls Try.prog 31 #[.pointer (some ⟨b, 0, none⟩), .int .i64 sector, .slice A m cc] w fun e w' => e = .returned (.int .i64 (d.write sector l).2) ∧ DiskAt w' b a (d.write sector l).1 ∧ DKept (DS b a) w w' := by
  by_cases hm : d.may sector m = 0
  · obtain ⟨h0, h1⟩ : 0 ≤ d.cut ∧ d.cut ≤ 9223372036854775807 := by
      obtain ⟨c, arr, _, _, _, _, _, _, _, h8, h9, _⟩ := h
      exact ⟨h8, h9⟩
    by_cases e0 : d.cut = 0
    · exact write_plain d sector l h hl hm e0
    by_cases e1 : d.cut = 1
    · cases ho : d.odd with
      | true => exact write_cut_odd d sector l h hl hm e1 ho
      | false => exact write_cut_even d sector l h hl hm e1 ho
    · exact write_counts d sector l h hl hm (by omega) h1
  · exact write_no d sector l h hl hm
end
end Go.Proofs.Ytlbikfamjogpnaa
end

/- disk.Read, disk.Copy, and slices.Clone at [][]byte: what each answers, and what it leaves in memory. Conditions: the disk lies in memory as DiskAt says. -/
section
namespace Go.Proofs.Ytlbikfamjogpnaa
open Go.RowKit

section
variable {b a m cc : Nat} {A : Option Addr} {w : World}

set_option maxHeartbeats 400000 in
theorem read_no (d : Dk) (sector : Int) (h : DiskAt w b a d) (hm : d.may sector 0 ≠ 0) :
    Calls Try.prog 92 #[.pointer (some ⟨b, 0, none⟩), .int .i64 sector] w fun e w' => e = .returned (.tuple #[.slice none 0 0, .int .i64 (d.may sector 0)]) ∧ w = w' := by
  have C := may_any d sector 0 h
  rcases may_cases d sector 0 with e | e | e
  · exact absurd e hm
  · rw [e] at C ⊢
    have H := Lib.hid C
    clear C e hm
    go_enter Try.func92, Try.ntmps92
    go_wp2_with (go_at_call 70; refine H.out.mono ?_; rintro e w' ⟨rfl, rfl⟩)
    go_ret2
    exact ⟨rfl, rfl⟩
  · rw [e] at C ⊢
    have H := Lib.hid C
    clear C e hm
    go_enter Try.func92, Try.ntmps92
    go_wp2_with (go_at_call 70; refine H.out.mono ?_; rintro e w' ⟨rfl, rfl⟩)
    go_ret2
    exact ⟨rfl, rfl⟩

/-- What a read hands back: 64 bytes in new memory. -/
def Got (w : World) (s : List UInt8) (e : Ending) (w' : World) : Prop :=
  ∃ g c, e = .returned (.tuple #[.slice (some ⟨g, 0, none⟩) 64 c, .int .i64 0]) ∧ w'.ownsRow w.heap.size 5 1 (.slice (some ⟨g, 0, none⟩) 64 c) 64 (s.map byt) ∧ Below w.heap.size w w'

set_option maxHeartbeats 400000 in
theorem read_ok (d : Dk) (k : Nat) (s : List UInt8) (h : DiskAt w b a d) (hs : d.S[k]? = some s) (hoff : d.off = false) :
    Calls Try.prog 92 #[.pointer (some ⟨b, 0, none⟩), .int .i64 (k : Int)] w (Got w s) := by
  have hk : k < d.S.length := (List.getElem?_eq_some_iff.1 hs).1
  have C := may_any d k 0 h
  have hm : d.may k 0 = 0 := by
    unfold Dk.may
    rw [if_neg (by omega), if_neg (by simp [hoff])]
  rw [hm] at C
  have HC := Lib.hid C
  obtain ⟨c, arr, hb, ha, hsz, -, -, -, h4096, -, -, hsec⟩ := h
  obtain ⟨vk, hvk, hlen, hv⟩ := hsec k s hs
  have hck := (ha.cell k).trans hvk
  obtain ⟨c0, c1, c2, c3, c4, c5⟩ := disk_cells hb
  have HOFF := Lib.hid hoff
  have HS := Lib.hid hs
  have HB := Lib.hid hb
  have HA := Lib.hid ha
  clear C hm hoff hb ha hsec hvk hsz hs
  have q := fun (w : World) (A : Option Addr) (n c : Nat) => Lib.run_eql_slice_nil (P := Try.prog) w 36 5 A n c 0 0 Try.underlying36
  have hmk := make_64
  rcases hv with ⟨rfl, rfl⟩ | ⟨g, rfl, hg⟩
  · clear hlen
    go_enter Try.func92, Try.ntmps92
    go_wp2_with (go_at_call 70; refine HC.out.mono ?_; rintro e w' ⟨rfl, rfl⟩)
    go_ret2
    refine ⟨_, _, rfl, ?_, zrow_below w⟩
    have := World.ownsRow_lit (e := 5) (size := 1) w zrow 64 (Nat.le_refl _) (by unfold maxLen; omega) (by simp [zrow, zeros64])
    simpa [zrow] using this
  · have hr : Reads w w.heap.size 1 (some ⟨g, 0, none⟩) 64 (s.map byt) := by
      refine ⟨by simp [hlen], fun _ => ⟨_, rfl, hg.lt, fun j u hu => ?_⟩⟩
      have := hg.cell j
      rw [show (⟨g, 0, none⟩ : Addr).add j = ⟨g, j, none⟩ by unfold Addr.add; by_cases e : j = 0 <;> simp [e], this]
      simpa using hu
    have C2 := Lib.hid (clone_bytes_some ⟨g, 0, none⟩ 64 64 (s.map byt) w hr (byt_one s) (by omega))
    clear hlen hg hr
    go_enter Try.func92, Try.ntmps92
    go_wp2_with (first
      | (go_at_call 70; refine HC.out.mono ?_; rintro e w' ⟨rfl, rfl⟩)
      | (go_at_call 94; refine C2.out.mono ?_; rintro e w1 ⟨v1, rfl, hown, hbel, g1, c1', rfl⟩))
    go_ret2
    exact ⟨_, _, rfl, hown, hbel⟩

end
end Go.Proofs.Ytlbikfamjogpnaa
end

/- An area in memory; Begin, Life, Room, done, All. Conditions: the area lies in memory as AreaAt says. -/
section
namespace Go.Proofs.Ytlbikfamjogpnaa
open Go.RowKit

/-- An area as a plain value. -/
structure Ar where
  lives : Int
  first : Nat
  sectors : Nat
  life : Nat
  ats : List Nat
  used : Nat

def natv (x : Nat) : Value := .int .i64 (x : Int)

/-- Where an area lies: its block p, of a disk at b; the row of its frames is this one's own, all of it from block B on. -/
def AreaAt (w : World) (B p b : Nat) (A : Ar) : Prop :=
  B ≤ p ∧ ∃ At c, Blk w p 97 #[.pointer (some ⟨b, 0, none⟩), .int .i64 A.lives, .int .i64 A.first, .int .i64 A.sectors, .int .u64 A.life, .slice At A.ats.length c, .int .i64 A.used] ∧
    w.ownsRow B 3 1 (.slice At A.ats.length c) A.ats.length (A.ats.map natv)

theorem area_cells {w : World} {p : Nat} {t : TypeId} {v0 v1 v2 v3 v4 v5 v6 : Value} (h : Blk w p t #[v0, v1, v2, v3, v4, v5, v6]) :
    w.cell? ⟨p, 0, none⟩ = some v0 ∧ w.cell? ⟨p, 1, none⟩ = some v1 ∧ w.cell? ⟨p, 2, none⟩ = some v2 ∧ w.cell? ⟨p, 3, none⟩ = some v3 ∧ w.cell? ⟨p, 4, none⟩ = some v4 ∧ w.cell? ⟨p, 5, none⟩ = some v5 ∧ w.cell? ⟨p, 6, none⟩ = some v6 :=
  ⟨(h.cell 0).trans rfl, (h.cell 1).trans rfl, (h.cell 2).trans rfl, (h.cell 3).trans rfl, (h.cell 4).trans rfl, (h.cell 5).trans rfl, (h.cell 6).trans rfl⟩

section
variable {w : World} {B p b : Nat} {A : Ar}
theorem AreaAt.below {w' : World} (h : AreaAt w B p b A) (hb : Below w.heap.size w w') : AreaAt w' B p b A := by
  obtain ⟨h0, At, c, hk, ho⟩ := h
  exact ⟨h0, At, c, hk.below hb hk.lt, own_keep ho fun g hg => hb.block g (ho.lt g hg).2⟩

theorem life_any (h : AreaAt w B p b A) : Calls Try.prog 22 #[.pointer (some ⟨p, 0, none⟩)] w fun e w' => e = .returned (.int .u64 A.life) ∧ w = w' := by
  obtain ⟨_, At, c, hk, _⟩ := h
  obtain ⟨-, -, -, -, c4, -, -⟩ := area_cells hk
  clear hk
  go_enter Try.func22, Try.ntmps22
  go_wp2
  go_ret
  exact ⟨rfl, rfl⟩

theorem room_any (h : AreaAt w B p b A) (h1 : A.used ≤ 100000) (h2 : A.sectors ≤ 100000) :
    Calls Try.prog 19 #[.pointer (some ⟨p, 0, none⟩)] w fun e w' => e = .returned (.int .i64 ((A.sectors : Int) - A.used)) ∧ ∃ m, w' = w.drewN m := by
  obtain ⟨_, At, c, hk, _⟩ := h
  obtain ⟨-, -, -, c3, -, -, c6⟩ := area_cells hk
  clear hk
  have e1 : IntKind.i64.wrap ((A.sectors : Int) - A.used) = (A.sectors : Int) - A.used := IntWalk.i64_in _ (by omega)
  go_enter Try.func19, Try.ntmps19
  go_wp2_with fail
  go_quiet (fail)
  go_wp2
  go_ret
  exact ⟨rfl, _, rfl⟩

theorem begin_any (v : Nat) (h : AreaAt w B p b A) :
    Calls Try.prog 16 #[.pointer (some ⟨p, 0, none⟩), .int .u64 (v : Int)] w fun e w' => e = .returned (.tuple #[]) ∧ AreaAt w' B p b { A with life := v, ats := [], used := 0 } ∧ DKept (fun k => k = p) w w' := by
  obtain ⟨h0, At, c, hk, _⟩ := h
  obtain ⟨-, -, -, -, c4, c5, c6⟩ := area_cells hk
  have f4 := hk.frozen 4
  have f5 := hk.frozen 5
  have f6 := hk.frozen 6
  have HK := Lib.hid hk
  clear hk
  go_enter Try.func16, Try.ntmps16
  go_wp2
  go_end0
  refine ⟨rfl, ⟨h0, none, 0, ?_, own_nil_row _ _ _⟩, DKept.set (DKept.set (DKept.set DKept.refl (by exact rfl)) (by exact rfl)) (by exact rfl)⟩
  have := ((HK.out.set_ 4 (.int .u64 (v : Int))).set_ 5 (.slice none 0 0)).set_ 6 (.int .i64 0)
  simpa using this

theorem done_any (d : Dk) {a : Nat} (h : AreaAt w B p b A) (hd : DiskAt w b a d) :
    Calls Try.prog 58 #[.pointer (some ⟨p, 0, none⟩)] w fun e w' => e = .returned (.bool (A.lives != d.lives)) ∧ ∃ m, w' = w.drewN m := by
  obtain ⟨_, At, c, hk, _⟩ := h
  obtain ⟨c0, c1, -, -, -, -, -⟩ := area_cells hk
  clear hk
  have CL := Lib.hid (fun m => lives_any d (show DiskAt (w.drewN m) b a d from hd))
  clear hd
  go_enter Try.func58, Try.ntmps58
  go_wp2_with fail
  go_quiet ((go_at_call 56; exact (CL.out _).mono (fun _ _ ⟨he, hm⟩ => ⟨he, _, hm.symm⟩)))
  go_wp2
  go_ret
  exact ⟨rfl, _, rfl⟩
end
end Go.Proofs.Ytlbikfamjogpnaa
end

/- A frame that stands in sectors, in plain Lean. Conditions: none. -/
section
namespace Go.Proofs.Ytlbikfamjogpnaa

def fsz (n : Nat) : Nat := if n ≤ 44 then 1 else 1 + (n + 18) / 63
theorem fsize_nat {n : Nat} (h : n ≤ 1000) : fsize (n : Int) = (fsz n : Int) := by
  unfold fsize fsz
  rw [if_neg (by omega)]
  by_cases e : n ≤ 44
  · rw [if_pos (by omega), if_pos e]; rfl
  · rw [if_neg (by omega), if_neg e]; omega
theorem fsz_pos (n : Nat) : 1 ≤ fsz n := by unfold fsz; split <;> omega
theorem fsz_room {n : Nat} : n ≤ 44 + 63 * (fsz n - 1) := by unfold fsz; split <;> omega
theorem fsz_le {n : Nat} (h : n ≤ 1000) : fsz n ≤ 17 := by unfold fsz; split <;> omega

/-- The bytes of k sectors that go on with a frame. -/
def rest (S : List (List UInt8)) (at0 : Nat) : Nat → Option (List UInt8)
  | 0 => some []
  | k + 1 => if (S.getD at0 []).headD 0 = 67 then (rest S (at0 + 1) k).map ((S.getD at0 []).drop 1 ++ ·) else none

structure Fr where
  kind : UInt8
  life : Nat
  n : Nat
  b : List UInt8

/-- The frame that stands at a place of an area. -/
def frameAt (S : List (List UInt8)) (first sectors at0 : Nat) : Option Fr :=
  let h := S.getD (first + at0) []
  let len := upB ((h.drop 14).take 2)
  if sectors ≤ at0 then none
  else if h.headD 0 ≠ 72 ∨ 1000 < len ∨ sectors - at0 < fsz len then none
  else match rest S (first + at0 + 1) (fsz len - 1) with
    | none => none
    | some r =>
      let b := (h.drop 20 ++ r).take len
      if sumOf (h.take 16 ++ b) = upB ((h.drop 16).take 4) then some ⟨h.getD 1 0, upB ((h.drop 2).take 8), upB ((h.drop 10).take 4), b⟩ else none

theorem rest_len {S : List (List UInt8)} (hS : ∀ s ∈ S, s.length = 64) (k : Nat) : ∀ at0 r, at0 + k ≤ S.length → rest S at0 k = some r → r.length = 63 * k := by
  induction k with
  | zero => intro at0 r _ h; simp [rest] at h; simp [← h]
  | succ k ih =>
    intro at0 r hl h
    unfold rest at h
    split at h
    · rw [Option.map_eq_some_iff] at h
      obtain ⟨r', hr, rfl⟩ := h
      have h1 := ih (at0 + 1) r' (by omega) hr
      have h2 : (S.getD at0 []).length = 64 := by
        rw [List.getD_eq_getElem?_getD, List.getElem?_eq_getElem (by omega)]
        exact hS _ (List.getElem_mem _)
      simp only [List.length_append, List.length_drop, h1, h2]
      omega
    · cases h
end Go.Proofs.Ytlbikfamjogpnaa
end

/- The contract of frame's read. Conditions: an area and its disk lie in memory. -/
section
namespace Go.Proofs.Ytlbikfamjogpnaa
open Go.RowKit

/-- A struct in a cell and a slot, as results. -/
theorem results_ct {P : Program} {fn : Func} {p u : Tmp} {ty : TypeId} (h : fn.results = #[.cell p ty, .tmp u]) (tmps : Array Value) (w : World) (g : Nat) (t : TypeId) (cs : Array Value) (fr : Nat × Nat) (d : TypeDesc)
    (hp : tmps.getD p undef = .pointer (some ⟨g, 0, none⟩)) (hg : w.heap[g]? = some (.cells cs t fr))
    (hu : P.underlying ty = some d) (hd : (match d with | .struct _ | .array _ _ => true | _ => false) = true) (hi : (P.info? ty).map (·.size) = some cs.size) :
    (results fn tmps).run P w = .ok (.tuple #[.agg cs, tmps.getD u undef]) w := by
  have hp' : tmps[p]?.getD undef = .pointer (some ⟨g, 0, none⟩) := by simpa using hp
  simp [results, h, hp', asAddr, run_loadVar_row w g t ty cs fr d hg hu hd hi]

section
variable {w : World} {B p b a : Nat} {A : Ar}
set_option maxRecDepth 100000 in
set_option maxHeartbeats 4000000 in
theorem read_past (k : Nat) (h : AreaAt w B p b A) (hk : A.sectors ≤ k) :
    Calls Try.prog 57 #[.pointer (some ⟨p, 0, none⟩), .int .i64 (k : Int)] w fun e w' => e = .returned (.tuple #[.agg #[.int .u8 0, .int .u64 0, .int .u64 0, .slice none 0 0], .int .i64 5]) ∧ Below w.heap.size w w' := by
  obtain ⟨_, At, c, hb, _⟩ := h
  have hp := hb.lt
  obtain ⟨-, -, -, c3, -, -, -⟩ := area_cells hb
  have t1 : decide ((A.sectors : Int) ≤ (k : Int)) = true := decide_eq_true (by omega)
  clear hb
  go_enter Try.func57, Try.ntmps57
  go_wp2
  refine bodyPost_ret_by (results_ct rfl _ _ w.heap.size 99 #[.int .u8 0, .int .u64 0, .int .u64 0, .slice none 0 0] (0, 0) _ rfl ?_ Try.underlying99 rfl (by kernel_rfl)) rfl ⟨rfl, (Below.refl _ _).alloc (Nat.le_refl _) _⟩
  exact Blk.new _ _ _

set_option maxRecDepth 100000 in
set_option maxHeartbeats 4000000 in
theorem read_off (d : Dk) (k : Nat) (h : AreaAt w B p b A) (hd : DiskAt w b a d) (hk : k < A.sectors) (hfit : A.first + A.sectors ≤ d.S.length) (hoff : d.off = true) :
    Calls Try.prog 57 #[.pointer (some ⟨p, 0, none⟩), .int .i64 (k : Int)] w fun e w' => e = .returned (.tuple #[.agg #[.int .u8 0, .int .u64 0, .int .u64 0, .slice none 0 0], .int .i64 4]) ∧ Below w.heap.size w w' := by
  obtain ⟨_, At, c, hb, _⟩ := h
  have hp := hb.lt
  have hl : d.S.length ≤ 4096 := by obtain ⟨_, _, _, _, _, _, _, _, h, _⟩ := hd; exact h
  have t1 : decide ((A.sectors : Int) ≤ (k : Int)) = false := decide_eq_false (by omega)
  have ew : IntKind.i64.wrap ((A.first : Int) + (k : Int)) = (A.first : Int) + (k : Int) := IntWalk.i64_in _ (by omega)
  have hm : d.may ((A.first : Int) + k) 0 = 4 := by
    unfold Dk.may
    rw [if_neg (by omega), if_pos hoff]
  obtain ⟨W0, hW0⟩ : ∃ W0, W0 = w.alloc (.cells #[.int .u8 0, .int .u64 0, .int .u64 0, .slice none 0 0] 99) := ⟨_, rfl⟩
  have hb0 : Below w.heap.size w W0 := by rw [hW0]; exact (Below.refl _ _).alloc (Nat.le_refl _) _
  have hz : Blk W0 w.heap.size 99 #[.int .u8 0, .int .u64 0, .int .u64 0, .slice none 0 0] := by rw [hW0]; exact Blk.new _ _ _
  have SF : Hid (∀ w', Below w.heap.size w w' → w'.cell? ⟨p, 0, none⟩ = some (.pointer (some ⟨b, 0, none⟩)) ∧ w'.cell? ⟨p, 2, none⟩ = some (.int .i64 A.first)) := Lib.hid fun w' h => by
    obtain ⟨c0, -, c2, -, -, -, -⟩ := area_cells (hb.below h hp)
    exact ⟨c0, c2⟩
  have CR := read_no d ((A.first : Int) + k) (show DiskAt W0.drew b a d from hd.below hb0.drew) (by rw [hm]; omega)
  rw [hm] at CR
  have HC := Lib.hid CR
  have HB0 := Lib.hid hb0
  have HZ := Lib.hid hz
  have HW0 := Lib.hid hW0
  obtain ⟨-, -, -, c3, -, -, -⟩ := area_cells hb
  clear hb hd hW0 hb0 hz CR hm
  go_enter Try.func57, Try.ntmps57
  go_wp2_with fail
  rw [← HW0.out]
  go_region_held3 (fun w' => w'.cell? ⟨p, 0, none⟩ = some (.pointer (some ⟨b, 0, none⟩)) ∧ w'.cell? ⟨p, 2, none⟩ = some (.int .i64 A.first))
    (first | exact SF.out _ HB0.out.drew)
    (first | (go_simp; go_at_call 92; go_must (refine HC.out.mono ?_); rintro e w2 ⟨rfl, rfl⟩))
  have z0 := (HZ.out.cell 0).trans rfl
  have z1 := (HZ.out.cell 1).trans rfl
  have z2 := (HZ.out.cell 2).trans rfl
  have z3 := (HZ.out.cell 3).trans rfl
  have f0 := HZ.out.frozen 0
  have f1 := HZ.out.frozen 1
  have f2 := HZ.out.frozen 2
  have f3 := HZ.out.frozen 3
  go_wp2
  refine bodyPost_ret_by (results_ct rfl _ _ w.heap.size 99 #[.int .u8 0, .int .u64 0, .int .u64 0, .slice none 0 0] (0, 0) _ rfl ?_ Try.underlying99 rfl (by kernel_rfl)) rfl ⟨rfl, ?_⟩
  · have := (((HZ.out.set_ 0 (.int .u8 0)).set_ 1 (.int .u64 0)).set_ 2 (.int .u64 0)).set_ 3 (.slice none 0 0)
    exact this
  · exact ((((HB0.out.setCell (p := ⟨w.heap.size, 0, none⟩) (Nat.le_refl _) _).setCell (p := ⟨w.heap.size, 1, none⟩) (Nat.le_refl _) _).setCell (p := ⟨w.heap.size, 2, none⟩) (Nat.le_refl _) _).setCell (p := ⟨w.heap.size, 3, none⟩) (Nat.le_refl _) _).drew
end
end Go.Proofs.Ytlbikfamjogpnaa
end

/- frame's read of a disk that is on. Conditions: an area and its disk lie in memory; the area lies on the disk. -/
section
namespace Go.Proofs.Ytlbikfamjogpnaa
open Go.RowKit

/-- A part of an owned row of bytes. -/
theorem own_cut {w : World} {base g n c : Nat} {l : List UInt8} (h : w.ownsRow base 5 1 (.slice (some ⟨g, 0, none⟩) n c) n (l.map byt)) {i j : Nat} (hij : i ≤ j) (hj : j ≤ n) :
    Bts w (some ⟨g, i, none⟩) (j - i) (c - i) ((l.drop i).take (j - i)) := by
  have hb := own_bts h
  obtain ⟨_, ⟨hlen, hc⟩, h2, h3, h4⟩ := hb
  refine ⟨by simp, ⟨by simp; omega, fun hn => ?_⟩, by omega, by omega, by simp; omega⟩
  obtain ⟨ad, e, hlt, hcell⟩ := hc (by omega)
  injection e with e
  subst e
  refine ⟨_, rfl, hlt, fun k u hu => ?_⟩
  have hk : k < j - i := by
    have := (List.getElem?_eq_some_iff.1 hu).1
    simp at this
    omega
  have h9 := hcell (i + k) u (by
    rw [List.getElem?_map, List.getElem?_take, if_pos hk, List.getElem?_drop] at hu
    rw [List.getElem?_map]
    exact hu)
  rw [add_zero_off] at h9
  have : (⟨g, i, none⟩ : Addr).add k = ⟨g, i + k, none⟩ := by
    unfold Addr.add
    by_cases e : k = 0 <;> simp [e]
  rw [this]
  exact h9

theorem upB_two (l : List UInt8) : upB ((l.drop 14).take 2) < 65536 := by
  have h := upB_lt ((l.drop 14).take 2)
  have h2 : ((l.drop 14).take 2).length ≤ 2 := by simp; omega
  have h3 : 2 ^ (8 * ((l.drop 14).take 2).length) ≤ 2 ^ 16 := Nat.pow_le_pow_right (by omega) (by omega)
  omega

section
variable {w : World} {B p b a : Nat} {A : Ar}
set_option maxRecDepth 100000 in
set_option maxHeartbeats 4000000 in
theorem read_headless (d : Dk) (k : Nat) (s : List UInt8) (h : AreaAt w B p b A) (hd : DiskAt w b a d) (hk : k < A.sectors) (hfit : A.first + A.sectors ≤ d.S.length) (hoff : d.off = false) (hs : d.S[A.first + k]? = some s)
    (hno : s.headD 0 ≠ 72 ∨ 1000 < upB ((s.drop 14).take 2) ∨ A.sectors - k < fsz (upB ((s.drop 14).take 2))) :
    Calls Try.prog 57 #[.pointer (some ⟨p, 0, none⟩), .int .i64 (k : Int)] w fun e w' => e = .returned (.tuple #[.agg #[.int .u8 0, .int .u64 0, .int .u64 0, .slice none 0 0], .int .i64 5]) ∧ Below w.heap.size w w' := by
  obtain ⟨_, At, c, hb, _⟩ := h
  have hp := hb.lt
  have hl : d.S.length ≤ 4096 := by obtain ⟨_, _, _, _, _, _, _, _, h, _⟩ := hd; exact h
  have h64 : s.length = 64 := by
    obtain ⟨_, _, _, _, _, _, _, _, _, _, _, h⟩ := hd
    obtain ⟨v, _, hv⟩ := h _ _ hs
    exact hv.1
  have t1 : decide ((A.sectors : Int) ≤ (k : Int)) = false := decide_eq_false (by omega)
  have ew : IntKind.i64.wrap ((A.first : Int) + (k : Int)) = (A.first : Int) + (k : Int) := IntWalk.i64_in _ (by omega)
  obtain ⟨W0, hW0⟩ : ∃ W0, W0 = w.alloc (.cells #[.int .u8 0, .int .u64 0, .int .u64 0, .slice none 0 0] 99) := ⟨_, rfl⟩
  have hb0 : Below w.heap.size w W0 := by rw [hW0]; exact (Below.refl _ _).alloc (Nat.le_refl _) _
  have hsz0 : W0.heap.size = w.heap.size + 1 := by rw [hW0]; simp
  have hz : Blk W0 w.heap.size 99 #[.int .u8 0, .int .u64 0, .int .u64 0, .slice none 0 0] := by rw [hW0]; exact Blk.new _ _ _
  have SF : Hid (∀ w', Below w.heap.size w w' → w'.cell? ⟨p, 0, none⟩ = some (.pointer (some ⟨b, 0, none⟩)) ∧ w'.cell? ⟨p, 2, none⟩ = some (.int .i64 A.first)) := Lib.hid fun w' h => by
    obtain ⟨c0, -, c2, -, -, -, -⟩ := area_cells (hb.below h hp)
    exact ⟨c0, c2⟩
  have CR := read_ok d (A.first + k) s (show DiskAt W0.drew b a d from hd.below hb0.drew) hs hoff
  rw [Int.natCast_add] at CR
  have HC := Lib.hid CR
  have HB0 := Lib.hid hb0
  have HZ := Lib.hid hz
  have HW0 := Lib.hid hW0
  have HNO := Lib.hid hno
  have AC : Hid (∀ w', Below w.heap.size w w' → w'.cell? ⟨p, 3, none⟩ = some (.int .i64 A.sectors)) := Lib.hid fun w' h => by
    obtain ⟨-, -, -, c3, -, -, -⟩ := area_cells (hb.below h hp)
    exact c3
  obtain ⟨-, -, -, c3, -, -, -⟩ := area_cells hb
  have hsl : Hid (d.S.length ≤ 4096) := Lib.hid hl
  clear hb hd hW0 hb0 hz CR hno hs
  go_enter Try.func57, Try.ntmps57
  go_wp2_with fail
  rw [← HW0.out]
  go_region_held3 (fun w' => w'.cell? ⟨p, 0, none⟩ = some (.pointer (some ⟨b, 0, none⟩)) ∧ w'.cell? ⟨p, 2, none⟩ = some (.int .i64 A.first))
    (first | exact SF.out _ HB0.out.drew | exact SF.out _ hB2)
    (first | (go_simp; go_at_call 92; go_must (refine HC.out.mono ?_); rintro e w2 ⟨g, c2, rfl, hown, hbel⟩
              have hB2 : Below w.heap.size w w2 := HB0.out.drew.trans (hbel.mono (by show w.heap.size ≤ W0.heap.size; omega))))
  have hbt := own_cut hown (i := 14) (j := 16) (by omega) (by omega)
  have hc64 := (own_bts hown).2.2.1
  have CN := Lib.hid (number_any hbt (by omega))
  have hu := upB_two s
  have hhead : w2.cell? ⟨g, 0, none⟩ = some (.int .u8 ((s.headD 0).toNat : Int)) := by
    rw [hown.cellAt 0 (by omega), List.getElem?_map]
    rcases s with _ | ⟨x, s⟩
    · simp at h64
    · rfl
  have c32 := AC.out w2 hB2
  have HZ2 : Hid (Blk w2 w.heap.size 99 #[.int .u8 0, .int .u64 0, .int .u64 0, .slice none 0 0]) := Lib.hid (HZ.out.drew.below hbel (by show w.heap.size < W0.heap.size; omega))
  have HB2 := Lib.hid hB2
  generalize hn : upB ((s.drop 14).take (16 - 14)) = nb at CN
  have hn2 : upB ((s.drop 14).take 2) = nb := hn
  rw [hn2] at hu HNO
  clear hown hbel hbt hB2 hn hn2 HC SF AC c3
  have ei : IntKind.i64.wrap (nb : Int) = (nb : Int) := IntWalk.i64_in _ (by omega)
  have CZ := Lib.hid (size_any w2 (nb : Int) (by omega) (by omega))
  have z0 := (HZ2.out.cell 0).trans rfl
  have z1 := (HZ2.out.cell 1).trans rfl
  have z2 := (HZ2.out.cell 2).trans rfl
  have z3 := (HZ2.out.cell 3).trans rfl
  have f0 := HZ2.out.frozen 0
  have f1 := HZ2.out.frozen 1
  have f2 := HZ2.out.frozen 2
  have f3 := HZ2.out.frozen 3
  go_wp2_with fail
  refine CN.out.mono ?_
  rintro e w3 ⟨rfl, rfl⟩
  go_wp2_with fail
  refine CZ.out.mono ?_
  rintro e w3 ⟨rfl, rfl⟩
  have hx := (s.headD 0).toNat_lt
  clear CN CZ
  by_cases a1 : s.headD 0 = 72
  · have b1 : (((s.headD 0).toNat : Int) != 72) = false := by rw [a1]; rfl
    by_cases a2 : 1000 < nb
    · have b2 : (fsize (nb : Int) == 0) = true := by unfold fsize; rw [if_pos (by omega)]; rfl
      generalize fsize (nb : Int) = fz at *
      generalize ((s.headD 0).toNat : Int) = hx0 at *
      clear a1 HNO
      go_wp2
      refine bodyPost_ret_by (results_ct rfl _ _ w.heap.size 99 #[.int .u8 0, .int .u64 0, .int .u64 0, .slice none 0 0] (0, 0) _ rfl ?_ Try.underlying99 rfl (by kernel_rfl)) rfl ⟨rfl, ?_⟩
      · have := (((HZ2.out.set_ 0 (.int .u8 0)).set_ 1 (.int .u64 0)).set_ 2 (.int .u64 0)).set_ 3 (.slice none 0 0)
        exact this
      · exact ((((HB2.out.setCell (p := ⟨w.heap.size, 0, none⟩) (Nat.le_refl _) _).setCell (p := ⟨w.heap.size, 1, none⟩) (Nat.le_refl _) _).setCell (p := ⟨w.heap.size, 2, none⟩) (Nat.le_refl _) _).setCell (p := ⟨w.heap.size, 3, none⟩) (Nat.le_refl _) _)
    · have e3 : fsize (nb : Int) = (fsz nb : Int) := fsize_nat (by omega)
      have hp1 := fsz_pos nb
      have hle := fsz_le (n := nb) (by omega)
      have hgt : A.sectors - k < fsz nb := by
        rcases HNO.out with h | h | h
        · exact absurd a1 h
        · omega
        · exact h
      have b2 : ((fsz nb : Int) == 0) = false := beq_eq_false_iff_ne.2 (by omega)
      have es : IntKind.i64.wrap ((A.sectors : Int) - (k : Int)) = (A.sectors : Int) - (k : Int) := IntWalk.i64_in _ (by have := hsl.out; omega)
      have b3 : decide ((A.sectors : Int) - (k : Int) < (fsz nb : Int)) = true := decide_eq_true (by omega)
      rw [e3]
      generalize fsz nb = fz at *
      generalize ((s.headD 0).toNat : Int) = hx0 at *
      clear a1 HNO e3
      go_wp2
      refine bodyPost_ret_by (results_ct rfl _ _ w.heap.size 99 #[.int .u8 0, .int .u64 0, .int .u64 0, .slice none 0 0] (0, 0) _ rfl ?_ Try.underlying99 rfl (by kernel_rfl)) rfl ⟨rfl, ?_⟩
      · have := (((HZ2.out.set_ 0 (.int .u8 0)).set_ 1 (.int .u64 0)).set_ 2 (.int .u64 0)).set_ 3 (.slice none 0 0)
        exact this
      · exact ((((HB2.out.setCell (p := ⟨w.heap.size, 0, none⟩) (Nat.le_refl _) _).setCell (p := ⟨w.heap.size, 1, none⟩) (Nat.le_refl _) _).setCell (p := ⟨w.heap.size, 2, none⟩) (Nat.le_refl _) _).setCell (p := ⟨w.heap.size, 3, none⟩) (Nat.le_refl _) _)
  · have b1 : (((s.headD 0).toNat : Int) != 72) = true := by
      rw [bne_iff_ne]
      intro e
      exact a1 (UInt8.toNat_inj.1 (by show (s.headD 0).toNat = 72; omega))
    generalize fsize (nb : Int) = fz at *
    generalize ((s.headD 0).toNat : Int) = hx0 at *
    clear a1 HNO
    go_wp2
    refine bodyPost_ret_by (results_ct rfl _ _ w.heap.size 99 #[.int .u8 0, .int .u64 0, .int .u64 0, .slice none 0 0] (0, 0) _ rfl ?_ Try.underlying99 rfl (by kernel_rfl)) rfl ⟨rfl, ?_⟩
    · have := (((HZ2.out.set_ 0 (.int .u8 0)).set_ 1 (.int .u64 0)).set_ 2 (.int .u64 0)).set_ 3 (.slice none 0 0)
      exact this
    · exact ((((HB2.out.setCell (p := ⟨w.heap.size, 0, none⟩) (Nat.le_refl _) _).setCell (p := ⟨w.heap.size, 1, none⟩) (Nat.le_refl _) _).setCell (p := ⟨w.heap.size, 2, none⟩) (Nat.le_refl _) _).setCell (p := ⟨w.heap.size, 3, none⟩) (Nat.le_refl _) _)
end
end Go.Proofs.Ytlbikfamjogpnaa
end

/- Regions whose order is drawn, walked in one order: blocks that are made at whatever moment ('makers') are pending till all else waits for them; calls that write nothing old come one behind the other. Conditions: none. -/
section
namespace Go.Proofs.Ytlbikfamjogpnaa
open Go.RowKit
set_option linter.unusedVariables false

/-- A world to which things were added: nothing that was there has turned. -/
def Later (w W : World) : Prop := Below w.heap.size w W
theorem Later.refl (w : World) : Later w w := Below.refl _ _
theorem Later.trans {a b c : World} (h : Later a b) (k : Later b c) : Later a c := Below.trans h (Below.mono k h.size)
theorem Later.of {a b c : World} (h : Later a b) (k : Below b.heap.size b c) : Later a c := h.trans k
theorem Later.alloc {a b : World} (h : Later a b) (o : Obj) : Later a (b.alloc o) := Below.alloc h h.size o
/-- A condition that stands when things are added. -/
def Closed (S : World → Prop) : Prop := ∀ W W', S W → Below W.heap.size W W' → S W'
theorem closed_later (w : World) : Closed (Later w) := fun _ _ h k => h.trans k
theorem Closed.and {S T : World → Prop} (h : Closed S) (k : Closed T) : Closed (fun W => S W ∧ T W) := fun _ _ h1 b => ⟨h _ _ h1.1 b, k _ _ h1.2 b⟩
theorem Later.drew {a b : World} (h : Later a b) : Later a b.drew := Below.drew h

/-- Whatever order is picked from here on; S holds behind every operation till number j0 has come up. -/
def wpAnyJ (P : Program) (md : Region.Mode) (ops : Array Oper) (Q : Exit → Act → World → Prop) (j0 : Nat) (S : World → Prop) : Nat → Array Bool → Act → World → Prop
  | 0, listed, a, w => Region.ready md ops listed = [] ∧ Q .normal a w
  | fuel + 1, listed, a, w =>
    (Region.ready md ops listed = [] → Q .normal a w) ∧
    ∀ i ∈ Region.ready md ops listed, wpOp P ops Q i (fun a' w' => (i ≠ j0 → listed.getD j0 false = false → S w') ∧ wpAnyJ P md ops Q j0 S fuel (listed.setIfInBounds i true) a' w') a w

/-- What goes under a stronger condition goes under a weaker one. -/
theorem wpAnyJ_weak {P : Program} {md : Region.Mode} {ops : Array Oper} {Q : Exit → Act → World → Prop} {j0 : Nat} {S S' : World → Prop} (hs : ∀ w, S' w → S w) :
    ∀ (fuel : Nat) (listed : Array Bool) (a : Act) (w : World), wpAnyJ P md ops Q j0 S' fuel listed a w → wpAnyJ P md ops Q j0 S fuel listed a w
  | 0, _, _, _, h => h
  | fuel + 1, _, _, _, h => ⟨h.1, fun i hi => wpOp_mono (fun a' w' h' => ⟨fun h1 h2 => hs _ (h'.1 h1 h2), wpAnyJ_weak hs fuel _ a' w' h'.2⟩) (h.2 i hi)⟩

theorem wpAny_of_J {P : Program} {md : Region.Mode} {ops : Array Oper} {Q : Exit → Act → World → Prop} {j0 : Nat} {S : World → Prop} : ∀ (fuel : Nat) (listed : Array Bool) (a : Act) (w : World), wpAnyJ P md ops Q j0 S fuel listed a w → wpAny P md ops Q fuel listed a w
  | 0, _, _, _, h => h
  | fuel + 1, _, _, _, h => ⟨h.1, fun i hi => wpOp_mono (fun a' w' h' => wpAny_of_J fuel _ a' w' h'.2) (h.2 i hi)⟩

def waitsOn (md : Region.Mode) (ops : Array Oper) (j i : Nat) : Bool :=
  match ops[j]? with
  | some o => o.after.any fun e => Region.binds md e && e.on == i
  | none => false
def waitsT (md : Region.Mode) (ops : Array Oper) : Nat → Nat → Nat → Bool
  | 0, j, i => waitsOn md ops j i
  | n + 1, j, i => waitsOn md ops j i || match ops[j]? with
    | some o => o.after.any fun e => Region.binds md e && waitsT md ops n e.on i
    | none => false
/-- Number j0 waits for number i (or there is no number j0). -/
def waitsFor (md : Region.Mode) (ops : Array Oper) (j0 i : Nat) : Bool := decide (ops.size ≤ j0) || waitsT md ops 3 j0 i
/-- What is listed has all listed that it waits for. -/
def Down (md : Region.Mode) (ops : Array Oper) (l : Array Bool) : Prop := ∀ j o, ops[j]? = some o → l.getD j false = true → ∀ e ∈ o.after, Region.binds md e = true → l.getD e.on false = true
def downB (md : Region.Mode) (ops : Array Oper) (l : Array Bool) : Bool := (List.range ops.size).all fun j => !l.getD j false || match ops[j]? with
  | some o => o.after.all fun e => !Region.binds md e || l.getD e.on false
  | none => true
theorem downB_spec {md : Region.Mode} {ops : Array Oper} {l : Array Bool} (h : downB md ops l = true) : Down md ops l := fun j o ho hl e he hb => by
  have h1 := List.all_eq_true.1 h j (List.mem_range.2 (Array.getElem?_eq_some_iff.1 ho).1)
  rw [hl, ho] at h1
  simp only [Bool.not_true, Bool.false_or] at h1
  have h2 := Array.all_eq_true_iff_forall_mem.1 h1 e he
  simpa [hb] using h2
theorem Down.set {md : Region.Mode} {ops : Array Oper} {l : Array Bool} (h : Down md ops l) {i : Nat} (hi : i ∈ Region.ready md ops l) : Down md ops (l.setIfInBounds i true) := fun j o ho hl e he hb => by
  by_cases hij : i = j
  · subst hij
    obtain ⟨_, o', ho', hall⟩ := mem_ready.1 hi
    rw [ho] at ho'
    injection ho' with ho'
    subst ho'
    exact getD_set_true (hall e he hb)
  · rw [getD_set_ne false hij] at hl
    exact getD_set_true (h j o ho hl e he hb)
theorem waitsOn_down {md : Region.Mode} {ops : Array Oper} {l : Array Bool} {j i : Nat} (h : waitsOn md ops j i = true) (hp : ∀ o, ops[j]? = some o → ∀ e ∈ o.after, Region.binds md e = true → l.getD e.on false = true) : l.getD i false = true := by
  unfold waitsOn at h
  cases ho : ops[j]? with
  | none => simp [ho] at h
  | some o =>
    rw [ho] at h
    obtain ⟨e, he, hb⟩ := Array.any_eq_true'.1 h
    simp only [Bool.and_eq_true, beq_iff_eq] at hb
    have := hp o ho e he hb.1
    rw [hb.2] at this
    exact this
theorem waitsT_down {md : Region.Mode} {ops : Array Oper} {l : Array Bool} (hd : Down md ops l) : ∀ (n j i : Nat), waitsT md ops n j i = true → (∀ o, ops[j]? = some o → ∀ e ∈ o.after, Region.binds md e = true → l.getD e.on false = true) → l.getD i false = true
  | 0, _, _, h, hp => waitsOn_down h hp
  | n + 1, j, i, h, hp => by
    unfold waitsT at h
    rcases Bool.or_eq_true_iff.1 h with h | h
    · exact waitsOn_down h hp
    · cases ho : ops[j]? with
      | none => simp [ho] at h
      | some o =>
        rw [ho] at h
        obtain ⟨e, he, hb⟩ := Array.any_eq_true'.1 h
        simp only [Bool.and_eq_true] at hb
        exact waitsT_down hd n e.on i hb.2 fun o' ho' e' he' hb' => hd e.on o' ho' (hp o ho e he hb.1) e' he' hb'

/-- **An operation that may come up now may be taken first**: the kit's law, S asked till number j0 comes up, which waits for it. -/
theorem wpAnyJ_first {P : Program} {md : Region.Mode} {ops : Array Oper} {Q : Exit → Act → World → Prop} {j0 : Nat} {S : World → Prop} {i : Nat} {oi : Oper} {v : Value} (hi : ops[i]? = some oi) (hsel : ∀ (j : Nat) (o : Oper) cs b, ops[j]? = some o → o.op ≠ .select cs b)
    (hQ : ∀ c a w, Q (.panic c) (a.put oi.dst v) w → Q (.panic c) a w) (hw0 : waitsFor md ops j0 i = true) (hij : i ≠ j0) :
    ∀ (fuel : Nat) (listed : Array Bool) (a : Act) (w : World),
      (∀ j oj, ops[j]? = some oj → j ≠ i → listed.getD j true = false → (∀ e ∈ oj.after, Region.binds md e = true → e.on ≠ i) → oi.apart ops oj = true) →
      i ∈ Region.ready md ops listed → Down md ops listed → listed.getD j0 false = false → YieldsIf P ops S oi v a → S w →
      wpAnyJ P md ops Q j0 S fuel (listed.setIfInBounds i true) (a.put oi.dst v) w → wpAnyJ P md ops Q j0 S (fuel + 1) listed a w := by
  intro fuel
  induction fuel with
  | zero =>
    intro listed a w _ hr hdn hj0 hy hS H
    refine ⟨fun h => (by rw [h] at hr; cases hr), fun j hj => ?_⟩
    by_cases hji : j = i
    · subst hji; exact hy.wpOp hi hS ⟨fun _ _ => hS, H⟩
    · have := ready_mono hj hji
      rw [H.1] at this
      cases this
  | succ fuel ih =>
    intro listed a w hfree hr hdn hj0 hy hS H
    refine ⟨fun h => (by rw [h] at hr; cases hr), fun j hj => ?_⟩
    by_cases hji : j = i
    · subst hji; exact hy.wpOp hi hS ⟨fun _ _ => hS, H⟩
    · have h1 := H.2 j (ready_mono hj hji)
      obtain ⟨hjun, oj, hoj, hall⟩ := mem_ready.1 hj
      have hnl : listed.getD i false = false := by
        have h0 := (mem_ready.1 hr).1
        rcases Nat.lt_or_ge i listed.size with h' | h'
        · simp [h'] at h0 ⊢; exact h0
        · simp [Array.getElem?_eq_none h'] at h0
      have hnot : ∀ e ∈ oj.after, Region.binds md e = true → e.on ≠ i := fun e he hb heq => by
        have h1 := hall e he hb
        rw [heq, hnl] at h1
        cases h1
      have hjj : j ≠ j0 := fun e => by
        subst e
        rcases Bool.or_eq_true_iff.1 hw0 with h | h
        · have := (Array.getElem?_eq_some_iff.1 hoj).1
          simp at h
          omega
        · have := waitsT_down hdn 3 j i h fun o ho e he hb => by
            rw [hoj] at ho
            injection ho with ho
            subst ho
            exact hall e he hb
          rw [hnl] at this
          cases this
      have hj0' : (listed.setIfInBounds i true).getD j0 false = false := by rw [getD_set_ne false hij]; exact hj0
      have h2 := wpOp_putIf hoj (hfree j oj hoj hji hjun hnot) (fun cs b => hsel i oi cs b hi) (fun cs b => hsel j oj cs b hoj) hQ hy h1
      have hfree' : ∀ k ok, ops[k]? = some ok → k ≠ i → (listed.setIfInBounds j true).getD k true = false →
          (∀ e ∈ ok.after, Region.binds md e = true → e.on ≠ i) → oi.apart ops ok = true := fun k ok hk hki hun hno => by
        refine hfree k ok hk hki ?_ hno
        by_cases hjk : j = k
        · subst hjk; exact hjun
        · rw [getD_set_ne true hjk] at hun; exact hun
      refine wpOp_mono (fun a' w' h3 => ⟨fun _ _ => h3.2.1 hjj hj0', ih (listed.setIfInBounds j true) a' w' hfree' (ready_mono hr (Ne.symm hji)) (hdn.set hj) (by rw [getD_set_ne false hjj]; exact hj0) h3.1 (h3.2.1 hjj hj0') ?_⟩) h2
      rw [Array.setIfInBounds_comm _ _ hji]
      exact h3.2.2

theorem wpAnyJ_done {P : Program} {md : Region.Mode} {ops : Array Oper} {Q : Exit → Act → World → Prop} {j0 : Nat} {S : World → Prop} {listed : Array Bool} {a : Act} {w : World} (hr : Region.ready md ops listed = []) (h : Q .normal a w) :
    ∀ fuel, wpAnyJ P md ops Q j0 S fuel listed a w
  | 0 => ⟨hr, h⟩
  | _ + 1 => ⟨fun _ => h, by rw [hr]; simp⟩

/-- The one operation that may come up; behind it S, till number j0 has come up. -/
theorem wpAnyJ_one {P : Program} {md : Region.Mode} {ops : Array Oper} {Q : Exit → Act → World → Prop} {j0 : Nat} {S : World → Prop} {fuel : Nat} {listed : Array Bool} {a : Act} {w : World} {i : Nat} {o : Oper} (hr : Region.ready md ops listed = [i]) (ho : ops[i]? = some o)
    (h : ∀ K' : Act → World → Prop, Shut (∀ a w, (i ≠ j0 → listed.getD j0 false = false → S w) → wpAnyJ P md ops Q j0 S fuel (listed.setIfInBounds i true) a w → K' a w) → if Region.wanted o (yielded ops a.tmps) = true then Oper.wp P o a w K' Q else K' (a.put o.dst undef) w) :
    wpAnyJ P md ops Q j0 S (fuel + 1) listed a w := by
  refine ⟨fun h0 => (by rw [hr] at h0; cases h0), fun j hj => ?_⟩
  rw [hr] at hj
  obtain rfl : j = i := by simpa using hj
  exact wpOp_step ho fun K' hK => h K' fun a w h1 h2 => hK a w ⟨h1, h2⟩

/-- A copy (or whatever yields in every world), taken behind number j0 too. -/
theorem wpAnyJ_pure {P : Program} {md : Region.Mode} {ops : Array Oper} {Q : Exit → Act → World → Prop} {j0 : Nat} {S : World → Prop} {fuel : Nat} {listed : Array Bool} {a : Act} {w : World} {i : Nat} {o : Oper} {d : Option Tmp} {v : Value} (hr : Region.ready md ops listed = [i]) (ho : ops[i]? = some o) (hd : o.dst = d)
    (hy : Yields P ops o v a) (hS : i ≠ j0 → listed.getD j0 false = false → S w) (h : wpAnyJ P md ops Q j0 S fuel (listed.setIfInBounds i true) (a.put d v) w) : wpAnyJ P md ops Q j0 S (fuel + 1) listed a w := by
  subst hd
  refine ⟨fun h0 => (by rw [hr] at h0; cases h0), fun j hj => ?_⟩
  rw [hr] at hj
  obtain rfl : j = i := by simpa using hj
  exact hy.wpOp ho ⟨hS, h⟩

/-- A maker: its number, its slot, the block that it makes, its value (of the block's number). -/
structure Mk where
  i : Nat
  d : Tmp
  o : Obj
  v : Nat → Value

def Mk.Makes (P : Program) (ops : Array Oper) (a : Act) (m : Mk) : Prop :=
  ∃ om, ops[m.i]? = some om ∧ om.dst = some m.d ∧ Region.wanted om (yielded ops a.tmps) = true ∧ ∀ W, (execOp a.eval om).run P W = .ok (.value (m.v W.heap.size)) (W.alloc m.o)

def puts (a : Act) : List (Mk × Nat) → Act
  | [] => a
  | x :: X => (puts a X).put (some x.1.d) (x.1.v x.2)
def marks (l : Array Bool) : List Nat → Array Bool
  | [] => l
  | i :: is => (marks l is).setIfInBounds i true
def nums (X : List (Mk × Nat)) : List Nat := X.map fun x => x.1.i

/-- Two makers, or a maker and another operation: none looks at the other's slot. -/
def apartOf (ops : Array Oper) (m : Mk) (j : Nat) (oj : Oper) : Bool :=
  m.i != j && match ops[m.i]? with | some om => om.dst == some m.d && om.apart ops oj && oj.apart ops om | none => false
def pendOK (ops : Array Oper) : List Mk → Bool
  | [] => true
  | m :: ms => ms.all (fun x => match ops[x.i]? with | some ox => apartOf ops m x.i ox && ox.dst == some x.d | none => false) && pendOK ops ms

structure Lies (F : Nat → Prop) (W : World) (X : List (Mk × Nat)) : Prop where
  at_ : ∀ x ∈ X, W.heap[x.2]? = some x.1.o ∧ F x.2
  nd : (X.map Prod.snd).Nodup

theorem Lies.below {F : Nat → Prop} {W W' : World} {X : List (Mk × Nat)} (h : Lies F W X) (hb : Below W.heap.size W W') : Lies F W' X :=
  ⟨fun x hx => by
    obtain ⟨h1, h2⟩ := h.at_ x hx
    have hlt : x.2 < W.heap.size := (Array.getElem?_eq_some_iff.1 h1).1
    exact ⟨by rw [hb.block _ hlt]; exact h1, h2⟩, h.nd⟩

theorem Lies.kept {F F' : Nat → Prop} {W W' : World} {X : List (Mk × Nat)} (h : Lies F W X) (hb : ∀ r, F r → r < W.heap.size → W'.heap[r]? = W.heap[r]?) (hf : ∀ r, F r → r < W.heap.size → F' r) : Lies F' W' X :=
  ⟨fun x hx => by
    obtain ⟨h1, h2⟩ := h.at_ x hx
    have hl := (Array.getElem?_eq_some_iff.1 h1).1
    exact ⟨by rw [hb _ h2 hl]; exact h1, hf _ h2 hl⟩, h.nd⟩

theorem Lies.cons {F : Nat → Prop} {W : World} {X : List (Mk × Nat)} (h : Lies F W X) (hB : F W.heap.size) (m : Mk) : Lies F (W.alloc m.o) ((m, W.heap.size) :: X) := by
  have h' := h.below ((Below.refl W.heap.size W).alloc (Nat.le_refl _) m.o)
  refine ⟨fun x hx => ?_, ?_⟩
  · rcases List.mem_cons.1 hx with rfl | hx
    · exact ⟨by show (W.heap.push m.o)[W.heap.size]? = _; simp, hB⟩
    · exact h'.at_ x hx
  · rw [List.map_cons, List.nodup_cons]
    refine ⟨fun hm => ?_, h.nd⟩
    obtain ⟨y, hy, he⟩ := List.mem_map.1 hm
    have hlt : y.2 < W.heap.size := (Array.getElem?_eq_some_iff.1 (h.at_ y hy).1).1
    simp only at he
    omega

theorem marks_size (l : Array Bool) : ∀ is, (marks l is).size = l.size
  | [] => rfl
  | i :: is => by simp [marks, marks_size l is]

theorem getD_set' (l : Array Bool) (i j : Nat) (d : Bool) : (l.setIfInBounds i true).getD j d = if i = j ∧ j < l.size then true else l.getD j d := by
  by_cases h : i = j
  · subst h
    by_cases hl : i < l.size
    · simp [hl]
    · simp [hl, Array.setIfInBounds]
  · rw [getD_set_ne d h]
    simp [h]

theorem getD_marks (l : Array Bool) (j : Nat) (d : Bool) : ∀ is, (marks l is).getD j d = if j ∈ is ∧ j < l.size then true else l.getD j d
  | [] => by simp [marks]
  | i :: is => by
    rw [marks, getD_set', marks_size, getD_marks l j d is]
    by_cases h1 : i = j
    · subst h1
      by_cases hl : i < l.size <;> simp [hl]
    · by_cases h2 : j ∈ is <;> by_cases hl : j < l.size <;> simp [h1, h2, hl, Ne.symm h1]

section
variable {P : Program} {ops : Array Oper} {Q : Exit → Act → World → Prop} {md : Region.Mode} {j0 : Nat}

theorem ready_marks {l : Array Bool} {is js : List Nat} {k : Nat} (hsub : ∀ i ∈ is, i ∈ js) (hk : k ∉ js) (h : k ∈ Region.ready md ops (marks l is)) : k ∈ Region.ready md ops (marks l js) := by
  rw [mem_ready] at *
  obtain ⟨h0, o, ho, hall⟩ := h
  refine ⟨?_, o, ho, fun e he hb => ?_⟩
  · rw [getD_marks] at *
    rw [if_neg (fun h => hk h.1)]
    split at h0
    · cases h0
    · exact h0
  · have := hall e he hb
    rw [getD_marks] at *
    split at this
    · rename_i h1; rw [if_pos ⟨hsub _ h1.1, h1.2⟩]
    · split
      · rfl
      · exact this

theorem puts_put {dst : Option Tmp} {v : Value} {a : Act} : ∀ (X : List (Mk × Nat)), (∀ x ∈ X, dst ≠ some x.1.d) → puts (a.put dst v) X = (puts a X).put dst v
  | [], _ => rfl
  | x :: X, h => by
    rw [puts, puts, puts_put X (fun y hy => h y (List.mem_cons_of_mem _ hy)), Act.put_comm (puts a X) (x := dst) (y := some x.1.d)]
    intro d hd
    exact fun e => h x (List.mem_cons_self ..) (by rw [hd, e])

theorem marks_set {l : Array Bool} {i : Nat} : ∀ (is : List Nat), (∀ k ∈ is, k ≠ i) → marks (l.setIfInBounds i true) is = (marks l is).setIfInBounds i true
  | [], _ => rfl
  | k :: is, h => by
    rw [marks, marks, marks_set is (fun y hy => h y (List.mem_cons_of_mem _ hy)), Array.setIfInBounds_comm _ _ (h k (List.mem_cons_self ..)).symm]

/-- One operation, whether or not another's value lies already in its slot. -/
theorem wpOp_under {j : Nat} {oj : Oper} {d : Tmp} {v : Value} (hj : ops[j]? = some oj) (hlook : d ∉ oj.looksAt ops) (hdst : oj.dst ≠ some d)
    (hsj : ∀ cs b, oj.op ≠ .select cs b) (hQ : ∀ c a w, Q (.panic c) a w → Q (.panic c) (a.put (some d) v) w) {K : Act → World → Prop} {a : Act} {w : World}
    (h : wpOp P ops Q j K a w) : wpOp P ops Q j (fun a' w' => ∃ a0, a' = a0.put (some d) v ∧ K a0 w') (a.put (some d) v) w := by
  have hl : ∀ d', some d = some d' → d' ∉ oj.looksAt ops := fun d' h => by injection h with h; subst h; exact hlook
  have hc : ∀ (a : Act) u, (a.put (some d) v).put oj.dst u = (a.put oj.dst u).put (some d) v := fun a u => Act.put_comm a v u (fun d' h => by injection h with h; subst h; exact hdst)
  unfold wpOp at *
  simp only [hj] at *
  rw [wanted_put oj a (some d) v hl]
  split
  · rename_i hw
    simp only [hw, if_true] at h
    rcases h with h | ⟨hasks, hlets⟩
    case inr => exact .inr ⟨by unfold Oper.asks at *; rw [execOp_put oj hsj a (some d) v hl]; exact hasks, hlets⟩
    refine .inl ?_
    unfold Oper.wp at *
    rw [execOp_put oj hsj a (some d) v hl]
    generalize (execOp a.eval oj).run P w = r at *
    cases r with
    | ok n w' =>
      cases n <;> simp only [Oper.upon] at h ⊢
      case value u => exact ⟨_, hc a u, h⟩
      case skip => exact ⟨_, hc a undef, h⟩
      case defer dd => exact ⟨({ a with defers := dd :: a.defers } : Act).put oj.dst undef, by rw [Act.put_defers]; exact hc _ _, h⟩
      case enter f args =>
        refine Calls.mono h fun e w'' he => ?_
        cases e with
        | returned u => exact ⟨_, hc a u, he⟩
        | panicked c => exact hQ _ _ _ he
        | outgrown => exact he
      case row row args => exact Rows.mono h fun u w'' he => ⟨_, hc a u, he⟩
    | halt x w' =>
      cases x <;> simp only [Oper.upon] at h ⊢
      case panic u => exact hQ _ _ _ h
  · rename_i hw
    simp only [hw] at h
    exact ⟨_, hc a undef, h⟩

/-- What an operation leaves of the frame. -/
theorem wpOp_frame {j : Nat} {oj : Oper} (hj : ops[j]? = some oj) {K : Act → World → Prop} {a : Act} {w : World} (h : wpOp P ops Q j K a w) :
    wpOp P ops Q j (fun a' w' => K a' w' ∧ ∃ u ds, a' = ({ a with defers := ds } : Act).put oj.dst u) a w := by
  unfold wpOp at *
  simp only [hj] at *
  split
  · rename_i hw
    simp only [hw, if_true] at h
    rcases h with h | h
    case inr => exact .inr h
    refine .inl ?_
    unfold Oper.wp at *
    generalize (execOp a.eval oj).run P w = r at *
    cases r with
    | ok n w' =>
      cases n <;> simp only [Oper.upon] at h ⊢
      case value u => exact ⟨h, u, _, rfl⟩
      case skip => exact ⟨h, undef, _, rfl⟩
      case defer dd => exact ⟨h, undef, _, rfl⟩
      case enter f args =>
        refine Calls.mono h fun e w'' he => ?_
        cases e with
        | returned u => exact ⟨he, u, _, rfl⟩
        | panicked c => exact he
        | outgrown => exact he
      case row row args => exact Rows.mono h fun u w'' he => ⟨he, u, _, rfl⟩
    | halt x w' => cases x <;> simp only [Oper.upon] at h ⊢ <;> exact h
  · rename_i hw
    simp only [hw] at h
    exact ⟨h, undef, _, rfl⟩

theorem apartOf_spec {m : Mk} {j : Nat} {oj : Oper} (h : apartOf ops m j oj = true) : m.i ≠ j ∧ ∃ om, ops[m.i]? = some om ∧ om.dst = some m.d ∧ m.d ∉ oj.looksAt ops ∧ oj.dst ≠ some m.d ∧ ∀ d, oj.dst = some d → d ∉ om.looksAt ops := by
  unfold apartOf at h
  simp only [Bool.and_eq_true, bne_iff_ne] at h
  obtain ⟨h1, h2⟩ := h
  cases ho : ops[m.i]? with
  | none => simp [ho] at h2
  | some om =>
    simp only [ho, Bool.and_eq_true, beq_iff_eq] at h2
    obtain ⟨⟨hd, ha⟩, hb⟩ := h2
    obtain ⟨s1, s2, s3⟩ := Oper.apart_spec ha
    exact ⟨h1, om, rfl, hd, s1 _ hd, s2 _ hd, s3⟩

theorem Mk.Makes.put {m : Mk} {a : Act} {j : Nat} {oj : Oper} {u : Value} (hs : Region.noSelect ops = true) (h : m.Makes P ops a) (hap : apartOf ops m j oj = true) : m.Makes P ops (a.put oj.dst u) := by
  obtain ⟨om, ho, hd, hw, hr⟩ := h
  obtain ⟨_, om', ho', _, _, _, hl⟩ := apartOf_spec hap
  rw [ho] at ho'
  injection ho' with ho'
  subst ho'
  refine ⟨om, ho, hd, ?_, fun W => ?_⟩
  · rw [wanted_put om a oj.dst u hl]; exact hw
  · rw [execOp_put om (fun cs b => Region.noSelect_spec hs _ _ cs b ho) a oj.dst u hl]; exact hr W

theorem Mk.Makes.frame {m : Mk} {a : Act} {ds : List Deferred} (h : m.Makes P ops a) : m.Makes P ops { a with defers := ds } := h

/-- A walk from the worlds that meet T (which stands when things are added), whichever of the makers have come up; what is taken first leans on S alone. -/
def WalkS (P : Program) (md : Region.Mode) (ops : Array Oper) (Q : Exit → Act → World → Prop) (j0 : Nat) (F : Nat → Prop) (f : Nat) (pend : List Mk) (l : Array Bool) (a : Act) (S T : World → Prop) : Prop :=
  (∀ W, T W → F W.heap.size) → (∀ W, T W → S W) → Closed T → (∀ m ∈ pend, m.Makes P ops a) → ∀ (Y : List Mk) (X : List (Mk × Nat)) (W : World), (Y ++ X.map Prod.fst).Perm pend → T W → Lies F W X →
    wpAnyJ P md ops Q j0 S (f + Y.length) (marks l (nums X)) (puts a X) W

theorem walk_start {id : Nat} (j0 : Nat) {a : Act} {w : World} {S T : World → Prop} (hm : P.follows .mixedOrders = true) (F : Nat → Prop) (hB : ∀ W, T W → F W.heap.size) (hST : ∀ W, T W → S W) (hc : Closed T) (hT : T w.drew) (h : WalkS P .any ops Q j0 F ops.size [] (Array.replicate ops.size false) a S T) : (Code.region id ops true).wp P Q a w :=
  wp_region_any hm (wpAny_of_J (j0 := j0) (S := S) _ _ _ _ (
    h hB hST hc (fun _ h => (by cases h)) [] [] w.drew (List.Perm.refl _) hT ⟨(fun _ h => by cases h), List.nodup_nil⟩))

def freeOf (ops : Array Oper) (pend : List Mk) (j : Nat) (oj : Oper) : Bool := pend.all fun m => apartOf ops m j oj

theorem freeOf_spec {pend : List Mk} {j : Nat} {oj : Oper} (h : freeOf ops pend j oj = true) {X : List (Mk × Nat)} {Y : List Mk} (hY : (Y ++ X.map Prod.fst).Perm pend) : ∀ x ∈ X, apartOf ops x.1 j oj = true := fun x hx =>
  List.all_eq_true.1 h _ (hY.mem_iff.1 (List.mem_append_right _ (List.mem_map_of_mem (f := Prod.fst) hx)))

def takeOK (md : Region.Mode) (ops : Array Oper) (pend : List Mk) (j0 : Nat) (l : Array Bool) (i : Nat) (oi : Oper) : Bool :=
  Region.noSelect ops && Region.free md ops l i && (Region.ready md ops l).contains i && freeOf ops pend i oi && (waitsFor md ops j0 i && i != j0 && !l.getD j0 false && pend.all (fun m => m.i != j0 && (Region.ready md ops l).contains m.i) && downB md ops l)

theorem walk_take {F : Nat → Prop} {f : Nat} {pend : List Mk} {l : Array Bool} {a : Act} {S T : World → Prop} {i : Nat} {oi : Oper} {d : Option Tmp} {v : Value} (hi : ops[i]? = some oi) (hd : oi.dst = d)
    (hok : takeOK md ops pend j0 l i oi = true)
    (hQ : ∀ c a w, Q (.panic c) (a.put d v) w → Q (.panic c) a w) (hy : YieldsIf P ops S oi v a)
    (h : WalkS P md ops Q j0 F f pend (l.setIfInBounds i true) (a.put d v) S T) : WalkS P md ops Q j0 F (f + 1) pend l a S T := by
  subst hd
  have hok' := hok
  unfold takeOK at hok'
  rw [Bool.and_eq_true, Bool.and_eq_true, Bool.and_eq_true, Bool.and_eq_true] at hok'
  obtain ⟨⟨⟨⟨hs, hf⟩, hr⟩, hp⟩, hw0⟩ := hok'
  intro hB hST hc hM Y X W hY hl hX
  have hap := freeOf_spec hp hY
  have hne : ∀ k ∈ nums X, k ≠ i := fun k hk => by
    obtain ⟨x, hx, rfl⟩ := List.mem_map.1 hk
    exact (apartOf_spec (hap x hx)).1
  have hM' : ∀ m ∈ pend, m.Makes P ops (a.put oi.dst v) := fun m hm => (hM m hm).put hs (List.all_eq_true.1 hp m hm)
  have h' := h hB hST hc hM' Y X W hY hl hX
  rw [marks_set _ hne, puts_put X (fun x hx => (apartOf_spec (hap x hx)).2.choose_spec.2.2.2.1)] at h'
  rw [show f + 1 + Y.length = f + Y.length + 1 by omega]
  have hy' : ∀ X : List (Mk × Nat), (∀ x ∈ X, apartOf ops x.1 i oi = true) → YieldsIf P ops S oi v (puts a X) := by
    intro X
    induction X with
    | nil => exact fun _ => hy
    | cons x X ih =>
      intro hx
      obtain ⟨_, om, _, _, hlk, _, _⟩ := apartOf_spec (hx x (List.mem_cons_self ..))
      have hl2 : ∀ d', some x.1.d = some d' → d' ∉ oi.looksAt ops := fun d' h => by injection h with h; subst h; exact hlk
      exact (ih fun y hy => hx y (List.mem_cons_of_mem _ hy)).of_same (execOp_put oi (fun cs b => Region.noSelect_spec hs _ _ cs b hi) _ _ _ hl2) (wanted_put oi _ _ _ hl2)
  simp only [Bool.and_eq_true, bne_iff_ne, Bool.not_eq_true', List.all_eq_true] at hw0
  obtain ⟨⟨⟨⟨hwa, hwb⟩, hwc⟩, hwd⟩, hwe⟩ := hw0
  have hdn : ∀ X : List (Mk × Nat), (∀ x ∈ X, x.1 ∈ pend) → Down md ops (marks l (nums X)) := fun X hX j o ho hl e he hb => by
    rw [getD_marks] at hl ⊢
    have key : l.getD e.on false = true := by
      split at hl
      · rename_i h
        obtain ⟨x, hx, rfl⟩ := List.mem_map.1 h.1
        obtain ⟨_, o', ho', hall⟩ := mem_ready.1 (show x.1.i ∈ Region.ready md ops l by simpa using (hwd _ (hX x hx)).2)
        rw [ho] at ho'
        injection ho' with ho'
        subst ho'
        exact hall e he hb
      · exact downB_spec hwe j o ho hl e he hb
    split
    · rfl
    · exact key
  have hXp : ∀ x ∈ X, x.1 ∈ pend := fun x hx => hY.mem_iff.1 (List.mem_append_right _ (List.mem_map_of_mem (f := Prod.fst) hx))
  refine wpAnyJ_first hi (Region.noSelect_spec hs) hQ hwa hwb _ _ _ W (fun j oj hoj hji hun hno => Region.free_spec hi hf j oj hoj hji ?_ hno) ?_ (hdn X hXp) (by
    rw [getD_marks, if_neg (fun h => ?_)]
    · exact hwc
    · obtain ⟨x, hx, he⟩ := List.mem_map.1 h.1
      exact (hwd x.1 (hXp x hx)).1 he) (hy' X hap) (hST _ hl) h'
  · rw [getD_marks] at hun
    split at hun
    · cases hun
    · exact hun
  · have : i ∈ Region.ready md ops (marks l []) := by simpa [marks] using hr
    exact ready_marks (fun _ h => by cases h) (fun hk => hne i hk rfl) this

theorem makes_run {a : Act} {y : Mk} (hs : Region.noSelect ops = true) (hM : y.Makes P ops a) : ∀ X : List (Mk × Nat), (∀ x ∈ X, ∃ oy, ops[y.i]? = some oy ∧ apartOf ops x.1 y.i oy = true) → y.Makes P ops (puts a X)
  | [], _ => hM
  | x :: X, h => by
    obtain ⟨om, ho, hd, hw, hr⟩ := makes_run  hs hM X fun z hz => h z (List.mem_cons_of_mem _ hz)
    obtain ⟨oy, hoy, hap⟩ := h x (List.mem_cons_self ..)
    rw [ho] at hoy
    injection hoy with hoy
    subst hoy
    obtain ⟨_, _, _, _, hlk, _, _⟩ := apartOf_spec hap
    have hl2 : ∀ d', some x.1.d = some d' → d' ∉ om.looksAt ops := fun d' h => by injection h with h; subst h; exact hlk
    exact ⟨om, ho, hd, by rw [puts, wanted_put om _ _ _ hl2]; exact hw, fun W => by rw [puts, execOp_put om (fun cs b => Region.noSelect_spec hs _ _ cs b ho) _ _ _ hl2]; exact hr W⟩

theorem pendOK_pair {x y : Mk} : ∀ {pend : List Mk}, pendOK ops pend = true → x ∈ pend → y ∈ pend → x.i ≠ y.i → ∃ oy, ops[y.i]? = some oy ∧ apartOf ops x y.i oy = true
  | [], _, hx, _, _ => by cases hx
  | m :: ms, h, hx, hy, hne => by
    simp only [pendOK, Bool.and_eq_true, List.all_eq_true] at h
    obtain ⟨h1, h2⟩ := h
    rcases List.mem_cons.1 hx with rfl | hx'
    · rcases List.mem_cons.1 hy with rfl | hy'
      · exact absurd rfl hne
      · have := h1 y hy'
        cases ho : ops[y.i]? with
        | none => simp [ho] at this
        | some oy => simp only [ho, Bool.and_eq_true] at this; exact ⟨oy, rfl, this.1⟩
    · rcases List.mem_cons.1 hy with rfl | hy'
      · have := h1 x hx'
        cases ho : ops[x.i]? with
        | none => simp [ho] at this
        | some ox =>
          simp only [ho, Bool.and_eq_true, beq_iff_eq] at this
          obtain ⟨ha, hd⟩ := this
          unfold apartOf at ha
          cases hoy : ops[y.i]? with
          | none => simp [hoy] at ha
          | some oy =>
            simp only [hoy, Bool.and_eq_true, bne_iff_ne, beq_iff_eq] at ha
            refine ⟨oy, rfl, ?_⟩
            unfold apartOf
            simp only [ho, Bool.and_eq_true, bne_iff_ne, beq_iff_eq]
            exact ⟨hne, ⟨hd, ha.2.2⟩, ha.2.1.2⟩
      · exact pendOK_pair h2 hx' hy' hne

theorem pendOK_inj {x y : Mk} : ∀ {pend : List Mk}, pendOK ops pend = true → x ∈ pend → y ∈ pend → x.i = y.i → x = y
  | [], _, hx, _, _ => by cases hx
  | m :: ms, h, hx, hy, he => by
    simp only [pendOK, Bool.and_eq_true, List.all_eq_true] at h
    obtain ⟨h1, h2⟩ := h
    have far : ∀ z ∈ ms, m.i ≠ z.i := fun z hz => by
      have := h1 z hz
      cases ho : ops[z.i]? with
      | none => simp [ho] at this
      | some oz => simp only [ho, Bool.and_eq_true] at this; exact (apartOf_spec this.1).1
    rcases List.mem_cons.1 hx with rfl | hx'
    · rcases List.mem_cons.1 hy with rfl | hy'
      · rfl
      · exact absurd he (far y hy')
    · rcases List.mem_cons.1 hy with rfl | hy'
      · exact absurd he.symm (far x hx')
      · exact pendOK_inj h2 hx' hy' he

theorem pendOK_nodup : ∀ {pend : List Mk}, pendOK ops pend = true → pend.Nodup
  | [], _ => List.nodup_nil
  | m :: ms, h => by
    simp only [pendOK, Bool.and_eq_true, List.all_eq_true] at h
    refine List.nodup_cons.2 ⟨fun hm => ?_, pendOK_nodup h.2⟩
    have := h.1 m hm
    cases ho : ops[m.i]? with
    | none => simp [ho] at this
    | some om => simp only [ho, Bool.and_eq_true] at this; exact (apartOf_spec this.1).1 rfl

/-- A maker that comes up. -/
theorem wpOp_maker {pend : List Mk} {a : Act} {W : World} {Y : List Mk} {X : List (Mk × Nat)} {K : Act → World → Prop} (hs : Region.noSelect ops = true) (hp : pendOK ops pend = true)
    (hM : ∀ m ∈ pend, m.Makes P ops a) (hY : (Y ++ X.map Prod.fst).Perm pend) {y : Mk} (hy : y ∈ Y)
    (h : K (puts a ((y, W.heap.size) :: X)) (W.alloc y.o)) : wpOp P ops Q y.i K (puts a X) W := by
  have hyp : y ∈ pend := hY.mem_iff.1 (List.mem_append_left _ hy)
  have hnd : (Y ++ X.map Prod.fst).Nodup := hY.nodup_iff.2 (pendOK_nodup hp)
  have hmk := makes_run  hs (hM y hyp) X fun x hx => by
    have hxp : x.1 ∈ pend := hY.mem_iff.1 (List.mem_append_right _ (List.mem_map_of_mem (f := Prod.fst) hx))
    refine pendOK_pair hp hxp hyp fun e => ?_
    have := pendOK_inj hp hxp hyp e
    exact (List.nodup_append.1 hnd).2.2 y hy x.1 (List.mem_map_of_mem (f := Prod.fst) hx) this.symm
  obtain ⟨om, ho, hd, hw, hr⟩ := hmk
  unfold wpOp
  simp only [ho, hw, if_true, Oper.wp, hr W, Oper.upon]
  refine .inl ?_
  rw [hd]
  exact h

theorem perm_move {Y : List Mk} {X : List (Mk × Nat)} {pend : List Mk} {y : Mk} (hY : (Y ++ X.map Prod.fst).Perm pend) {Y1 Y2 : List Mk} (e : Y = Y1 ++ y :: Y2) (n : Nat) :
    ((Y1 ++ Y2) ++ (((y, n) :: X).map Prod.fst)).Perm pend := by
  subst e
  refine List.Perm.trans ?_ hY
  simp only [List.map_cons, List.append_assoc, List.cons_append]
  refine List.Perm.append_left Y1 ?_
  exact List.perm_middle

def coreOK (md : Region.Mode) (ops : Array Oper) (pend : List Mk) (l : Array Bool) (j : Nat) (oj : Oper) : Bool :=
  Region.noSelect ops && pendOK ops pend && (Region.ready md ops l).contains j && (Region.ready md ops (marks l (pend.map Mk.i)) == [j]) && freeOf ops pend j oj

/-- The one operation that may come up beside the makers. -/
theorem walk_core {F : Nat → Prop} {f : Nat} {pend : List Mk} {l : Array Bool} {a : Act} {S T : World → Prop} (j : Nat) {oj : Oper} (hj : ops[j]? = some oj) (hok : coreOK md ops pend l j oj = true)
    (hQ : ∀ c a w d v, Q (.panic c) a w → Q (.panic c) (a.put (some d) v) w)
    (h : ∀ W, T W → ∀ K' : Act → World → Prop, Shut (∀ a' W' S' T' F', (∀ r, F r → r < W.heap.size → W'.heap[r]? = W.heap[r]?) → (∀ r, F r → r < W.heap.size → F' r) → (∀ V, S' V → S V) → (∀ V, T' V → S' V) → (∀ V, T' V → F' V.heap.size) → T' W' → Closed T' → WalkS P md ops Q j0 F' f pend (l.setIfInBounds j true) a' S' T' → K' a' W') →
      if Region.wanted oj (yielded ops a.tmps) = true then Oper.wp P oj a W K' Q else K' (a.put oj.dst undef) W) : WalkS P md ops Q j0 F (f + 1) pend l a S T := by
  have hok' := hok
  unfold coreOK at hok'
  rw [Bool.and_eq_true, Bool.and_eq_true, Bool.and_eq_true, Bool.and_eq_true] at hok'
  obtain ⟨⟨⟨⟨hs, hp⟩, hr⟩, hr2⟩, hf⟩ := hok'
  rw [beq_iff_eq] at hr2
  intro hB hST hc hM
  suffices H : ∀ n (Y : List Mk) (X : List (Mk × Nat)) (W : World), Y.length = n → (Y ++ X.map Prod.fst).Perm pend → T W → Lies F W X →
      wpAnyJ P md ops Q j0 S (f + 1 + Y.length) (marks l (nums X)) (puts a X) W from fun Y X W => H _ Y X W rfl
  intro n
  induction n with
  | zero =>
    intro Y X W hn hY hl hX
    cases Y with
    | cons _ _ => cases hn
    | nil => exact core [] X W hs hp hr hr2 hf hB hST hc hM hY hl hX fun y hy => by cases hy
  | succ n ih =>
    intro Y X W hn hY hl hX
    refine core Y X W hs hp hr hr2 hf hB hST hc hM hY hl hX fun y hy => ?_
    obtain ⟨Y1, Y2, rfl⟩ := List.append_of_mem hy
    have hlen : (Y1 ++ Y2).length = n := by simp at hn ⊢; omega
    have := ih (Y1 ++ Y2) ((y, W.heap.size) :: X) (W.alloc y.o) hlen (perm_move hY rfl _) (hc _ _ hl ((Below.refl _ _).alloc (Nat.le_refl _) _)) (hX.cons (hB _ hl) y)
    rw [show f + (Y1 ++ y :: Y2).length = f + 1 + (Y1 ++ Y2).length by simp; omega]
    exact this
where
  core (Y : List Mk) (X : List (Mk × Nat)) (W : World) (hs : Region.noSelect ops = true) (hp : pendOK ops pend = true) (hr : (Region.ready md ops l).contains j = true) (hr2 : Region.ready md ops (marks l (pend.map Mk.i)) = [j]) (hf : freeOf ops pend j oj = true) (hB : ∀ W, T W → F W.heap.size) (hST : ∀ W, T W → S W) (hc : Closed T) (hM : ∀ m ∈ pend, m.Makes P ops a) (hY : (Y ++ X.map Prod.fst).Perm pend) (hl : T W) (hX : Lies F W X)
      (hmk : ∀ y ∈ Y, wpAnyJ P md ops Q j0 S (f + Y.length) (marks l (nums ((y, W.heap.size) :: X))) (puts a ((y, W.heap.size) :: X)) (W.alloc y.o)) :
      wpAnyJ P md ops Q j0 S (f + 1 + Y.length) (marks l (nums X)) (puts a X) W := by
    have hap := freeOf_spec hf hY
    have hnX : ∀ k ∈ nums X, k ≠ j := fun k hk => by
      obtain ⟨x, hx, rfl⟩ := List.mem_map.1 hk
      exact (apartOf_spec (hap x hx)).1
    have hjr : j ∈ Region.ready md ops (marks l (nums X)) := by
      have : j ∈ Region.ready md ops (marks l []) := by simpa [marks] using hr
      exact ready_marks (fun _ h => by cases h) (fun hk => hnX j hk rfl) this
    rw [show f + 1 + Y.length = f + Y.length + 1 by omega]
    refine ⟨fun h0 => (by rw [h0] at hjr; cases hjr), fun k hk => ?_⟩
    by_cases hkj : k = j
    · subst hkj
      have h1 : wpOp P ops Q k (fun a' W' => ∃ S' T' F', (∀ r, F r → r < W.heap.size → W'.heap[r]? = W.heap[r]?) ∧ (∀ r, F r → r < W.heap.size → F' r) ∧ (∀ V, S' V → S V) ∧ (∀ V, T' V → S' V) ∧ (∀ V, T' V → F' V.heap.size) ∧ T' W' ∧ Closed T' ∧ WalkS P md ops Q j0 F' f pend (l.setIfInBounds k true) a' S' T') a W :=
        wpOp_step hj (fun K' hK => h W hl K' (fun a' W' S' T' F' hb h0 h1 h2 h3 h4 h5 hw => hK a' W' ⟨S', T', F', hb, h0, h1, h2, h3, h4, h5, hw⟩))
      have h2 := wpOp_frame hj h1
      have h3 : ∀ X : List (Mk × Nat), (∀ x ∈ X, apartOf ops x.1 k oj = true) → wpOp P ops Q k (fun a' W' => ∃ a0, a' = puts a0 X ∧ ((∃ S' T' F', (∀ r, F r → r < W.heap.size → W'.heap[r]? = W.heap[r]?) ∧ (∀ r, F r → r < W.heap.size → F' r) ∧ (∀ V, S' V → S V) ∧ (∀ V, T' V → S' V) ∧ (∀ V, T' V → F' V.heap.size) ∧ T' W' ∧ Closed T' ∧ WalkS P md ops Q j0 F' f pend (l.setIfInBounds k true) a0 S' T') ∧ ∃ u ds, a0 = ({ a with defers := ds } : Act).put oj.dst u)) (puts a X) W := by
        intro X
        induction X with
        | nil => exact fun _ => wpOp_mono (fun a' W' h => ⟨a', rfl, h⟩) h2
        | cons x X ih =>
          intro hx
          obtain ⟨_, om, _, _, hlk, hds, _⟩ := apartOf_spec (hx x (List.mem_cons_self ..))
          refine wpOp_mono ?_ (wpOp_under hj hlk hds (fun cs b => Region.noSelect_spec hs _ _ cs b hj) (fun c a w => hQ c a w _ _) (ih fun y hy => hx y (List.mem_cons_of_mem _ hy)))
          rintro a' W' ⟨a0, rfl, a1, rfl, h⟩
          exact ⟨a1, rfl, h⟩
      refine wpOp_mono ?_ (h3 X hap)
      rintro a' W' ⟨a0, rfl, ⟨S', T', F', hb, h0, h1, h2, h3, h4, h5, hw⟩, u, ds, rfl⟩
      refine ⟨fun _ _ => h1 _ (h2 _ h4), ?_⟩
      have := hw h3 h2 h5 (fun m hm => ((hM m hm).frame (ds := ds)).put hs (List.all_eq_true.1 hf m hm)) Y X W' hY h4 (hX.kept hb h0)
      rw [marks_set _ hnX] at this
      exact wpAnyJ_weak h1 _ _ _ _ this
    · have hkY : k ∈ Y.map Mk.i := by
        refine Classical.byContradiction fun hno => ?_
        have hkp : k ∉ pend.map Mk.i := fun hm => by
          obtain ⟨m, hm', rfl⟩ := List.mem_map.1 hm
          rcases List.mem_append.1 (hY.mem_iff.2 hm') with h | h
          · exact hno (List.mem_map_of_mem (f := Mk.i) h)
          · obtain ⟨x, hx, rfl⟩ := List.mem_map.1 h
            have := (mem_ready.1 hk).1
            rw [getD_marks] at this
            have hin : x.1.i ∈ nums X := List.mem_map_of_mem (f := fun x : Mk × Nat => x.1.i) hx
            by_cases hsz : x.1.i < l.size
            · rw [if_pos ⟨hin, hsz⟩] at this; cases this
            · rw [if_neg (fun h => hsz h.2)] at this; simp [Array.getElem?_eq_none (Nat.le_of_not_lt hsz)] at this
        have : k ∈ Region.ready md ops (marks l (pend.map Mk.i)) := ready_marks (fun i hi => by
          obtain ⟨x, hx, rfl⟩ := List.mem_map.1 hi
          exact List.mem_map_of_mem (f := Mk.i) (hY.mem_iff.1 (List.mem_append_right _ (List.mem_map_of_mem (f := Prod.fst) hx)))) hkp hk
        rw [hr2] at this
        simp at this
        exact hkj this
      obtain ⟨y, hy, rfl⟩ := List.mem_map.1 hkY
      refine wpOp_maker  hs hp hM hY hy ⟨fun _ _ => hST _ (hc _ _ hl ((Below.refl _ _).alloc (Nat.le_refl _) _)), ?_⟩
      exact hmk y hy

/-- No maker is pending: on with the kit's moves. -/
theorem walk_exit {F : Nat → Prop} {f : Nat} {l : Array Bool} {a : Act} {S T : World → Prop} (h : ∀ W, T W → wpAnyJ P md ops Q j0 S f l a W) : WalkS P md ops Q j0 F f [] l a S T := by
  intro _ _ _ _ Y X W hY hl _
  have := hY.length_eq
  simp at this
  obtain ⟨rfl, rfl⟩ := this
  exact h W hl

/-- The same, short: what is taken answers v; or its guard is not met. -/
theorem wt {F : Nat → Prop} {f : Nat} {pend : List Mk} {l : Array Bool} {a : Act} {S T : World → Prop} {oi : Oper} (i : Nat) (d : Tmp) (v : Value) (hr : ∀ V, S V → (execOp a.eval oi).run P V = .ok (.value v) V) (h : WalkS P md ops Q j0 F f pend (l.setIfInBounds i true) (a.put (some d) v) S T)
    (hi : ops[i]? = some oi := by rfl) (hd : oi.dst = some d := by rfl) (hok : takeOK md ops pend j0 l i oi = true := by kernel_rfl) (hQ : ∀ c a w, Q (.panic c) (a.put (some d) v) w → Q (.panic c) a w := by exact fun _ _ _ h => h) (hw : Region.wanted oi (yielded ops a.tmps) = true := by rfl) : WalkS P md ops Q j0 F (f + 1) pend l a S T :=
  walk_take hi hd hok hQ (.inl ⟨hw, hr⟩) h
theorem ws {F : Nat → Prop} {f : Nat} {pend : List Mk} {l : Array Bool} {a : Act} {S T : World → Prop} {oi : Oper} (i : Nat) (d : Tmp) (h : WalkS P md ops Q j0 F f pend (l.setIfInBounds i true) (a.put (some d) undef) S T)
    (hi : ops[i]? = some oi := by rfl) (hd : oi.dst = some d := by rfl) (hok : takeOK md ops pend j0 l i oi = true := by kernel_rfl) (hQ : ∀ c a w, Q (.panic c) (a.put (some d) undef) w → Q (.panic c) a w := by exact fun _ _ _ h => h) (hw : Region.wanted oi (yielded ops a.tmps) = false := by rfl) : WalkS P md ops Q j0 F (f + 1) pend l a S T :=
  walk_take hi hd hok hQ (.inr ⟨hw, rfl⟩) h
theorem pa (t : List Value) (D : List Deferred) (d : Tmp) (v : Value) : Act.put ⟨t.toArray, D⟩ (some d) v = ⟨(t.set d v).toArray, D⟩ := by simp [Act.put]
end
end Go.Proofs.Ytlbikfamjogpnaa
end

/- frame's read of a disk that is on, where a frame's head stands. Conditions: an area and its disk lie in memory; the area lies on the disk. -/
section
namespace Go.Proofs.Ytlbikfamjogpnaa
open Go.RowKit

/-- What stands behind a head. -/
def standing (S : List (List UInt8)) (h : List UInt8) (at0 : Nat) : Option Fr :=
  match rest S (at0 + 1) (fsz (upB ((h.drop 14).take 2)) - 1) with
  | none => none
  | some r =>
    if sumOf (h.take 16 ++ (h.drop 20 ++ r).take (upB ((h.drop 14).take 2))) = upB ((h.drop 16).take 4) then
      some ⟨h.getD 1 0, upB ((h.drop 2).take 8), upB ((h.drop 10).take 4), (h.drop 20 ++ r).take (upB ((h.drop 14).take 2))⟩ else none

theorem frameAt_eq {S : List (List UInt8)} {s : List UInt8} {first sectors k : Nat} (hk : k < sectors) (hs : S[first + k]? = some s) (h72 : s.headD 0 = 72) (hlen : upB ((s.drop 14).take 2) ≤ 1000)
    (hroom : fsz (upB ((s.drop 14).take 2)) ≤ sectors - k) : frameAt S first sectors k = standing S s (first + k) := by
  have e : S.getD (first + k) [] = s := by rw [List.getD_eq_getElem?_getD, hs]; rfl
  unfold frameAt standing
  simp only [e]
  rw [if_neg (by omega), if_neg (by
    rintro (h | h | h)
    · exact h h72
    · omega
    · omega)]
  all_goals rfl

theorem rest_step {S : List (List UInt8)} {t : List UInt8} {i m : Nat} (ht : S[i]? = some t) (h : t.headD 0 = 67) : rest S i (m + 1) = (rest S (i + 1) m).map (t.drop 1 ++ ·) := by
  have e : S.getD i [] = t := by rw [List.getD_eq_getElem?_getD, ht]; rfl
  rw [rest, e, if_pos h]
theorem rest_stop {S : List (List UInt8)} {t : List UInt8} {i m : Nat} (ht : S[i]? = some t) (h : ¬ t.headD 0 = 67) : rest S i (m + 1) = none := by
  have e : S.getD i [] = t := by rw [List.getD_eq_getElem?_getD, ht]; rfl
  rw [rest, e, if_neg h]

/-- What read answers: the frame that stands there, its payload in memory that is new; else nothing. -/
def Stands (w : World) (f : Option Fr) (e : Ending) (w' : World) : Prop :=
  (f = none ∧ e = .returned (.tuple #[.agg #[.int .u8 0, .int .u64 0, .int .u64 0, .slice none 0 0], .int .i64 5]) ∧ Below w.heap.size w w') ∨
  ∃ x g c, f = some x ∧ e = .returned (.tuple #[.agg #[.int .u8 (x.kind.toNat : Int), .int .u64 (x.life : Int), .int .u64 (x.n : Int), .slice (some ⟨g, 0, none⟩) x.b.length c], .int .i64 0]) ∧
    w.heap.size ≤ g ∧ Bts w' (some ⟨g, 0, none⟩) x.b.length c x.b ∧ Below w.heap.size w w'

section
variable {w : World} {B p b a : Nat} {A : Ar}
set_option maxRecDepth 100000 in
set_option maxHeartbeats 4000000 in
theorem read_body (d : Dk) (k : Nat) (s : List UInt8) (h : AreaAt w B p b A) (hd : DiskAt w b a d) (hk : k < A.sectors) (hfit : A.first + A.sectors ≤ d.S.length) (hoff : d.off = false) (hs : d.S[A.first + k]? = some s)
    (h72 : s.headD 0 = 72) (hlen : upB ((s.drop 14).take 2) ≤ 1000) (hroom : fsz (upB ((s.drop 14).take 2)) ≤ A.sectors - k) :
    Calls Try.prog 57 #[.pointer (some ⟨p, 0, none⟩), .int .i64 (k : Int)] w (Stands w (frameAt d.S A.first A.sectors k)) := by
  obtain ⟨_, At, c, hb, _⟩ := h
  have hp := hb.lt
  have hl : d.S.length ≤ 4096 := by obtain ⟨_, _, _, _, _, _, _, _, h, _⟩ := hd; exact h
  have h64 : s.length = 64 := by
    obtain ⟨_, _, _, _, _, _, _, _, _, _, _, h⟩ := hd
    obtain ⟨v, _, hv⟩ := h _ _ hs
    exact hv.1
  have t1 : decide ((A.sectors : Int) ≤ (k : Int)) = false := decide_eq_false (by omega)
  have ew : IntKind.i64.wrap ((A.first : Int) + (k : Int)) = (A.first : Int) + (k : Int) := IntWalk.i64_in _ (by omega)
  obtain ⟨W0, hW0⟩ : ∃ W0, W0 = w.alloc (.cells #[.int .u8 0, .int .u64 0, .int .u64 0, .slice none 0 0] 99) := ⟨_, rfl⟩
  have hb0 : Below w.heap.size w W0 := by rw [hW0]; exact (Below.refl _ _).alloc (Nat.le_refl _) _
  have hsz0 : W0.heap.size = w.heap.size + 1 := by rw [hW0]; simp
  have hz : Blk W0 w.heap.size 99 #[.int .u8 0, .int .u64 0, .int .u64 0, .slice none 0 0] := by rw [hW0]; exact Blk.new _ _ _
  have SF : Hid (∀ w', Below w.heap.size w w' → w'.cell? ⟨p, 0, none⟩ = some (.pointer (some ⟨b, 0, none⟩)) ∧ w'.cell? ⟨p, 2, none⟩ = some (.int .i64 A.first)) := Lib.hid fun w' h => by
    obtain ⟨c0, -, c2, -, -, -, -⟩ := area_cells (hb.below h hp)
    exact ⟨c0, c2⟩
  have CR := read_ok d (A.first + k) s (show DiskAt W0.drew b a d from hd.below hb0.drew) hs hoff
  rw [Int.natCast_add] at CR
  have HC := Lib.hid CR
  have HB0 := Lib.hid hb0
  have HZ := Lib.hid hz
  have HW0 := Lib.hid hW0
  have hfr : frameAt d.S A.first A.sectors k = standing d.S s (A.first + k) := frameAt_eq hk hs h72 hlen hroom
  rw [hfr]
  obtain ⟨F, hF⟩ : ∃ F, F = standing d.S s (A.first + k) := ⟨_, rfl⟩
  rw [← hF]
  have HF := Lib.hid hF
  clear hF
  have HSS : Hid (∀ j, j < fsz (upB ((s.drop 14).take 2)) → ∃ t, d.S[A.first + k + j]? = some t ∧ t.length = 64) := Lib.hid fun j hj => by
    have hlt : A.first + k + j < d.S.length := by omega
    obtain ⟨_, _, _, _, _, _, _, _, _, _, _, h⟩ := hd
    obtain ⟨v, _, hv⟩ := h _ _ (List.getElem?_eq_getElem hlt)
    exact ⟨_, List.getElem?_eq_getElem hlt, hv.1⟩
  have HD := Lib.hid hd
  have SF2 := SF
  have RO : Hid (∀ w' j t, Below w.heap.size w w' → d.S[A.first + k + j]? = some t → Calls Try.prog 92 #[.pointer (some ⟨b, 0, none⟩), .int .i64 ((A.first : Int) + (k : Int) + (j : Int))] w' (Got w' t)) := Lib.hid fun w' j t hb hj => by
    have := read_ok d (A.first + k + j) t (HD.out.below hb) hj hoff
    rw [Int.natCast_add, Int.natCast_add] at this
    exact this
  have HROOM := Lib.hid hroom
  have HFIT := Lib.hid hfit
  have AC : Hid (∀ w', Below w.heap.size w w' → w'.cell? ⟨p, 3, none⟩ = some (.int .i64 A.sectors)) := Lib.hid fun w' h => by
    obtain ⟨-, -, -, c3, -, -, -⟩ := area_cells (hb.below h hp)
    exact c3
  obtain ⟨-, -, -, c3, -, -, -⟩ := area_cells hb
  have hsl : Hid (d.S.length ≤ 4096) := Lib.hid hl
  clear hb hd hW0 hb0 hz CR hs hroom hfit hfr
  go_enter Try.func57, Try.ntmps57
  go_wp2_with fail
  rw [← HW0.out]
  go_region_held3 (fun w' => w'.cell? ⟨p, 0, none⟩ = some (.pointer (some ⟨b, 0, none⟩)) ∧ w'.cell? ⟨p, 2, none⟩ = some (.int .i64 A.first))
    (first | exact SF.out _ HB0.out.drew | exact SF.out _ hB2)
    (first | (go_simp; go_at_call 92; go_must (refine HC.out.mono ?_); rintro e w2 ⟨g, c2, rfl, hown, hbel⟩
              have hB2 : Below w.heap.size w w2 := HB0.out.drew.trans (hbel.mono (by show w.heap.size ≤ W0.heap.size; omega))))
  have hbt := own_cut hown (i := 14) (j := 16) (by omega) (by omega)
  have hc64 := (own_bts hown).2.2.1
  have hb20 := own_cut hown (i := 20) (j := 64) (by omega) (by omega)
  have HOWN := Lib.hid hown
  have CN := Lib.hid (number_any hbt (by omega))
  have hu := upB_two s
  have hhead : w2.cell? ⟨g, 0, none⟩ = some (.int .u8 ((s.headD 0).toNat : Int)) := by
    rw [hown.cellAt 0 (by omega), List.getElem?_map]
    rcases s with _ | ⟨x, s⟩
    · simp at h64
    · rfl
  have c32 := AC.out w2 hB2
  have HZ2 : Hid (Blk w2 w.heap.size 99 #[.int .u8 0, .int .u64 0, .int .u64 0, .slice none 0 0]) := Lib.hid (HZ.out.drew.below hbel (by show w.heap.size < W0.heap.size; omega))
  have HB2 := Lib.hid hB2
  generalize hn : upB ((s.drop 14).take (16 - 14)) = nb at CN
  have hn2 : upB ((s.drop 14).take 2) = nb := hn
  rw [hn2] at hu hlen HROOM HSS
  have HNB := Lib.hid hn2
  clear hown hbel hbt hB2 hn hn2 HC SF AC c3
  have ei : IntKind.i64.wrap (nb : Int) = (nb : Int) := IntWalk.i64_in _ (by omega)
  have CZ := Lib.hid (size_any w2 (nb : Int) (by omega) (by omega))
  have z0 := (HZ2.out.cell 0).trans rfl
  have z1 := (HZ2.out.cell 1).trans rfl
  have z2 := (HZ2.out.cell 2).trans rfl
  have z3 := (HZ2.out.cell 3).trans rfl
  have f0 := HZ2.out.frozen 0
  have f1 := HZ2.out.frozen 1
  have f2 := HZ2.out.frozen 2
  have f3 := HZ2.out.frozen 3
  go_wp2_with fail
  refine CN.out.mono ?_
  rintro e w3 ⟨rfl, rfl⟩
  go_wp2_with fail
  refine CZ.out.mono ?_
  rintro e w3 ⟨rfl, rfl⟩
  have hx := (s.headD 0).toNat_lt
  clear CN CZ
  have e3 : fsize (nb : Int) = (fsz nb : Int) := fsize_nat (by omega)
  have hp1 := fsz_pos nb
  have hle := fsz_le (n := nb) (by omega)
  have b1 : (((s.headD 0).toNat : Int) != 72) = false := by rw [h72]; rfl
  have b2 : ((fsz nb : Int) == 0) = false := beq_eq_false_iff_ne.2 (by omega)
  have es : IntKind.i64.wrap ((A.sectors : Int) - (k : Int)) = (A.sectors : Int) - (k : Int) := IntWalk.i64_in _ (by have := hsl.out; have := HFIT.out; omega)
  have b3 : decide ((A.sectors : Int) - (k : Int) < (fsz nb : Int)) = false := decide_eq_false (by have := HROOM.out; omega)
  have e44 : (s.drop 20).take (64 - 20) = s.drop 20 := List.take_of_length_le (by rw [List.length_drop, h64]; omega)
  have hl44 : (s.drop 20).length = 44 := by rw [List.length_drop, h64]
  have CC0 := clone_any hb20 (by omega)
  rw [e44, hl44] at CC0
  have CC := Lib.hid CC0
  have HL44 := Lib.hid hl44
  clear CC0 e44 hl44
  rw [e3]
  generalize hfz : fsz nb = fz at *
  generalize hh0 : ((s.headD 0).toNat : Int) = hx0 at *
  clear h72 e3
  obtain ⟨i0, hi0, hz0, hz1, hz2⟩ := info_parts info_u8
  go_wp2_with fail
  refine CC.out.mono ?_
  rintro e w3 ⟨v, rfl, hown3, hbel3⟩
  clear CC z0 z1 z2 z3 f0 f1 f2 f3 c32 hhead
  go_wp2_with fail
  go_loopg [10, 11] (fz - 1) (fun m bv kv wr => ∃ (j : Nat) (r : List UInt8), j + m = fz ∧ 1 ≤ j ∧ kv = .int .i64 (j : Int) ∧ wr.ownsRow w2.heap.size 5 1 bv (44 + 63 * (j - 1)) ((s.drop 20 ++ r).map byt) ∧ Below w2.heap.size w2 wr ∧
    Hid (rest d.S (A.first + k + 1) (fz - 1) = (rest d.S (A.first + k + j) (fz - j)).map (r ++ ·)))
  case atStart => exact ⟨1, [], by omega, by omega, rfl, by simpa using hown3, hbel3, Lib.hid (by simp)⟩
  case round =>
    clear hown3 hbel3
    obtain ⟨j, r, hj, hj1, rfl, hown, hbel, HR⟩ := hrel
    have hBr : Below w.heap.size w wr := HB2.out.trans (hbel.mono HB2.out.size)
    by_cases hlt : j < fz
    · obtain ⟨t, ht, ht64⟩ := HSS.out j hlt
      have HO := Lib.hid hown
      have HBEL := Lib.hid hbel
      have HJ := Lib.hid hj
      have CR := Lib.hid (RO.out wr.drew j t hBr.drew ht)
      have ew3 : IntKind.i64.wrap ((A.first : Int) + (k : Int) + (j : Int)) = (A.first : Int) + (k : Int) + (j : Int) := IntWalk.i64_in _ (by have := hsl.out; have := HFIT.out; omega)
      have HT := Lib.hid ht
      have HBR := Lib.hid hBr
      clear hown hbel hj ht hBr
      go_wp2_with fail
      go_region_held3 (fun w' => w'.cell? ⟨p, 0, none⟩ = some (.pointer (some ⟨b, 0, none⟩)) ∧ w'.cell? ⟨p, 2, none⟩ = some (.int .i64 A.first))
        (first | exact SF2.out _ HBR.out.drew | exact SF2.out _ hB5)
        (first | (go_simp; go_at_call 92; go_must (refine CR.out.mono ?_); rintro e w5 ⟨gt, ct, rfl, hown5, hbel5⟩
                  have hB5 : Below w.heap.size w w5 := HBR.out.drew.trans (hbel5.mono HBR.out.size)))
      clear CR
      have hrow5 := own_keep HO.out (fun g hg => (hbel5.block g (HO.out.lt g hg).2))
      have hct := (own_bts hown5).2.2.1
      have hpart := own_cut hown5 (i := 1) (j := 64) (by omega) (by omega)
      have et : (t.drop 1).take (64 - 1) = t.drop 1 := List.take_of_length_le (by rw [List.length_drop, ht64]; omega)
      rw [et] at hpart
      have hcell : w5.cell? ⟨gt, 0, none⟩ = some (.int .u8 ((t.headD 0).toNat : Int)) := by
        rw [hown5.cellAt 0 (by omega), List.getElem?_map]
        rcases t with _ | ⟨x, t⟩
        · simp at ht64
        · rfl
      have hB25 : Below w2.heap.size w2 w5 := (HBEL.out.drew).trans (hbel5.mono HBEL.out.size)
      have HZ5 : Hid (Blk w5 w.heap.size 99 #[.int .u8 0, .int .u64 0, .int .u64 0, .slice none 0 0]) := Lib.hid (HZ2.out.below hB25 HZ2.out.lt)
      have HB5 := Lib.hid hB5
      have HB25 := Lib.hid hB25
      have HROW := Lib.hid hrow5
      have HPART := Lib.hid hpart
      clear hrow5 hown5 hbel5 hpart et hB25 hB5
      have hx := (t.headD 0).toNat_lt
      by_cases a1 : t.headD 0 = 67
      · have c1' : (((t.headD 0).toNat : Int) != 67) = false := by rw [a1]; rfl
        have HA1 := Lib.hid a1
        generalize ((t.headD 0).toNat : Int) = hx1 at *
        clear a1
        go_wp2_with (at_builtin; go_must (refine wpList_append_any _ rfl (.tmp 97) (.tmp 99) _ rfl w2.heap.size 5 i0 _ 1 1 Try.underlying36 hi0 hz0 hz1 hz2 rfl (by omega) u10 (44 + 63 * (j - 1)) _ rfl HROW.out w5.heap.size (some ⟨gt, 1, none⟩) 63 (ct - 1) ((t.drop 1).map byt) rfl HPART.out.2.1 (byt_one _) (by unfold maxLen; omega) (by omega) (by have := HB25.out.size; omega) ?_); intro v6 w6 hown6 hg6 hat6)
        go_roundg (fz - 1 - j)
        case measure => have := HJ.out; omega
        case rel =>
          have h9 : w6.ownsRow w2.heap.size 5 1 v6 (44 + 63 * (j + 1 - 1)) ((s.drop 20 ++ (r ++ t.drop 1)).map byt) := by
            have e9 : 44 + 63 * (j - 1) + 63 = 44 + 63 * (j + 1 - 1) := by omega
            rw [← e9]
            simpa using hown6
          refine ⟨j + 1, r ++ t.drop 1, by have := HJ.out; omega, by omega, by go_num, h9, HB25.out.grown hg6 HB25.out.size (fun g hg => (HROW.out.lt g hg).1), Lib.hid ?_⟩
          rw [HR.out, show fz - j = (fz - (j + 1)) + 1 by omega, rest_step HT.out HA1.out]
          simp [Option.map_map, Function.comp_def, List.append_assoc, Nat.add_assoc]
      · have c1' : (((t.headD 0).toNat : Int) != 67) = true := by
          rw [bne_iff_ne]
          intro e
          exact a1 (UInt8.toNat_inj.1 (by show (t.headD 0).toNat = 67; omega))
        have HA1 := Lib.hid a1
        generalize ((t.headD 0).toNat : Int) = hx1 at *
        have z0 := (HZ5.out.cell 0).trans rfl
        have z1 := (HZ5.out.cell 1).trans rfl
        have z2 := (HZ5.out.cell 2).trans rfl
        have z3 := (HZ5.out.cell 3).trans rfl
        have f0 := HZ5.out.frozen 0
        have f1 := HZ5.out.frozen 1
        have f2 := HZ5.out.frozen 2
        have f3 := HZ5.out.frozen 3
        clear a1
        go_wp2
        refine bodyPost_ret_by (results_ct rfl _ _ w.heap.size 99 #[.int .u8 0, .int .u64 0, .int .u64 0, .slice none 0 0] (0, 0) _ rfl ?_ Try.underlying99 rfl (by kernel_rfl)) rfl (.inl ⟨?_, rfl, ?_⟩)
        · have := (((HZ5.out.set_ 0 (.int .u8 0)).set_ 1 (.int .u64 0)).set_ 2 (.int .u64 0)).set_ 3 (.slice none 0 0)
          exact this
        · have e9 : rest d.S (A.first + k + 1) (fz - 1) = none := by
            rw [HR.out, show fz - j = (fz - (j + 1)) + 1 by omega, rest_stop HT.out HA1.out]
            rfl
          rw [HF.out]
          unfold standing
          rw [HNB.out, hfz, e9]
        · exact ((((HB5.out.setCell (p := ⟨w.heap.size, 0, none⟩) (Nat.le_refl _) _).setCell (p := ⟨w.heap.size, 1, none⟩) (Nat.le_refl _) _).setCell (p := ⟨w.heap.size, 2, none⟩) (Nat.le_refl _) _).setCell (p := ⟨w.heap.size, 3, none⟩) (Nat.le_refl _) _)
    · obtain rfl : fz = j := by omega
      have HRR : Hid (rest d.S (A.first + k + 1) (fz - 1) = some r) := Lib.hid (by rw [HR.out, Nat.sub_self]; simp [rest])
      have hroom9 : nb ≤ 44 + 63 * (fz - 1) := by rw [← hfz]; exact fsz_room
      obtain ⟨g5, c5, rfl, hg5, hl5⟩ := hown.form (by omega)
      have hb5 := own_bts hown
      have hc5 := hb5.2.2.1
      have hm5 := hb5.2.2.2.1
      have hpay := own_cut hown (i := 0) (j := nb) (by omega) hroom9
      rw [List.drop_zero, Nat.sub_zero, Nat.sub_zero] at hpay
      have h16 : Bts wr (some ⟨g, 0, none⟩) 16 c2 (s.take 16) := by
        have := own_cut (own_keep HOWN.out (fun g' hg' => hbel.block g' (HOWN.out.lt g' hg').2)) (i := 0) (j := 16) (by omega) (by omega)
        simpa using this
      have hsum4 : Bts wr (some ⟨g, 16, none⟩) 4 (c2 - 16) ((s.drop 16).take 4) := own_cut (own_keep HOWN.out (fun g' hg' => hbel.block g' (HOWN.out.lt g' hg').2)) (i := 16) (j := 20) (by omega) (by omega)
      have hl8 : Bts wr (some ⟨g, 2, none⟩) 8 (c2 - 2) ((s.drop 2).take 8) := own_cut (own_keep HOWN.out (fun g' hg' => hbel.block g' (HOWN.out.lt g' hg').2)) (i := 2) (j := 10) (by omega) (by omega)
      have hn4 : Bts wr (some ⟨g, 10, none⟩) 4 (c2 - 10) ((s.drop 10).take 4) := own_cut (own_keep HOWN.out (fun g' hg' => hbel.block g' (HOWN.out.lt g' hg').2)) (i := 10) (j := 14) (by omega) (by omega)
      have hk1 : wr.cell? ⟨g, 1, none⟩ = some (.int .u8 ((s.getD 1 0).toNat : Int)) := by
        rw [(own_keep HOWN.out (fun g' hg' => hbel.block g' (HOWN.out.lt g' hg').2)).cellAt 1 (by omega), List.getElem?_map, List.getD_eq_getElem?_getD, List.getElem?_eq_getElem (by omega)]
        rfl
      have l16 : (s.take 16).length = 16 := by rw [List.length_take]; omega
      have HPAY := Lib.hid hpay
      have H16 := Lib.hid h16
      have HS4 := Lib.hid hsum4
      have HL8 := Lib.hid hl8
      have HN4 := Lib.hid hn4
      have HK1 := Lib.hid hk1
      have HBR := Lib.hid hBr
      have i0' : (0 : Int) ≤ (nb : Int) := by omega
      have i1' : (nb : Int) ≤ (c5 : Int) := by omega
      have ne5 : (c5 = 0) = False := eq_false (by omega)
      have ne0 : (c2 = 0) = False := eq_false (by omega)
      have ne16 : (c2 = 16) = False := eq_false (by omega)
      have ne2 : (c2 = 2) = False := eq_false (by omega)
      have ne10 : (c2 = 10) = False := eq_false (by omega)
      have i16 : (16 : Int) ≤ (c2 : Int) := by omega
      have i20 : (20 : Int) ≤ (c2 : Int) := by omega
      have i10 : (10 : Int) ≤ (c2 : Int) := by omega
      have i14 : (14 : Int) ≤ (c2 : Int) := by omega
      have CC := clone_any (show Bts wr.drew (some ⟨g, 0, none⟩) 16 c2 (s.take 16) from H16.out) (by omega)
      rw [l16] at CC
      have CC := Lib.hid CC
      have L16 := Lib.hid l16
      have HPL : Hid (((s.drop 20 ++ r).take nb).length = nb) := Lib.hid hpay.2.2.2.2
      generalize hbb : (s.drop 20 ++ r).take nb = bb at *
      have HBB := Lib.hid hbb
      have HBEL := Lib.hid hbel
      clear hown hbel hb5 hpay h16 hsum4 hl8 hn4 hk1 hBr l16 HR hj hlt
      have hs32 : sumOf (s.take 16 ++ bb) < 4294967296 := by unfold sumOf; omega
      have ewu : IntKind.u64.wrap ((sumOf (s.take 16 ++ bb) : Nat) : Int) = ((sumOf (s.take 16 ++ bb) : Nat) : Int) := by rw [IntKind.wrap_u64]; omega
      have CSUM : Hid (∀ (W : World) (A : Option Addr) (n c : Nat), Bts W A n c (s.take 16 ++ bb) → Calls Try.prog 95 #[.slice A n c] W fun e w' => e = .returned (.int .u32 ((sumOf (s.take 16 ++ bb) : Nat) : Int)) ∧ W = w') := Lib.hid fun W A n c h => sum_any h
      have CNUM : Hid (∀ (W : World), Bts W (some ⟨g, 16, none⟩) 4 (c2 - 16) ((s.drop 16).take 4) → Calls Try.prog 93 #[.slice (some ⟨g, 16, none⟩) 4 (c2 - 16)] W fun e w' => e = .returned (.int .u64 ((upB ((s.drop 16).take 4) : Nat) : Int)) ∧ W = w') := Lib.hid fun W h => number_any h (by omega)
      by_cases hq : sumOf (s.take 16 ++ bb) = upB ((s.drop 16).take 4)
      · have hq2 : (((sumOf (s.take 16 ++ bb) : Nat) : Int) != ((upB ((s.drop 16).take 4) : Nat) : Int)) = false := by rw [hq]; simp
        have HQ := Lib.hid hq
        generalize hsv : sumOf (s.take 16 ++ bb) = sv at *
        generalize huv : upB ((s.drop 16).take 4) = uv at *
        have HSV := Lib.hid hsv
        have HUV := Lib.hid huv
        clear hq hs32 hsv huv
        go_wp2_with fail
        go_region_held3 (fun _ => True)
          (exact trivial)
          (first
            | (go_simp; go_at_call 94; go_must (refine CC.out.mono ?_); rintro e w7 ⟨v7, rfl, hown7, hbel7d⟩
               have hbel7 : Below wr.heap.size wr w7 := (Below.refl wr.heap.size wr).drew.trans (show Below wr.heap.size wr.drew w7 from hbel7d))
            | (go_simp; go_at_call 95; go_must (refine (CSUM.out _ _ _ _ hb8).mono ?_); rintro e w9 ⟨rfl, rfl⟩)
            | (go_simp; go_at_call 93; go_must (refine (CNUM.out _ (HS4.out.below hbel8)).mono ?_); rintro e w9 ⟨rfl, rfl⟩)
            | (go_must (refine step_append_any w7 rfl (.tmp 106) (.tmp 107) _ rfl wr.heap.size 5 i0 _ 1 1 Try.underlying36 hi0 hz0 hz1 hz2 rfl (by omega) v7 16 _ rfl hown7 wr.heap.size (some ⟨g5, 0, none⟩) nb c5 (bb.map byt) rfl (HPAY.out.2.1.below hbel7) (byt_one _) (by unfold maxLen; omega) (by omega) hbel7.size ?_); intro v8 w8 hown8 hg8 hat8
               have hbel8 : Below wr.heap.size wr w8 := (show Below wr.heap.size wr w7 from hbel7).grown hg8 hbel7.size (fun k hk => (hown7.lt k hk).1)
               obtain ⟨A8, c8, rfl⟩ := own_shape hown8
               have hb8 : Bts w8 A8 (16 + nb) c8 (s.take 16 ++ bb) := own_bts (l := s.take 16 ++ bb) (by simpa using hown8)
               clear hat8))
        have hk8 : w8.cell? ⟨g, 1, none⟩ = some (.int .u8 ((s.getD 1 0).toNat : Int)) := (hbel8.cell (p := ⟨g, 1, none⟩) (World.block_lt_of_cell? _ _ HK1.out)).trans HK1.out
        have hbel8' := hbel8
        have HZ8 : Hid (Blk w8 w.heap.size 99 #[.int .u8 0, .int .u64 0, .int .u64 0, .slice none 0 0]) := Lib.hid ((HZ2.out.below HBEL.out HZ2.out.lt).below hbel8 (HZ2.out.below HBEL.out HZ2.out.lt).lt)
        have HB8 : Hid (Below w.heap.size w w8) := Lib.hid (HBR.out.trans (hbel8.mono HBR.out.size))
        have HP8 := Lib.hid (HPAY.out.below hbel8)
        have z0 := (HZ8.out.cell 0).trans rfl
        have z1 := (HZ8.out.cell 1).trans rfl
        have z2 := (HZ8.out.cell 2).trans rfl
        have z3 := (HZ8.out.cell 3).trans rfl
        have f0 := HZ8.out.frozen 0
        have f1 := HZ8.out.frozen 1
        have f2 := HZ8.out.frozen 2
        have f3 := HZ8.out.frozen 3
        clear hbel8 hbel7 hbel7d hown7 hown8 hb8 hg8
        obtain ⟨kv, hkv⟩ : ∃ kv : Nat, kv = (s.getD 1 0).toNat := ⟨_, rfl⟩
        obtain ⟨lv, hlv⟩ : ∃ lv : Nat, lv = upB ((s.drop 2).take 8) := ⟨_, rfl⟩
        obtain ⟨nv, hnv⟩ : ∃ nv : Nat, nv = upB ((s.drop 10).take 4) := ⟨_, rfl⟩
        have HKV := Lib.hid hkv
        have HLV := Lib.hid hlv
        have HNV := Lib.hid hnv
        rw [← hkv] at hk8
        have HK8 : Hid (∀ V, Later w8 V → V.cell? ⟨g, 1, none⟩ = some (.int .u8 (kv : Int))) := Lib.hid fun V hV => ((show Below _ _ _ from hV).cell (p := ⟨g, 1, none⟩) (World.block_lt_of_cell? _ _ hk8)).trans hk8
        clear hkv hlv hnv
        have HL88 := Lib.hid (HL8.out.below hbel8')
        have HN48 := Lib.hid (HN4.out.below hbel8')
        have CL8 : Hid (∀ V, Later w8 V → Calls Try.prog 93 #[.slice (some ⟨g, 2, none⟩) 8 (c2 - 2)] V fun e w' => e = .returned (.int .u64 (lv : Int)) ∧ Below V.heap.size V w') := Lib.hid fun V hV => by rw [HLV.out]; exact (number_any (HL88.out.below hV) (by omega)).mono fun e w' h => ⟨h.1, by rw [← h.2]; exact Below.refl _ _⟩
        have CN4 : Hid (∀ V, Later w8 V → Calls Try.prog 93 #[.slice (some ⟨g, 10, none⟩) 4 (c2 - 10)] V fun e w' => e = .returned (.int .u64 (nv : Int)) ∧ Below V.heap.size V w') := Lib.hid fun V hV => by rw [HNV.out]; exact (number_any (HN48.out.below hV) (by omega)).mono fun e w' h => ⟨h.1, by rw [← h.2]; exact Below.refl _ _⟩
        clear hk8 hbel8' HL88 HN48
        go_upto_region 23 with fail
        have HL0 := Lib.hid (Later.refl w8)
        have ZF0 : Hid (∀ s, w8.heap.size ≤ s → w8.heap.size ≤ s) := Lib.hid (fun _ h => h)
        have ZS0 : Hid (∀ V, Later w8 V → (Later w8) V) := Lib.hid (fun _ h => h)
        refine walk_start 11 (S := Later w8) (T := Later w8) (by kernel_rfl) (fun r => w8.heap.size ≤ r) (fun _ h => h.size) ZS0.out (closed_later _) (Later.refl _).drew ?_
        refine wt 0 116 ?_ (fun V hV => ?_) ?_
        rotate_left 1
        · (clear hV; go_simp; (try with_reducible rfl))
        try simp only [pa, List.set]
        refine wt 1 117 ?_ (fun V hV => ?_) ?_
        rotate_left 1
        · (clear hV; go_simp; (try with_reducible rfl))
        try simp only [pa, List.set]
        refine wt 2 118 ?_ (fun V hV => ?_) ?_
        rotate_left 1
        · (have hk9 := HK8.out V (HL0.out.trans hV); clear hV; go_simp; (try with_reducible rfl))
        try simp only [pa, List.set]
        refine wt 3 119 ?_ (fun V hV => ?_) ?_
        rotate_left 1
        · (clear hV; go_simp; (try with_reducible rfl))
        try simp only [pa, List.set]
        refine wt 4 120 ?_ (fun V hV => ?_) ?_
        rotate_left 1
        · (clear hV; go_simp; (try with_reducible rfl))
        try simp only [pa, List.set]
        refine wt 6 122 ?_ (fun V hV => ?_) ?_
        rotate_left 1
        · (clear hV; go_simp; (try with_reducible rfl))
        try simp only [pa, List.set]
        refine wt 7 123 ?_ (fun V hV => ?_) ?_
        rotate_left 1
        · (clear hV; go_simp; (try with_reducible rfl))
        try simp only [pa, List.set]
        refine wt 9 125 ?_ (fun V hV => ?_) ?_
        rotate_left 1
        · (clear hV; go_simp; (try with_reducible rfl))
        try simp only [pa, List.set]
        refine walk_core 5 rfl (by kernel_rfl) (fun _ _ _ _ _ h => h) (fun V hV K hK => ?_)
        have hV0 := HL0.out.trans hV
        go_simp
        go_at_call 93
        refine (CL8.out V hV0).mono ?_
        rintro e x5 ⟨rfl, hb⟩
        have HT5 := Lib.hid (hV.of hb)
        have HL1 := Lib.hid (hV0.of hb)
        have hsize := hb.size
        have hkeep := fun (r : Nat) (_ : True) (h : r < V.heap.size) => hb.block r h
        have ZF1 : Hid (∀ s, x5.heap.size ≤ s → _) := Lib.hid (fun s h => ZF0.out s (Nat.le_trans hV.size (Nat.le_trans hsize h)))
        refine hK.out _ _ (Later x5) (Later x5) _ (fun r _ h => hkeep r trivial h) (fun _ h _ => h) (fun V' h => (hV.of hb).trans h) (fun _ h => h) (fun V' h => ZF1.out _ h.size) (Later.refl _) (closed_later _) ?_
        clear hK K hV hsize hkeep hV0 hb
        try simp only [pa, List.set]
        refine walk_core 8 rfl (by kernel_rfl) (fun _ _ _ _ _ h => h) (fun V hV K hK => ?_)
        have hV0 := HL1.out.trans hV
        go_simp
        go_at_call 93
        refine (CN4.out V hV0).mono ?_
        rintro e x8 ⟨rfl, hb⟩
        have HT8 := Lib.hid (hV.of hb)
        have HL2 := Lib.hid (hV0.of hb)
        have hsize := hb.size
        have hkeep := fun (r : Nat) (_ : True) (h : r < V.heap.size) => hb.block r h
        have ZF2 : Hid (∀ s, x8.heap.size ≤ s → _) := Lib.hid (fun s h => ZF1.out s (Nat.le_trans hV.size (Nat.le_trans hsize h)))
        refine hK.out _ _ (Later x8) (Later x8) _ (fun r _ h => hkeep r trivial h) (fun _ h _ => h) (fun V' h => (hV.of hb).trans h) (fun _ h => h) (fun V' h => ZF2.out _ h.size) (Later.refl _) (closed_later _) ?_
        clear hK K hV hsize hkeep hV0 hb
        try simp only [pa, List.set]
        refine wt 10 126 ?_ (fun V hV => ?_) ?_
        rotate_left 1
        · (clear hV; go_simp; (try with_reducible rfl))
        try simp only [pa, List.set]
        refine walk_exit (fun V hV => ?_)
        have hV0 := HL2.out.trans hV
        try simp only [pa, List.set]
        have kz := HZ8.out.below hV0 HZ8.out.lt
        have hp9 := HP8.out.below hV0
        have hb9 : Below w.heap.size w V := HB8.out.trans ((show Below _ _ _ from hV0).mono HB8.out.size)
        have z0 := (kz.cell 0).trans rfl
        have z1 := (kz.cell 1).trans rfl
        have z2 := (kz.cell 2).trans rfl
        have z3 := (kz.cell 3).trans rfl
        have f0 := kz.frozen 0
        have f1 := kz.frozen 1
        have f2 := kz.frozen 2
        have f3 := kz.frozen 3
        have KZ := Lib.hid kz
        have HP9 := Lib.hid hp9
        have HB9 := Lib.hid hb9
        clear kz hp9 hb9 hV hV0
        refine wpAnyJ_one (i := 11) (by kernel_rfl) rfl (fun K hK => ?_)
        simp only [List.getElem_toArray, List.getElem_cons_succ, List.getElem_cons_zero]
        go_simp
        obtain ⟨W9, hW9⟩ : ∃ W9, W9 = (((V.setCell ⟨w.heap.size, 0, none⟩ (.int .u8 (kv : Int))).setCell ⟨w.heap.size, 1, none⟩ (.int .u64 (lv : Int))).setCell ⟨w.heap.size, 2, none⟩ (.int .u64 (nv : Int))).setCell ⟨w.heap.size, 3, none⟩ (.slice (some ⟨g5, 0, none⟩) nb c5) := ⟨_, rfl⟩
        refine hK.out _ _ (fun h _ => absurd rfl h) ?_
        clear hK K
        try simp only [pa, List.set]
        rw [← hW9]
        have hk9 : Blk W9 w.heap.size 99 #[.int .u8 (kv : Int), .int .u64 (lv : Int), .int .u64 (nv : Int), .slice (some ⟨g5, 0, none⟩) nb c5] := by
          have := (((KZ.out.set_ 0 (.int .u8 (kv : Int))).set_ 1 (.int .u64 (lv : Int))).set_ 2 (.int .u64 (nv : Int))).set_ 3 (.slice (some ⟨g5, 0, none⟩) nb c5)
          rw [hW9]
          exact this
        have hb9 : Below w.heap.size w W9 := by
          rw [hW9]
          exact (((HB9.out.setCell (p := ⟨w.heap.size, 0, none⟩) (Nat.le_refl _) _).setCell (p := ⟨w.heap.size, 1, none⟩) (Nat.le_refl _) _).setCell (p := ⟨w.heap.size, 2, none⟩) (Nat.le_refl _) _).setCell (p := ⟨w.heap.size, 3, none⟩) (Nat.le_refl _) _
        have hp9 : Bts W9 (some ⟨g5, 0, none⟩) nb c5 bb := by
          rw [hW9]
          have hz2 := HZ2.out.lt
          have far : ∀ {W : World} (i : Nat) (u : Value), Bts W (some ⟨g5, 0, none⟩) nb c5 bb → Bts (W.setCell ⟨w.heap.size, i, none⟩ u) (some ⟨g5, 0, none⟩) nb c5 bb := fun i u h => by
            obtain ⟨h0, h1, h2⟩ := h
            refine ⟨h0, ⟨h1.1, fun hn => ?_⟩, h2⟩
            obtain ⟨ad, e, hlt, hc⟩ := h1.2 hn
            refine ⟨ad, e, by simpa [World.setCell] using hlt, fun j u' hu => ?_⟩
            injection e with e
            subst e
            rw [World.cell?_setCell_far]
            · exact hc j u' hu
            · rw [block_of_add]; show w.heap.size ≠ g5; omega
          exact far 3 _ (far 2 _ (far 1 _ (far 0 _ HP9.out)))
        have HK9 := Lib.hid hk9
        have HBB9 := Lib.hid hb9
        have HPP9 := Lib.hid hp9
        clear hW9 hk9 hb9 hp9 z0 z1 z2 z3 f0 f1 f2 f3 KZ HP9 HB9
        refine wpAnyJ_pure (i := 12) (d := some 5) (v := ?_) (by kernel_rfl) rfl rfl (Or.inl ⟨by rfl, ?_⟩) (fun _ h => absurd ((show _ = true by kernel_rfl).symm.trans h) (by decide)) ?_
        rotate_left 1
        · (intro V; go_simp; (try with_reducible rfl))
        try simp only [pa, List.set]
        refine wpAnyJ_done (by kernel_rfl) ?_ _
        go_wp2_with fail
        have hbl : bb.length = nb := HPP9.out.2.2.2.2
        have hfr : F = some ⟨s.getD 1 0, lv, nv, bb⟩ := by
          rw [HF.out]
          unfold standing
          rw [HNB.out, hfz, HRR.out]
          simp only []
          rw [if_pos (by rw [HBB.out, HSV.out, HUV.out]; exact HQ.out), HBB.out, HLV.out, HNV.out]
        refine bodyPost_ret_by (results_ct rfl _ _ w.heap.size 99 _ (0, 0) _ rfl HK9.out Try.underlying99 rfl (by kernel_rfl)) rfl (.inr ⟨_, g5, c5, hfr, ?_, ?_, ?_, HBB9.out⟩)
        · rw [HKV.out, hbl]; rfl
        · have := HZ2.out.lt; omega
        · rw [hbl]; exact HPP9.out
      · have hq2 : (((sumOf (s.take 16 ++ bb) : Nat) : Int) != ((upB ((s.drop 16).take 4) : Nat) : Int)) = true := by rw [bne_iff_ne]; omega
        have HQ := Lib.hid hq
        generalize hsv : sumOf (s.take 16 ++ bb) = sv at *
        generalize huv : upB ((s.drop 16).take 4) = uv at *
        have HSV := Lib.hid hsv
        have HUV := Lib.hid huv
        clear hq hs32 hsv huv
        go_wp2_with fail
        go_region_held3 (fun _ => True)
          (exact trivial)
          (first
            | (go_simp; go_at_call 94; go_must (refine CC.out.mono ?_); rintro e w7 ⟨v7, rfl, hown7, hbel7d⟩
               have hbel7 : Below wr.heap.size wr w7 := (Below.refl wr.heap.size wr).drew.trans (show Below wr.heap.size wr.drew w7 from hbel7d))
            | (go_simp; go_at_call 95; go_must (refine (CSUM.out _ _ _ _ hb8).mono ?_); rintro e w9 ⟨rfl, rfl⟩)
            | (go_simp; go_at_call 93; go_must (refine (CNUM.out _ (HS4.out.below hbel8)).mono ?_); rintro e w9 ⟨rfl, rfl⟩)
            | (go_must (refine step_append_any w7 rfl (.tmp 106) (.tmp 107) _ rfl wr.heap.size 5 i0 _ 1 1 Try.underlying36 hi0 hz0 hz1 hz2 rfl (by omega) v7 16 _ rfl hown7 wr.heap.size (some ⟨g5, 0, none⟩) nb c5 (bb.map byt) rfl (HPAY.out.2.1.below hbel7) (byt_one _) (by unfold maxLen; omega) (by omega) hbel7.size ?_); intro v8 w8 hown8 hg8 hat8
               have hbel8 : Below wr.heap.size wr w8 := (show Below wr.heap.size wr w7 from hbel7).grown hg8 hbel7.size (fun k hk => (hown7.lt k hk).1)
               obtain ⟨A8, c8, rfl⟩ := own_shape hown8
               have hb8 : Bts w8 A8 (16 + nb) c8 (s.take 16 ++ bb) := own_bts (l := s.take 16 ++ bb) (by simpa using hown8)
               clear hat8))
        have HZ8 : Hid (Blk w8 w.heap.size 99 #[.int .u8 0, .int .u64 0, .int .u64 0, .slice none 0 0]) := Lib.hid ((HZ2.out.below HBEL.out HZ2.out.lt).below hbel8 (HZ2.out.below HBEL.out HZ2.out.lt).lt)
        have HB8 : Hid (Below w.heap.size w w8) := Lib.hid (HBR.out.trans (hbel8.mono HBR.out.size))
        have z0 := (HZ8.out.cell 0).trans rfl
        have z1 := (HZ8.out.cell 1).trans rfl
        have z2 := (HZ8.out.cell 2).trans rfl
        have z3 := (HZ8.out.cell 3).trans rfl
        have f0 := HZ8.out.frozen 0
        have f1 := HZ8.out.frozen 1
        have f2 := HZ8.out.frozen 2
        have f3 := HZ8.out.frozen 3
        clear hbel8 hbel7 hbel7d hown7 hown8 hb8 hg8
        go_wp2
        refine bodyPost_ret_by (results_ct rfl _ _ w.heap.size 99 #[.int .u8 0, .int .u64 0, .int .u64 0, .slice none 0 0] (0, 0) _ rfl ?_ Try.underlying99 rfl (by kernel_rfl)) rfl (.inl ⟨?_, rfl, ?_⟩)
        · have := (((HZ8.out.set_ 0 (.int .u8 0)).set_ 1 (.int .u64 0)).set_ 2 (.int .u64 0)).set_ 3 (.slice none 0 0)
          exact this
        · rw [HF.out]
          unfold standing
          rw [HNB.out, hfz, HRR.out]
          simp only []
          rw [if_neg (by rw [HBB.out, HSV.out, HUV.out]; exact HQ.out)]
        · exact ((((HB8.out.setCell (p := ⟨w.heap.size, 0, none⟩) (Nat.le_refl _) _).setCell (p := ⟨w.heap.size, 1, none⟩) (Nat.le_refl _) _).setCell (p := ⟨w.heap.size, 2, none⟩) (Nat.le_refl _) _).setCell (p := ⟨w.heap.size, 3, none⟩) (Nat.le_refl _) _)
end
end Go.Proofs.Ytlbikfamjogpnaa
end

/- frame's read of a disk that is on; All. Conditions: an area and its disk lie in memory; the area lies on the disk. -/
section
namespace Go.Proofs.Ytlbikfamjogpnaa
open Go.RowKit
set_option linter.unusedVariables false

section
variable {w : World} {B p b a : Nat} {A : Ar}
theorem frameAt_none {S : List (List UInt8)} {s : List UInt8} {first sectors k : Nat} (hs : S[first + k]? = some s) (hno : s.headD 0 ≠ 72 ∨ 1000 < upB ((s.drop 14).take 2) ∨ sectors - k < fsz (upB ((s.drop 14).take 2))) : frameAt S first sectors k = none := by
  have e : S.getD (first + k) [] = s := by rw [List.getD_eq_getElem?_getD, hs]; rfl
  unfold frameAt
  simp only [e]
  split
  · rfl
  · first | rfl | rw [if_pos hno]
theorem read_on (d : Dk) (k : Nat) (h : AreaAt w B p b A) (hd : DiskAt w b a d) (hfit : A.first + A.sectors ≤ d.S.length) (hoff : d.off = false) :
    Calls Try.prog 57 #[.pointer (some ⟨p, 0, none⟩), .int .i64 (k : Int)] w (Stands w (frameAt d.S A.first A.sectors k)) := by
  by_cases hk : k < A.sectors
  · have hi : A.first + k < d.S.length := by omega
    obtain ⟨s, hs⟩ : ∃ s, d.S[A.first + k]? = some s := ⟨_, List.getElem?_eq_getElem hi⟩
    by_cases hno : s.headD 0 ≠ 72 ∨ 1000 < upB ((s.drop 14).take 2) ∨ A.sectors - k < fsz (upB ((s.drop 14).take 2))
    · exact (read_headless d k s h hd hk hfit hoff hs hno).mono fun e w' hh => .inl ⟨frameAt_none hs hno, hh.1, hh.2⟩
    · exact read_body d k s h hd hk hfit hoff hs (Classical.byContradiction fun h9 => hno (.inl h9)) (by omega) (by omega)
  · exact (read_past k h (by omega)).mono fun e w' hh => .inl ⟨by unfold frameAt; simp only []; rw [if_pos (by omega)], hh.1, hh.2⟩
end

/-- What Open finds, frame by frame. -/
def scanF (S : List (List UInt8)) : Nat → Ar → Ar
  | 0, A => A
  | m + 1, A =>
    match frameAt S A.first A.sectors A.used with
    | none => A
    | some f => if f.n ≠ A.ats.length ∨ (0 < A.ats.length ∧ f.life ≠ A.life) then A else scanF S m { A with life := f.life, ats := A.ats ++ [A.used], used := A.used + fsz f.b.length }
theorem frameAt_len {S : List (List UInt8)} {first sectors k : Nat} {f : Fr} (h : frameAt S first sectors k = some f) (hS : ∀ s ∈ S, s.length = 64) (hfit : first + sectors ≤ S.length) : f.b.length ≤ 1000 ∧ k + fsz f.b.length ≤ sectors ∧ f.n < 4294967296 ∧ f.life < 18446744073709551616 := by
  unfold frameAt at h
  simp only at h
  split at h
  · cases h
  · rename_i hk
    split at h
    · cases h
    · rename_i hno
      split at h
      · cases h
      · rename_i r hr
        split at h
        · injection h with h
          subst h
          have h0 : (S.getD (first + k) []).length = 64 := by
            rw [List.getD_eq_getElem?_getD, List.getElem?_eq_getElem (by omega)]
            exact hS _ (List.getElem_mem _)
          have hroom : fsz (upB (((S.getD (first + k) []).drop 14).take 2)) ≤ sectors - k := by omega
          have hl := rest_len hS _ (first + k + 1) r (by omega) hr
          have hz := @fsz_room (upB (((S.getD (first + k) []).drop 14).take 2))
          have hb : (((S.getD (first + k) []).drop 20 ++ r).take (upB (((S.getD (first + k) []).drop 14).take 2))).length = upB (((S.getD (first + k) []).drop 14).take 2) := by
            rw [List.length_take, List.length_append, List.length_drop, h0, hl]
            omega
          refine ⟨?_, ?_, ?_, ?_⟩
          · show (List.take _ _).length ≤ 1000
            omega
          · show k + fsz (List.take _ _).length ≤ sectors
            rw [hb]; omega
          · have := upB_lt (((S.getD (first + k) []).drop 10).take 4)
            have e : (((S.getD (first + k) []).drop 10).take 4).length = 4 := by rw [List.length_take, List.length_drop, h0]; omega
            rw [e] at this
            exact this
          · have := upB_lt (((S.getD (first + k) []).drop 2).take 8)
            have e : (((S.getD (first + k) []).drop 2).take 8).length = 8 := by rw [List.length_take, List.length_drop, h0]; omega
            rw [e] at this
            exact this
        · cases h
end Go.Proofs.Ytlbikfamjogpnaa
end
