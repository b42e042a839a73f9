/- A disk as a plain Lean value, and where it lies in memory. No program here. Conditions: none. -/
import Derived.Test.YtifldkcfbggkeaaBase
import Derived.Laws.CopyOwn
namespace Go.Proofs.Ytifldkcfbggkeaa
open Go.RowKit

structure Dk where
  S : List (List UInt8)
  off : Bool
  cut : Int
  odd : Bool
  writes : Int
  lives : Int

def zeros64 : List UInt8 := List.replicate 64 0
def pad (b : List UInt8) : List UInt8 := b ++ List.replicate (64 - b.length) 0
theorem pad_length (b : List UInt8) (h : b.length ≤ 64) : (pad b).length = 64 := by simp [pad]; omega

/-- Why a call may not be. -/
def Dk.may (d : Dk) (sector size : Int) : Int :=
  if sector < 0 ∨ (d.S.length : Int) ≤ sector ∨ 64 < size then 1 else if d.off = true then 4 else 0

def Dk.put (d : Dk) (sector : Int) (b : List UInt8) : Dk := { d with S := d.S.set sector.toNat (pad b) }
def Dk.cutOff (d : Dk) : Dk := { d with cut := 0, off := true }
def Dk.counted (d : Dk) : Dk := { d with writes := wrap64 (d.writes + 1) }
def Dk.less (d : Dk) : Dk := { d with cut := d.cut - 1 }

/-- A write: the disk behind it, and what it answers. -/
def Dk.write (d : Dk) (sector : Int) (b : List UInt8) : Dk × Int :=
  if d.may sector b.length = 0 then
    if 0 < d.cut then
      if d.cut = 1 then (if d.odd = true then (d.cutOff.put sector b, 4) else (d.cutOff, 4))
      else ((d.less.put sector b).counted, 0)
    else ((d.put sector b).counted, 0)
  else (d, d.may sector b.length)

def Dk.armed (d : Dk) (n how : Int) : Dk := { d with cut := max n 0, odd := how.tmod 2 != 0 }
def Dk.on (d : Dk) : Dk := { d with off := false, cut := 0, lives := wrap64 (d.lives + 1) }
def Dk.new (n : Nat) : Dk := { S := List.replicate n zeros64, off := false, cut := 0, odd := false, writes := 0, lives := 1 }

/-- A sector's slice: nil, or 64 bytes. -/
def SecAt (w : World) (v : Value) (s : List UInt8) : Prop :=
  s.length = 64 ∧ ((v = .slice none 0 0 ∧ s = zeros64) ∨ ∃ g, v = .slice (some ⟨g, 0, none⟩) 64 64 ∧ Blk w g 5 (s.map byt).toArray)

/-- The disk's struct lies in block b, its sectors' slices in block a. -/
def DiskAt (w : World) (b a : Nat) (d : Dk) : Prop :=
  ∃ (c : Nat) (arr : Array Value),
    Blk w b 71 #[.slice (some ⟨a, 0, none⟩) d.S.length c, .bool d.off, .int .i64 d.cut, .bool d.odd, .int .i64 d.writes, .int .i64 d.lives] ∧
    Blk w a 27 arr ∧ arr.size = c ∧ d.S.length ≤ c ∧ c ≤ maxLen ∧ 1 ≤ d.S.length ∧ d.S.length ≤ 4096 ∧ 0 ≤ d.cut ∧ d.cut ≤ 9223372036854775807 ∧
    ∀ (i : Nat) (s : List UInt8), d.S[i]? = some s → ∃ v, arr[i]? = some v ∧ SecAt w v s

theorem SecAt.keep {w w' : World} {v : Value} {s : List UInt8} (h : SecAt w v s) (hk : ∀ g cs, Blk w g 5 cs → Blk w' g 5 cs) : SecAt w' v s := by
  refine ⟨h.1, ?_⟩
  rcases h.2 with h | ⟨g, hv, hb⟩
  · exact .inl h
  · exact .inr ⟨g, hv, hk g _ hb⟩

theorem DiskAt.keep {w w' : World} {b a : Nat} {d : Dk} (h : DiskAt w b a d) (hb : w'.heap[b]? = w.heap[b]?) (ha : w'.heap[a]? = w.heap[a]?)
    (hk : ∀ g cs, Blk w g 5 cs → Blk w' g 5 cs) : DiskAt w' b a d := by
  obtain ⟨c, arr, h1, h2, h3, h4, h5, h6, h7, h8, h9, h10⟩ := h
  refine ⟨c, arr, hb.trans h1, ha.trans h2, h3, h4, h5, h6, h7, h8, h9, fun i s hs => ?_⟩
  obtain ⟨v, hv, hsec⟩ := h10 i s hs
  exact ⟨v, hv, hsec.keep hk⟩

theorem DiskAt.ne {w : World} {b a : Nat} {d : Dk} (h : DiskAt w b a d) : b ≠ a := by
  obtain ⟨c, arr, h1, h2, _⟩ := h
  exact h1.ne_ h2 (by decide)
theorem DiskAt.ltb {w : World} {b a : Nat} {d : Dk} (h : DiskAt w b a d) : b < w.heap.size := by
  obtain ⟨c, arr, h1, h2, _⟩ := h
  exact h1.lt
theorem DiskAt.lta {w : World} {b a : Nat} {d : Dk} (h : DiskAt w b a d) : a < w.heap.size := by
  obtain ⟨c, arr, h1, h2, _⟩ := h
  exact h2.lt
theorem DiskAt.below {w w' : World} {b a : Nat} {d : Dk} (h : DiskAt w b a d) (hb : Below w.heap.size w w') : DiskAt w' b a d :=
  h.keep (hb.block b h.ltb) (hb.block a h.lta) (fun _ _ hg => hg.below hb hg.lt)

/-- All blocks but those of S are as they were; the streams too. -/
structure Kept (S : Nat → Prop) (w w' : World) : Prop where
  os : w'.os = w.os
  tape : w'.tape = w.tape
  output : w'.output = w.output
  size : w.heap.size ≤ w'.heap.size
  block : ∀ k, k < w.heap.size → ¬ S k → w'.heap[k]? = w.heap[k]?

section
variable {S T : Nat → Prop} {w w' w'' : World}
theorem Kept.refl : Kept S w w := ⟨rfl, rfl, rfl, Nat.le_refl _, fun _ _ _ => rfl⟩
theorem Kept.of_below (h : Below w.heap.size w w') : Kept S w w' := ⟨h.os, h.tape, h.output, h.size, fun k hk _ => h.block k hk⟩
theorem Kept.trans (h : Kept S w w') (k : Kept T w' w'') (hT : ∀ i, i < w.heap.size → T i → S i) : Kept S w w'' :=
  ⟨k.os.trans h.os, k.tape.trans h.tape, k.output.trans h.output, Nat.le_trans h.size k.size,
    fun i hi hn => (k.block i (Nat.lt_of_lt_of_le hi h.size) (fun ht => hn (hT i hi ht))).trans (h.block i hi hn)⟩
theorem Kept.below {B : Nat} (h : Kept S w w') (hB : B ≤ w.heap.size) (hS : ∀ i, S i → B ≤ i) : Below B w w' :=
  ⟨h.os, h.tape, h.output, h.size, fun k hk => h.block k (Nat.lt_of_lt_of_le hk hB) (fun hs => by have := hS k hs; omega)⟩
theorem Kept.blk {g : Nat} {t : TypeId} {cs : Array Value} (h : Kept S w w') (hg : Blk w g t cs) (hn : ¬ S g) : Blk w' g t cs := (h.block g hg.lt hn).trans hg
theorem Kept.setCell {p : Addr} {u : Value} (h : Kept S w w') (hp : S p.block ∨ w.heap.size ≤ p.block) : Kept S w (w'.setCell p u) :=
  ⟨h.os, h.tape, h.output, by simpa [World.setCell] using h.size, fun k hk hn => (Below.heap_setCell _ _ _ _ (by
    rintro rfl
    rcases hp with hp | hp
    · exact hn hp
    · omega)).trans (h.block k hk hn)⟩
theorem Kept.set {b i : Nat} {u : Value} (h : Kept S w w') (hp : S b) : Kept S w (w'.setCell ⟨b, i, none⟩ u) := h.setCell (.inl hp)
theorem Kept.set_new {b i : Nat} {u : Value} (h : Kept S w w') (hp : w.heap.size ≤ b) : Kept S w (w'.setCell ⟨b, i, none⟩ u) := h.setCell (.inr hp)
theorem Kept.alloc (h : Kept S w w') (o : Obj) : Kept S w (w'.alloc o) :=
  ⟨h.os, h.tape, h.output, Nat.le_trans h.size (by simp), fun k hk hn => (Below.heap_alloc _ _ _ (Nat.lt_of_lt_of_le hk h.size)).trans (h.block k hk hn)⟩
theorem Kept.grown {row : Option Nat} (h : Kept S w w') (hg : w'.grownBy w'' row) (hr : ∀ k, row = some k → S k ∨ w.heap.size ≤ k) : Kept S w w'' :=
  ⟨hg.os.trans h.os, hg.tape.trans h.tape, hg.output.trans h.output, Nat.le_trans h.size hg.size, fun k hk hn => (hg.block k (Nat.lt_of_lt_of_le hk h.size) (fun e => by
    rcases hr k e.symm with h1 | h1
    · exact hn h1
    · omega)).trans (h.block k hk hn)⟩
theorem Kept.drew (h : Kept S w w') : Kept S w w'.drew := ⟨h.os, h.tape, h.output, h.size, h.block⟩
end

/-- The struct alone is written. -/
theorem DiskAt.upd {w w' : World} {b a : Nat} {d : Dk} (h : DiskAt w b a d) (d' : Dk) (hS : d'.S = d.S) (h0 : 0 ≤ d'.cut) (h1 : d'.cut ≤ 9223372036854775807)
    (hb : ∀ s0 : Value, Blk w b 71 #[s0, .bool d.off, .int .i64 d.cut, .bool d.odd, .int .i64 d.writes, .int .i64 d.lives] →
      Blk w' b 71 #[s0, .bool d'.off, .int .i64 d'.cut, .bool d'.odd, .int .i64 d'.writes, .int .i64 d'.lives]) (hk : Kept (fun k => k = b) w w') : DiskAt w' b a d' := by
  have hne := h.ne
  obtain ⟨c, arr, hb0, ha, h3, h4, h5, h6, h7, h8, h9, h10⟩ := h
  refine ⟨c, arr, by rw [hS]; exact hb _ hb0, hk.blk ha (fun e => hne e.symm), h3, by rw [hS]; exact h4, h5, by rw [hS]; exact h6, by rw [hS]; exact h7, h0, h1, fun i s hs => ?_⟩
  rw [hS] at hs
  obtain ⟨v, hv, hsec⟩ := h10 i s hs
  exact ⟨v, hv, hsec.keep fun g cs hg => hk.blk hg (fun e => by subst e; exact hg.ne_ hb0 (by decide) rfl)⟩

/-- The two blocks of a disk. -/
abbrev DS (b a : Nat) : Nat → Prop := fun k => k = b ∨ k = a

/-- A block of bytes is none of a disk's own two. -/
theorem DiskAt.apart {w : World} {b a g : Nat} {d : Dk} {cs : Array Value} (h : DiskAt w b a d) (hg : Blk w g 5 cs) : ¬ DS b a g := by
  obtain ⟨c, arr, hb, ha, _⟩ := h
  rintro (e | e)
  · subst e; exact hg.ne_ hb (by decide) rfl
  · subst e; exact hg.ne_ ha (by decide) rfl

/-- Another disk keeps as it is while one is written. -/
theorem DiskAt.other {w w' : World} {b a b' a' : Nat} {d d' : Dk} (h : DiskAt w b a d) (h' : DiskAt w b' a' d') (hk : Kept (DS b' a') w w') (hb : b ≠ b') (ha : a ≠ a') : DiskAt w' b a d := by
  have nb : ¬ DS b' a' b := by
    obtain ⟨c, arr, hb1, ha1, _⟩ := h
    obtain ⟨c', arr', hb2, ha2, _⟩ := h'
    rintro (e | e)
    · exact hb e
    · subst e; exact hb1.ne_ ha2 (by decide) rfl
  have na : ¬ DS b' a' a := by
    obtain ⟨c, arr, hb1, ha1, _⟩ := h
    obtain ⟨c', arr', hb2, ha2, _⟩ := h'
    rintro (e | e)
    · subst e; exact ha1.ne_ hb2 (by decide) rfl
    · exact ha e
  exact h.keep (hk.block b h.ltb nb) (hk.block a h.lta na) (fun g cs hg => hk.blk hg (h'.apart hg))

/-- A sector is written, and the struct. -/
theorem DiskAt.put {w w' : World} {b a : Nat} {d : Dk} (h : DiskAt w b a d) (k g : Nat) (s : List UInt8) (d' : Dk) (hS : d'.S = d.S.set k s) (h0 : 0 ≤ d'.cut) (h1 : d'.cut ≤ 9223372036854775807)
    (hs : s.length = 64)
    (hb : ∀ s0 : Value, Blk w b 71 #[s0, .bool d.off, .int .i64 d.cut, .bool d.odd, .int .i64 d.writes, .int .i64 d.lives] →
      Blk w' b 71 #[s0, .bool d'.off, .int .i64 d'.cut, .bool d'.odd, .int .i64 d'.writes, .int .i64 d'.lives])
    (ha : ∀ arr, Blk w a 27 arr → Blk w' a 27 (arr.setIfInBounds k (.slice (some ⟨g, 0, none⟩) 64 64))) (hg : Blk w' g 5 (s.map byt).toArray)
    (hk : Kept (fun k => k = b ∨ k = a) w w') : DiskAt w' b a d' := by
  obtain ⟨c, arr, hb0, ha0, h3, h4, h5, h6, h7, h8, h9, h10⟩ := h
  have hl : d'.S.length = d.S.length := by rw [hS]; simp
  refine ⟨c, _, by rw [hl]; exact hb _ hb0, ha _ ha0, by simpa using h3, by rw [hl]; exact h4, h5, by rw [hl]; exact h6, by rw [hl]; exact h7, h0, h1, fun i s' hs' => ?_⟩
  by_cases e : k = i
  · subst e
    have hlt : k < d'.S.length := (List.getElem?_eq_some_iff.1 hs').1
    have e' : s' = s := by
      rw [hS, List.getElem?_set_self (by omega)] at hs'
      exact (Option.some.inj hs').symm
    subst e'
    exact ⟨.slice (some ⟨g, 0, none⟩) 64 64, by rw [Array.getElem?_setIfInBounds_self_of_lt (by omega)], hs, .inr ⟨g, rfl, hg⟩⟩
  · rw [hS, List.getElem?_set_ne e] at hs'
    obtain ⟨v, hv, hsec⟩ := h10 i s' hs'
    refine ⟨v, by rw [Array.getElem?_setIfInBounds_ne e]; exact hv, hsec.keep fun g cs hg => hk.blk hg ?_⟩
    rintro (e | e)
    · subst e; exact hg.ne_ hb0 (by decide) rfl
    · subst e; exact hg.ne_ ha0 (by decide) rfl

/-- A slice of bytes that can be read; nil let in. -/
def Bts (w : World) (A : Option Addr) (n c : Nat) (l : List UInt8) : Prop :=
  (A = none → n = 0 ∧ c = 0) ∧ Reads w w.heap.size 1 A n (l.map byt) ∧ n ≤ c ∧ c ≤ maxLen ∧ l.length = n

/-- A slice of bytes that lies below block B0. -/
def BtsB (w : World) (B0 : Nat) (A : Option Addr) (n c : Nat) (l : List UInt8) : Prop :=
  (A = none → n = 0 ∧ c = 0) ∧ Reads w B0 1 A n (l.map byt) ∧ n ≤ c ∧ c ≤ maxLen ∧ l.length = n
theorem BtsB.bts {w : World} {B0 n c : Nat} {A : Option Addr} {l : List UInt8} (h : BtsB w B0 A n c l) (hB : B0 ≤ w.heap.size) : Bts w A n c l := ⟨h.1, h.2.1.more hB, h.2.2⟩
theorem BtsB.below {w w' : World} {B0 n c : Nat} {A : Option Addr} {l : List UInt8} (h : BtsB w B0 A n c l) (hb : Below B0 w w') : BtsB w' B0 A n c l := ⟨h.1, h.2.1.below hb, h.2.2⟩

/-- An owned row of bytes is a slice of bytes. -/
theorem own_bts {w : World} {base n c : Nat} {A : Option Addr} {l : List UInt8} (h : w.ownsRow base 5 1 (.slice A n c) n (l.map byt)) : Bts w A n c l := by
  have hr := Reads.of_own h
  have hl : l.length = n := by have := h.1; simpa using this
  rcases h.2 with ⟨hv, hn⟩ | ⟨g, cap, cur, hv, _, _, h1, h2, _⟩
  · simp only [Value.slice.injEq] at hv
    obtain ⟨rfl, _, rfl⟩ := hv
    exact ⟨fun _ => ⟨hn, rfl⟩, hr, by omega, Nat.zero_le _, hl⟩
  · simp only [Value.slice.injEq] at hv
    obtain ⟨rfl, _, rfl⟩ := hv
    exact ⟨(fun h => by cases h), hr, h1, h2, hl⟩

def zrow : Array Value := (zeros64.map byt).toArray
theorem pad_cells (l : List UInt8) : (splice (zeros64.map byt) 0 (l.map byt)).toArray = ((pad l).map byt).toArray := by
  have e : zeros64.map byt = List.replicate 64 (byt 0) := by unfold zeros64; rw [List.map_replicate]
  rw [e]
  generalize hz : byt 0 = z
  simp only [splice, pad, List.take_zero, List.nil_append, List.length_map, Nat.zero_add, List.drop_replicate, List.map_append, List.map_replicate, hz]

end Go.Proofs.Ytifldkcfbggkeaa
