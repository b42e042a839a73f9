/- The texts of this proof, joined: contracts of the functions that the law reaches, and what they come to in plain Lean. Conditions: those that each theorem names. -/
import Derived.Test.YtlbikfamjogpnaaWWords
import Derived.Test.YtlbikfamjogpnaaMPageKeys0
import Derived.WalkLawsBesides
import Derived.Laws.CopyOwn
import Derived.Test.YtlbikfamjogpnaaRows
import Derived.Deep.LoopGhost
import Derived.Test.YtlbikfamjogpnaaMPageKeys2
import Derived.Deep.QuietTactic
import Derived.BigQuiet
import Derived.Shelf.Abstract
import Derived.Outline
import Derived.Deep.DeepCutAuto
import Derived.Deep.RegionLaw
import Derived.Deep.DrawnRows
import Derived.Deep.RegionHeld3
import Derived.Lib.AppendStr
import Derived.Lib.SlBytesConst
import Derived.Deep.Slices
import Derived.Deep.Strs
import Derived.ChangeSame
import Derived.ProofKit

/- Numbers in bytes, and the sum of bytes, in plain Lean: what is written is read; unlike numbers are unlike bytes; one byte that is changed changes the sum. No program here. Conditions: none. -/
section
namespace Go.Proofs.Ytlbikfamjogpnaa

/-- A number's bytes. -/
def putU (u : Nat) : List UInt8 := if u < 128 then [UInt8.ofNat u] else UInt8.ofNat (u % 128 + 128) :: putU (u / 128)
termination_by u

theorem putU_small {u : Nat} (h : u < 128) : putU u = [UInt8.ofNat u] := by rw [putU, if_pos h]
theorem putU_big {u : Nat} (h : ¬ u < 128) : putU u = UInt8.ofNat (u % 128 + 128) :: putU (u / 128) := by rw [putU, if_neg h]

theorem putU_len (k : Nat) : ∀ u, u < 128 ^ (k + 1) → (putU u).length ≤ k + 1 := by
  induction k with
  | zero => intro u h; rw [putU_small (by omega)]; simp
  | succ k ih =>
    intro u h
    by_cases hu : u < 128
    · rw [putU_small hu]; simp
    · rw [putU_big hu]
      have := ih (u / 128) (by rw [Nat.div_lt_iff_lt_mul (by omega)]; rw [Nat.pow_succ] at h; exact h)
      simp; omega
theorem putU_ten {u : Nat} (h : u < 18446744073709551616) : (putU u).length ≤ 10 := putU_len 9 u (Nat.lt_of_lt_of_le h (by decide))
theorem putU_pos (u : Nat) : 1 ≤ (putU u).length := by
  rw [putU]; split <;> simp

/-- A number is read, byte i being the next. -/
def rdU (i acc : Nat) : List UInt8 → Option (Nat × List UInt8)
  | [] => none
  | x :: r =>
    if i = 9 ∧ 1 < x.toNat then none
    else if 128 ≤ x.toNat then rdU (i + 1) (acc + x.toNat % 128 * 2 ^ (7 * i)) r
    else if x.toNat = 0 ∧ 0 < i then none
    else some (acc + x.toNat % 128 * 2 ^ (7 * i), r)

theorem rdU_put (k : Nat) : ∀ (i acc u : Nat) (r : List UInt8), i + k = 9 → u < 2 ^ (64 - 7 * i) → (0 < i → 0 < u) → rdU i acc (putU u ++ r) = some (acc + u * 2 ^ (7 * i), r) := by
  induction k with
  | zero =>
    intro i acc u r hi hu h0
    obtain rfl : i = 9 := by omega
    have hu2 : u < 2 := by simpa using hu
    have hu1 : u = 1 := by have := h0 (by omega); omega
    subst hu1
    rw [putU_small (by omega)]
    simp [rdU]
  | succ k ih =>
    intro i acc u r hi hu h0
    by_cases hs : u < 128
    · rw [putU_small hs]
      have e : (UInt8.ofNat u).toNat = u := by simp; omega
      simp only [List.singleton_append, rdU, e]
      rw [if_neg (by omega), if_neg (by omega), if_neg (by rintro ⟨h1, h2⟩; have := h0 h2; omega), Nat.mod_eq_of_lt hs]
    · rw [putU_big hs]
      have e : (UInt8.ofNat (u % 128 + 128)).toNat = u % 128 + 128 := by simp; omega
      simp only [List.cons_append, rdU, e]
      rw [if_neg (by omega), if_pos (by omega)]
      have h64 : 64 - 7 * i = (64 - 7 * (i + 1)) + 7 := by omega
      have hlt : u / 128 < 2 ^ (64 - 7 * (i + 1)) := by
        rw [Nat.div_lt_iff_lt_mul (by omega)]
        rw [h64, Nat.pow_add] at hu
        exact hu
      rw [ih (i + 1) _ _ r (by omega) hlt (fun _ => by omega)]
      congr 2
      have e2 : (u % 128 + 128) % 128 = u % 128 := by omega
      have e3 : 2 ^ (7 * (i + 1)) = 128 * 2 ^ (7 * i) := by rw [show 7 * (i + 1) = 7 + 7 * i by omega, Nat.pow_add]
      rw [e2, e3, Nat.add_assoc, ← Nat.mul_assoc, ← Nat.add_mul]
      congr 2
      omega

theorem rd_put {u : Nat} (h : u < 18446744073709551616) (r : List UInt8) : rdU 0 0 (putU u ++ r) = some (u, r) := by
  have := rdU_put 9 0 0 u r rfl (by simpa using h) (by omega)
  simpa using this

def unzig (u : Nat) : Int := if u % 2 = 0 then ((u / 2 : Nat) : Int) else -((u / 2 : Nat) : Int) - 1
/-! ### The sum -/
def crcP : Nat := 3988292384
def crcBit (s : Nat) : Nat := if s % 2 = 1 then s / 2 ^^^ crcP else s / 2
def crcN : Nat → Nat → Nat
  | 0, s => s
  | k + 1, s => crcN k (crcBit s)
def crcByte (s : Nat) (x : UInt8) : Nat := crcN 8 (s ^^^ x.toNat)
def crcAll (s : Nat) (l : List UInt8) : Nat := l.foldl crcByte s
def sumOf (l : List UInt8) : Nat := 4294967295 - crcAll 4294967295 l

end Go.Proofs.Ytlbikfamjogpnaa
end

/- Pages as plain values, and the bytes that they are. No program here. Conditions: none. -/
section
namespace Go.Proofs.Ytlbikfamjogpnaa
open Go.RowKit Go.Proofs.YtlbikfamjogpnaaW.PrintWords

structure Pg where
  leaf : Bool
  keys : List ByteArray
  vals : List ByteArray
  kids : List Int

def ints (l : List UInt8) : List Int := l.map fun b => (b.toNat : Int)
theorem ints_len (l : List UInt8) : (ints l).length = l.length := by simp [ints]
theorem ints_app (l r : List UInt8) : ints (l ++ r) = ints l ++ ints r := by simp [ints]
theorem bytesOf_ints (s : ByteArray) : bytesOf s = ints s.data.toList := rfl
def putS (s : ByteArray) : List UInt8 := putU s.size ++ s.data.toList
theorem ba_len (s : ByteArray) : s.data.toList.length = s.size := Array.length_toList
theorem putS_len (s : ByteArray) : (putS s).length = (putU s.size).length + s.size := by rw [putS, List.length_append, ba_len]
def encKV : List ByteArray → List ByteArray → List UInt8
  | [], _ => []
  | k :: ks, [] => putS k ++ encKV ks []
  | k :: ks, v :: vs => putS k ++ (putS v ++ encKV ks vs)
def encK (ks : List ByteArray) : List UInt8 := ks.flatMap putS
def encN (ns : List Int) : List UInt8 := ns.flatMap fun n => putU n.toNat
def encB (p : Pg) : List UInt8 := if p.leaf then encKV p.keys p.vals else encK p.keys ++ encN p.kids
def encP (p : Pg) : List UInt8 := (if p.leaf then 76 else 66) :: (putU p.keys.length ++ encB p)

/-- From place i on. -/
def encFrom (p : Pg) (i : Nat) : List UInt8 := if p.leaf then encKV (p.keys.drop i) (p.vals.drop i) else encK (p.keys.drop i) ++ encN p.kids
theorem encFrom_zero (p : Pg) : encFrom p 0 = encB p := by simp [encFrom, encB]
theorem encFrom_end (p : Pg) {i : Nat} (h : p.keys.length ≤ i) : encFrom p i = if p.leaf then [] else encN p.kids := by
  unfold encFrom
  rw [List.drop_eq_nil_of_le h]
  cases p.leaf <;> simp [encKV, encK]
theorem encFrom_kv (p : Pg) {i : Nat} (h : i < p.keys.length) (hl : p.leaf = true) (hv : i < p.vals.length) : encFrom p i = putS p.keys[i] ++ (putS p.vals[i] ++ encFrom p (i + 1)) := by
  unfold encFrom
  rw [if_pos hl, if_pos hl, List.drop_eq_getElem_cons h, List.drop_eq_getElem_cons hv, encKV]
theorem encFrom_k (p : Pg) {i : Nat} (h : i < p.keys.length) (hl : p.leaf = true) (hv : ¬ i < p.vals.length) : encFrom p i = putS p.keys[i] ++ encFrom p (i + 1) := by
  unfold encFrom
  rw [if_pos hl, if_pos hl, List.drop_eq_getElem_cons h]
  have e1 : p.vals.drop i = [] := List.drop_eq_nil_of_le (by omega)
  have e2 : p.vals.drop (i + 1) = [] := List.drop_eq_nil_of_le (by omega)
  rw [e1, e2, encKV]
theorem encFrom_b (p : Pg) {i : Nat} (h : i < p.keys.length) (hl : p.leaf = false) : encFrom p i = putS p.keys[i] ++ encFrom p (i + 1) := by
  unfold encFrom
  rw [hl]
  simp only [Bool.false_eq_true, if_false]
  rw [List.drop_eq_getElem_cons h]
  simp only [encK, List.flatMap_cons, List.append_assoc]
theorem encN_cons (ns : List Int) {i : Nat} (h : i < ns.length) : encN (ns.drop i) = putU ns[i].toNat ++ encN (ns.drop (i + 1)) := by
  rw [List.drop_eq_getElem_cons h]; rfl

/-- What may be: numbers that are uint64. -/
def Nums (ns : List Int) : Prop := ∀ n ∈ ns, 0 ≤ n ∧ n < 18446744073709551616
theorem Nums.at_ {ns : List Int} (h : Nums ns) {i : Nat} (hi : i < ns.length) : 0 ≤ ns[i] ∧ ns[i] < 18446744073709551616 := h _ (List.getElem_mem hi)

theorem rdOf_str (l : List ByteArray) (i : Nat) (h : i < l.length) : rdOf ByteArray.empty l (i : Int) = l[i] := by
  unfold rdOf
  rw [Int.toNat_natCast, List.getD_eq_getElem?_getD, List.getElem?_eq_getElem h]; rfl
theorem rd_int (l : List Int) (i : Nat) (h : i < l.length) : rd l (i : Int) = l[i] := by
  unfold rd
  rw [Int.toNat_natCast, List.getD_eq_getElem?_getD, List.getElem?_eq_getElem h]; rfl
theorem wrap_up {i n : Nat} (h : i < n) (hn : n < 9223372036854775808) : wrap64 ((i : Int) + 1) = ((i + 1 : Nat) : Int) := by
  unfold wrap64
  omega
theorem Ev.end_ {α : Type} {g : Nat → Option α} {r : α} (h : ∀ k, g (k + 1) = some r) : Ev g r := Ev.step h (Ev.now r)
theorem evAs {α : Type} {g : Nat → Option α} {r r' : α} (h : Ev g r) (e : r = r') : Ev g r' := e ▸ h
/-- The order of texts, and what a page must be. -/
def lessB (a b : ByteArray) : Bool := Op.bytesLess a.toList b.toList
def okAt (ks : List ByteArray) (i : Nat) : Bool :=
  decide (1 ≤ (ks.getD i ByteArray.empty).size) && (decide ((ks.getD i ByteArray.empty).size ≤ 40) && (decide (i = 0) || lessB (ks.getD (i - 1) ByteArray.empty) (ks.getD i ByteArray.empty)))
def keysFrom (ks : List ByteArray) (i : Nat) : Bool := (List.range' i (ks.length - i)).all (okAt ks)
def valsFrom (vs : List ByteArray) (i : Nat) : Bool := (List.range' i (vs.length - i)).all fun j => decide ((vs.getD j ByteArray.empty).size ≤ 400)
def kidsFrom (ns : List Int) (i : Nat) : Bool := (List.range' i (ns.length - i)).all fun j => decide (ns.getD j 0 ≠ 0)
def shapeB (p : Pg) : Bool := if p.leaf then decide (p.vals.length = p.keys.length) && decide (p.kids.length = 0) else decide (p.vals.length = 0) && decide (p.kids.length = p.keys.length + 1)
def goodB (p : Pg) : Bool := keysFrom p.keys 0 && (valsFrom p.vals 0 && (kidsFrom p.kids 0 && shapeB p))
theorem all_end {f : Nat → Bool} {n i : Nat} (h : n ≤ i) : (List.range' i (n - i)).all f = true := by
  rw [show n - i = 0 by omega]; rfl
theorem all_step {f : Nat → Bool} {n i : Nat} (h : i < n) : (List.range' i (n - i)).all f = (f i && (List.range' (i + 1) (n - (i + 1))).all f) := by
  rw [show n - i = (n - (i + 1)) + 1 by omega, List.range'_succ]; rfl
/-- How many keys at the beginning are at most a key. -/
def placeN (ks : List ByteArray) (key : ByteArray) : Nat := (ks.takeWhile fun k => !lessB key k).length

/-- One round that makes one call. -/
theorem evGo1 {α β : Type} {G f : Nat → Option β} {g : Nat → Option α} {a : α} {r : β} (h : Ev g a) (k : Ev f r) (e : ∀ n, g n = some a → G (n + 1) = f n) : Ev G r := by
  obtain ⟨K, h⟩ := h
  obtain ⟨K', k⟩ := k
  refine ⟨max K K' + 1, fun n hn => ?_⟩
  obtain ⟨m, rfl⟩ : ∃ m, n = m + 1 := ⟨n - 1, by omega⟩
  rw [e m (h m (by omega))]
  exact k m (by omega)
/-- One round that makes two calls. -/
theorem evGo2 {α α' β : Type} {G f : Nat → Option β} {g : Nat → Option α} {g' : Nat → Option α'} {a : α} {a' : α'} {r : β} (h : Ev g a) (h' : Ev g' a') (k : Ev f r) (e : ∀ n, g n = some a → g' n = some a' → G (n + 1) = f n) : Ev G r := by
  obtain ⟨K0, h'⟩ := h'
  obtain ⟨K, h⟩ := h
  obtain ⟨K', k⟩ := k
  refine ⟨max K0 (max K K') + 1, fun n hn => ?_⟩
  obtain ⟨m, rfl⟩ : ∃ m, n = m + 1 := ⟨n - 1, by omega⟩
  rw [e m (h m (by omega)) (h' m (by omega))]
  exact k m (by omega)
/-- A call, no round of its own. -/
theorem evCall {α β : Type} {G f : Nat → Option β} {g : Nat → Option α} {a : α} {r : β} (h : Ev g a) (k : Ev f r) (e : ∀ n, g n = some a → G n = f n) : Ev G r := by
  obtain ⟨K, h⟩ := h
  obtain ⟨K', k⟩ := k
  refine ⟨max K K', fun n hn => ?_⟩
  rw [e n (h n (by omega))]
  exact k n (by omega)
end Go.Proofs.Ytlbikfamjogpnaa
end

/- The words for memory of Base0, with the walk's laws that stand beside the common ones. No program here. Conditions: none. -/
section

end

/- A disk as a plain Lean value, and where it lies in memory. No program here. Conditions: none. -/
section
namespace Go.Proofs.Ytlbikfamjogpnaa
open Go.RowKit

structure Dk where
  S : List (List UInt8)
  off : Bool
  cut : Int
  odd : Bool
  writes : Int
  lives : Int

def zeros64 : List UInt8 := List.replicate 64 0
def pad (b : List UInt8) : List UInt8 := b ++ List.replicate (64 - b.length) 0
/-- Why a call may not be. -/
def Dk.may (d : Dk) (sector size : Int) : Int :=
  if sector < 0 ∨ (d.S.length : Int) ≤ sector ∨ 64 < size then 1 else if d.off = true then 4 else 0

def Dk.put (d : Dk) (sector : Int) (b : List UInt8) : Dk := { d with S := d.S.set sector.toNat (pad b) }
def Dk.cutOff (d : Dk) : Dk := { d with cut := 0, off := true }
def Dk.counted (d : Dk) : Dk := { d with writes := wrap64 (d.writes + 1) }
def Dk.less (d : Dk) : Dk := { d with cut := d.cut - 1 }

/-- A write: the disk behind it, and what it answers. -/
def Dk.write (d : Dk) (sector : Int) (b : List UInt8) : Dk × Int :=
  if d.may sector b.length = 0 then
    if 0 < d.cut then
      if d.cut = 1 then (if d.odd = true then (d.cutOff.put sector b, 4) else (d.cutOff, 4))
      else ((d.less.put sector b).counted, 0)
    else ((d.put sector b).counted, 0)
  else (d, d.may sector b.length)

def Dk.on (d : Dk) : Dk := { d with off := false, cut := 0, lives := wrap64 (d.lives + 1) }
def Dk.new (n : Nat) : Dk := { S := List.replicate n zeros64, off := false, cut := 0, odd := false, writes := 0, lives := 1 }

/-- A sector's slice: nil, or 64 bytes. -/
def SecAt (w : World) (v : Value) (s : List UInt8) : Prop :=
  s.length = 64 ∧ ((v = .slice none 0 0 ∧ s = zeros64) ∨ ∃ g, v = .slice (some ⟨g, 0, none⟩) 64 64 ∧ Blk w g 5 (s.map byt).toArray)

/-- The disk's struct lies in block b, its sectors' slices in block a. -/
def DiskAt (w : World) (b a : Nat) (d : Dk) : Prop :=
  ∃ (c : Nat) (arr : Array Value),
    Blk w b 95 #[.slice (some ⟨a, 0, none⟩) d.S.length c, .bool d.off, .int .i64 d.cut, .bool d.odd, .int .i64 d.writes, .int .i64 d.lives] ∧
    Blk w a 36 arr ∧ arr.size = c ∧ d.S.length ≤ c ∧ c ≤ maxLen ∧ 1 ≤ d.S.length ∧ d.S.length ≤ 4096 ∧ 0 ≤ d.cut ∧ d.cut ≤ 9223372036854775807 ∧
    ∀ (i : Nat) (s : List UInt8), d.S[i]? = some s → ∃ v, arr[i]? = some v ∧ SecAt w v s

theorem SecAt.keep {w w' : World} {v : Value} {s : List UInt8} (h : SecAt w v s) (hk : ∀ g cs, Blk w g 5 cs → Blk w' g 5 cs) : SecAt w' v s := by
  refine ⟨h.1, ?_⟩
  rcases h.2 with h | ⟨g, hv, hb⟩
  · exact .inl h
  · exact .inr ⟨g, hv, hk g _ hb⟩

theorem DiskAt.keep {w w' : World} {b a : Nat} {d : Dk} (h : DiskAt w b a d) (hb : w'.heap[b]? = w.heap[b]?) (ha : w'.heap[a]? = w.heap[a]?)
    (hk : ∀ g cs, Blk w g 5 cs → Blk w' g 5 cs) : DiskAt w' b a d := by
  obtain ⟨c, arr, h1, h2, h3, h4, h5, h6, h7, h8, h9, h10⟩ := h
  refine ⟨c, arr, hb.trans h1, ha.trans h2, h3, h4, h5, h6, h7, h8, h9, fun i s hs => ?_⟩
  obtain ⟨v, hv, hsec⟩ := h10 i s hs
  exact ⟨v, hv, hsec.keep hk⟩

theorem DiskAt.ne {w : World} {b a : Nat} {d : Dk} (h : DiskAt w b a d) : b ≠ a := by
  obtain ⟨c, arr, h1, h2, _⟩ := h
  exact h1.ne_ h2 (by decide)
theorem DiskAt.ltb {w : World} {b a : Nat} {d : Dk} (h : DiskAt w b a d) : b < w.heap.size := by
  obtain ⟨c, arr, h1, h2, _⟩ := h
  exact h1.lt
theorem DiskAt.lta {w : World} {b a : Nat} {d : Dk} (h : DiskAt w b a d) : a < w.heap.size := by
  obtain ⟨c, arr, h1, h2, _⟩ := h
  exact h2.lt
theorem DiskAt.below {w w' : World} {b a : Nat} {d : Dk} (h : DiskAt w b a d) (hb : Below w.heap.size w w') : DiskAt w' b a d :=
  h.keep (hb.block b h.ltb) (hb.block a h.lta) (fun _ _ hg => hg.below hb hg.lt)

/-- All blocks but those of S are as they were; the streams too. -/
structure DKept (S : Nat → Prop) (w w' : World) : Prop where
  os : w'.os = w.os
  tape : w'.tape = w.tape
  output : w'.output = w.output
  size : w.heap.size ≤ w'.heap.size
  block : ∀ k, k < w.heap.size → ¬ S k → w'.heap[k]? = w.heap[k]?

section
variable {S T : Nat → Prop} {w w' w'' : World}
theorem DKept.refl : DKept S w w := ⟨rfl, rfl, rfl, Nat.le_refl _, fun _ _ _ => rfl⟩
theorem DKept.of_below (h : Below w.heap.size w w') : DKept S w w' := ⟨h.os, h.tape, h.output, h.size, fun k hk _ => h.block k hk⟩
theorem DKept.trans (h : DKept S w w') (k : DKept T w' w'') (hT : ∀ i, i < w.heap.size → T i → S i) : DKept S w w'' :=
  ⟨k.os.trans h.os, k.tape.trans h.tape, k.output.trans h.output, Nat.le_trans h.size k.size,
    fun i hi hn => (k.block i (Nat.lt_of_lt_of_le hi h.size) (fun ht => hn (hT i hi ht))).trans (h.block i hi hn)⟩
theorem DKept.below {B : Nat} (h : DKept S w w') (hB : B ≤ w.heap.size) (hS : ∀ i, S i → B ≤ i) : Below B w w' :=
  ⟨h.os, h.tape, h.output, h.size, fun k hk => h.block k (Nat.lt_of_lt_of_le hk hB) (fun hs => by have := hS k hs; omega)⟩
theorem DKept.blk {g : Nat} {t : TypeId} {cs : Array Value} (h : DKept S w w') (hg : Blk w g t cs) (hn : ¬ S g) : Blk w' g t cs := (h.block g hg.lt hn).trans hg
theorem DKept.setCell {p : Addr} {u : Value} (h : DKept S w w') (hp : S p.block ∨ w.heap.size ≤ p.block) : DKept S w (w'.setCell p u) :=
  ⟨h.os, h.tape, h.output, by simpa [World.setCell] using h.size, fun k hk hn => (Below.heap_setCell _ _ _ _ (by
    rintro rfl
    rcases hp with hp | hp
    · exact hn hp
    · omega)).trans (h.block k hk hn)⟩
theorem DKept.set {b i : Nat} {u : Value} (h : DKept S w w') (hp : S b) : DKept S w (w'.setCell ⟨b, i, none⟩ u) := h.setCell (.inl hp)
theorem DKept.alloc (h : DKept S w w') (o : Obj) : DKept S w (w'.alloc o) :=
  ⟨h.os, h.tape, h.output, Nat.le_trans h.size (by simp), fun k hk hn => (Below.heap_alloc _ _ _ (Nat.lt_of_lt_of_le hk h.size)).trans (h.block k hk hn)⟩
theorem DKept.grown {row : Option Nat} (h : DKept S w w') (hg : w'.grownBy w'' row) (hr : ∀ k, row = some k → S k ∨ w.heap.size ≤ k) : DKept S w w'' :=
  ⟨hg.os.trans h.os, hg.tape.trans h.tape, hg.output.trans h.output, Nat.le_trans h.size hg.size, fun k hk hn => (hg.block k (Nat.lt_of_lt_of_le hk h.size) (fun e => by
    rcases hr k e.symm with h1 | h1
    · exact hn h1
    · omega)).trans (h.block k hk hn)⟩
theorem DKept.drew (h : DKept S w w') : DKept S w w'.drew := ⟨h.os, h.tape, h.output, h.size, h.block⟩
end

/-- The two blocks of a disk. -/
abbrev DS (b a : Nat) : Nat → Prop := fun k => k = b ∨ k = a

/-- A block of bytes is none of a disk's own two. -/
theorem DiskAt.apart {w : World} {b a g : Nat} {d : Dk} {cs : Array Value} (h : DiskAt w b a d) (hg : Blk w g 5 cs) : ¬ DS b a g := by
  obtain ⟨c, arr, hb, ha, _⟩ := h
  rintro (e | e)
  · subst e; exact hg.ne_ hb (by decide) rfl
  · subst e; exact hg.ne_ ha (by decide) rfl

/-- Another disk keeps as it is while one is written. -/
theorem DiskAt.other {w w' : World} {b a b' a' : Nat} {d d' : Dk} (h : DiskAt w b a d) (h' : DiskAt w b' a' d') (hk : DKept (DS b' a') w w') (hb : b ≠ b') (ha : a ≠ a') : DiskAt w' b a d := by
  have nb : ¬ DS b' a' b := by
    obtain ⟨c, arr, hb1, ha1, _⟩ := h
    obtain ⟨c', arr', hb2, ha2, _⟩ := h'
    rintro (e | e)
    · exact hb e
    · subst e; exact hb1.ne_ ha2 (by decide) rfl
  have na : ¬ DS b' a' a := by
    obtain ⟨c, arr, hb1, ha1, _⟩ := h
    obtain ⟨c', arr', hb2, ha2, _⟩ := h'
    rintro (e | e)
    · subst e; exact ha1.ne_ hb2 (by decide) rfl
    · exact ha e
  exact h.keep (hk.block b h.ltb nb) (hk.block a h.lta na) (fun g cs hg => hk.blk hg (h'.apart hg))

/-- A sector is written, and the struct. -/
theorem DiskAt.put {w w' : World} {b a : Nat} {d : Dk} (h : DiskAt w b a d) (k g : Nat) (s : List UInt8) (d' : Dk) (hS : d'.S = d.S.set k s) (h0 : 0 ≤ d'.cut) (h1 : d'.cut ≤ 9223372036854775807)
    (hs : s.length = 64)
    (hb : ∀ s0 : Value, Blk w b 95 #[s0, .bool d.off, .int .i64 d.cut, .bool d.odd, .int .i64 d.writes, .int .i64 d.lives] →
      Blk w' b 95 #[s0, .bool d'.off, .int .i64 d'.cut, .bool d'.odd, .int .i64 d'.writes, .int .i64 d'.lives])
    (ha : ∀ arr, Blk w a 36 arr → Blk w' a 36 (arr.setIfInBounds k (.slice (some ⟨g, 0, none⟩) 64 64))) (hg : Blk w' g 5 (s.map byt).toArray)
    (hk : DKept (fun k => k = b ∨ k = a) w w') : DiskAt w' b a d' := by
  obtain ⟨c, arr, hb0, ha0, h3, h4, h5, h6, h7, h8, h9, h10⟩ := h
  have hl : d'.S.length = d.S.length := by rw [hS]; simp
  refine ⟨c, _, by rw [hl]; exact hb _ hb0, ha _ ha0, by simpa using h3, by rw [hl]; exact h4, h5, by rw [hl]; exact h6, by rw [hl]; exact h7, h0, h1, fun i s' hs' => ?_⟩
  by_cases e : k = i
  · subst e
    have hlt : k < d'.S.length := (List.getElem?_eq_some_iff.1 hs').1
    have e' : s' = s := by
      rw [hS, List.getElem?_set_self (by omega)] at hs'
      exact (Option.some.inj hs').symm
    subst e'
    exact ⟨.slice (some ⟨g, 0, none⟩) 64 64, by rw [Array.getElem?_setIfInBounds_self_of_lt (by omega)], hs, .inr ⟨g, rfl, hg⟩⟩
  · rw [hS, List.getElem?_set_ne e] at hs'
    obtain ⟨v, hv, hsec⟩ := h10 i s' hs'
    refine ⟨v, by rw [Array.getElem?_setIfInBounds_ne e]; exact hv, hsec.keep fun g cs hg => hk.blk hg ?_⟩
    rintro (e | e)
    · subst e; exact hg.ne_ hb0 (by decide) rfl
    · subst e; exact hg.ne_ ha0 (by decide) rfl

/-- A slice of bytes that can be read; nil let in. -/
def Bts (w : World) (A : Option Addr) (n c : Nat) (l : List UInt8) : Prop :=
  (A = none → n = 0 ∧ c = 0) ∧ Reads w w.heap.size 1 A n (l.map byt) ∧ n ≤ c ∧ c ≤ maxLen ∧ l.length = n

/-- A slice of bytes that lies below block B0. -/
def BtsB (w : World) (B0 : Nat) (A : Option Addr) (n c : Nat) (l : List UInt8) : Prop :=
  (A = none → n = 0 ∧ c = 0) ∧ Reads w B0 1 A n (l.map byt) ∧ n ≤ c ∧ c ≤ maxLen ∧ l.length = n
theorem BtsB.bts {w : World} {B0 n c : Nat} {A : Option Addr} {l : List UInt8} (h : BtsB w B0 A n c l) (hB : B0 ≤ w.heap.size) : Bts w A n c l := ⟨h.1, h.2.1.more hB, h.2.2⟩
theorem BtsB.below {w w' : World} {B0 n c : Nat} {A : Option Addr} {l : List UInt8} (h : BtsB w B0 A n c l) (hb : Below B0 w w') : BtsB w' B0 A n c l := ⟨h.1, h.2.1.below hb, h.2.2⟩

/-- An owned row of bytes is a slice of bytes. -/
theorem own_bts {w : World} {base n c : Nat} {A : Option Addr} {l : List UInt8} (h : w.ownsRow base 5 1 (.slice A n c) n (l.map byt)) : Bts w A n c l := by
  have hr := Reads.of_own h
  have hl : l.length = n := by have := h.1; simpa using this
  rcases h.2 with ⟨hv, hn⟩ | ⟨g, cap, cur, hv, _, _, h1, h2, _⟩
  · simp only [Value.slice.injEq] at hv
    obtain ⟨rfl, _, rfl⟩ := hv
    exact ⟨fun _ => ⟨hn, rfl⟩, hr, by omega, Nat.zero_le _, hl⟩
  · simp only [Value.slice.injEq] at hv
    obtain ⟨rfl, _, rfl⟩ := hv
    exact ⟨(fun h => by cases h), hr, h1, h2, hl⟩

end Go.Proofs.Ytlbikfamjogpnaa
end

/- slices.Clone at []byte: what it hands back holds the bytes of what came in, in new memory; nothing else turns. Conditions: the slice can be read, and fits the reach. -/
section
namespace Go.Proofs.Ytlbikfamjogpnaa
open Go.RowKit

theorem info_u8 : (Try.prog.info? 5).map (fun i => (i.zero, i.size, i.bytes)) = some (some (.int .u8 0), 1, 1) := by kernel_rfl

set_option maxHeartbeats 400000 in
theorem clone_bytes_some (ad : Addr) (n c : Nat) (xs : List Value) (w : World) (hr : Reads w w.heap.size 1 (some ad) n xs) (h1 : ∀ u ∈ xs, u.oneCell' = true) (hn : n ≤ 140737488355328) :
    Calls Try.prog 94 #[.slice (some ad) n c] w fun e w' => ∃ v, e = .returned v ∧ w'.ownsRow w.heap.size 5 1 v n xs ∧ Below w.heap.size w w' ∧ (∃ g c, v = .slice (some ⟨g, 0, none⟩) n c) := by
  obtain ⟨i0, hi0, hz0, hz1, hz2⟩ := info_parts info_u8
  have q := fun (w : World) => Lib.run_eql_slice_nil (P := Try.prog) w 36 5 (some ad) n c 0 0 Try.underlying36
  go_enter Try.func94, Try.ntmps94
  go_wp2_with (at_builtin; refine wpList_append_any _ rfl (.tmp 5) (.tmp 6) _ rfl w.heap.size 5 i0 _ 1 1 Try.underlying36 hi0 hz0 hz1 hz2 rfl (by omega) (.slice (some ⟨w.heap.size, 0, none⟩) 0 0) 0 [] rfl (World.ownsRow_lit w #[] 0 (Nat.le_refl _) (by unfold maxLen; omega) rfl) w.heap.size (some ad) n c xs rfl (hr.alloc (Nat.le_refl _) _) h1 (by simp only [maxLen]; omega) (by omega) (by simp) ?_; intro v1 w1 hown1 hg1 hat1)
  go_ret
  refine ⟨v1, rfl, by simpa using hown1, ((Below.refl _ _).alloc (Nat.le_refl _) _).grown hg1 (by simp) (fun k hk => by simp [Value.ownBlock] at hk; omega), ?_⟩
  have hown1 : w1.ownsRow w.heap.size 5 1 v1 n xs := by simpa using hown1
  rcases hat1 with e | e
  · obtain ⟨c', hv, _⟩ := own_form hown1 (k := w.heap.size) (by rw [e]; rfl)
    exact ⟨_, c', hv⟩
  · obtain ⟨c', hv, _⟩ := own_form hown1 e
    exact ⟨_, c', hv⟩

theorem clone_bytes_nil (w : World) :
    Calls Try.prog 94 #[.slice none 0 0] w fun e w' => e = .returned (.slice none 0 0) ∧ w = w' := by
  have q := fun (w : World) => Lib.run_eql_slice_nil (P := Try.prog) w 36 5 none 0 0 0 0 Try.underlying36
  go_enter Try.func94, Try.ntmps94
  go_wp2
  go_ret
  exact ⟨rfl, rfl⟩
end Go.Proofs.Ytlbikfamjogpnaa
end

/- pack's writers: what each hands back. Conditions: the slice can be read. -/
section
namespace Go.Proofs.Ytlbikfamjogpnaa
open Go.RowKit

/-- What a writer hands back: the bytes r, in new memory. -/
def Put (w : World) (r : List UInt8) (e : Ending) (w' : World) : Prop :=
  ∃ g c, e = .returned (.slice (some ⟨g, 0, none⟩) r.length c) ∧ w'.ownsRow w.heap.size 5 1 (.slice (some ⟨g, 0, none⟩) r.length c) r.length (r.map byt) ∧ Below w.heap.size w w'

theorem clone_any {w : World} {A : Option Addr} {n c : Nat} {l : List UInt8} (h : Bts w A n c l) (hn : n ≤ 140737488355328) :
    Calls Try.prog 94 #[.slice A n c] w fun e w' => ∃ v, e = .returned v ∧ w'.ownsRow w.heap.size 5 1 v l.length (l.map byt) ∧ Below w.heap.size w w' := by
  obtain ⟨h0, hr, _, _, hl⟩ := h
  subst hl
  cases A with
  | none =>
    obtain ⟨h1, rfl⟩ := h0 rfl
    obtain rfl : l = [] := List.eq_nil_of_length_eq_zero h1
    exact (clone_bytes_nil w).mono fun e w' ⟨he, hw⟩ => by subst hw; exact ⟨_, he, World.ownsRow_nil _ _ _ _, Below.refl _ _⟩
  | some ad => exact (clone_bytes_some ad _ c _ w hr (byt_one l) hn).mono fun e w' ⟨v, he, ho, hb, _⟩ => ⟨v, he, ho, hb⟩

theorem and127 (u : Nat) (h : u < 18446744073709551616) : bits .and .u64 (u : Int) 127 = (u : Int) % 128 := by
  have := bits_and_u64_nat u 127 h (by omega)
  rw [nat_mask7] at this
  simpa using this
theorem or128 (u : Nat) : bits .or .u64 ((u : Int) % 128) 128 = (u : Int) % 128 + 128 := by
  have h1 : u % 128 < 128 := by omega
  have := bits_or_u64_nat (u % 128) 128 (by omega) (by omega)
  have e : u % 128 ||| 128 = u % 128 + 128 := by rw [Nat.or_comm, nat_join 7 128 (u % 128) (by omega) (by omega)]; omega
  rw [e] at this
  simpa using this

end Go.Proofs.Ytlbikfamjogpnaa
end

/- Laws of slices of bytes that every later text wants: as a string, as a block, nil, below. Conditions: none. -/
section
namespace Go.Proofs.Ytlbikfamjogpnaa
open Go.RowKit

/-- A slice of bytes that can be read, as a string. -/
theorem run_string_of {P : Program} (w : World) (src dst e : TypeId) (hs : P.underlying src = some (.slice e)) (he : P.underlying e = some (.int .u8)) (hd : P.underlying dst = some .string)
    {B n c : Nat} {A : Option Addr} {l : List UInt8} (hr : Reads w B 1 A n (l.map byt)) : (convert src dst (.slice A n c)).run P w = .ok (.string ⟨l.toArray⟩) w := by
  have hln : l.length = n := by have := hr.1; simpa using this
  rcases Nat.eq_zero_or_pos n with h0 | h0
  · subst h0
    obtain rfl : l = [] := List.eq_nil_of_length_eq_zero hln
    rw [run_convert_bytes_string w src dst e A 0 c hs he hd]
    cases A with
    | none => simp [Conv.bytesToString, ByteArray.empty, ByteArray.emptyWithCapacity]; rfl
    | some ad => simp [Conv.bytesToString, ByteArray.empty, ByteArray.emptyWithCapacity, loadCells, loadCellsFrom]; rfl
  · obtain ⟨ad, rfl, _, hx⟩ := hr.2 h0
    have hl : (loadCells ad n).run P w = .ok ((l.map fun b => (b.toNat : Int)).map (Value.int .u8)).toArray w := by
      have := run_loadCells_list (P := P) w ad ((l.map fun b => (b.toNat : Int)).map (Value.int .u8)) (fun j v hj => hx j v (by simpa [byt, Function.comp_def] using hj))
      simpa [hln] using this
    rw [run_convert_bytes_string w src dst e _ n c hs he hd, run_bytesToString w ad n c _ hl, foldl_push_bytes]
    simp [ByteArray.empty, ByteArray.emptyWithCapacity, Function.comp_def]
    rfl

theorem bts_nil (w : World) : Bts w none 0 0 [] := ⟨fun _ => ⟨rfl, rfl⟩, Reads.none_, Nat.le_refl _, Nat.zero_le _, rfl⟩

theorem Bts.below {w w' : World} {A : Option Addr} {n c : Nat} {l : List UInt8} (h : Bts w A n c l) (hb : Below w.heap.size w w') : Bts w' A n c l :=
  (BtsB.below (show BtsB w w.heap.size A n c l from h) hb).bts hb.size
/-- What a law's row tells of an argument of bytes: it is nil, or it leads to a row of cells. -/
def IsRow (k : IntKind) (w : World) (a : Option Addr) (len cap : Nat) (zs : List Int) : Prop :=
  (a = none ∧ len = 0 ∧ cap = 0 ∧ zs = []) ∨
  ∃ x, a = some x ∧ len ≤ cap ∧ cap ≤ maxLen ∧ zs.length = cap ∧ (∀ i, i < zs.length → w.cell? (x.add i) = some (.int k (zs.getD i 0))) ∧ ∀ n ∈ zs, (Lit.int k n).wf = true

theorem IsRow.bts {w : World} {A : Option Addr} {n c : Nat} {zs : List Int} (h : IsRow .u8 w A n c zs) : ∃ l, Bts w A n c l := by
  rcases h with ⟨rfl, rfl, rfl, rfl⟩ | ⟨x, rfl, h1, h2, h3, h4, h5⟩
  · exact ⟨[], bts_nil w⟩
  · have hb : ∀ z ∈ zs, 0 ≤ z ∧ z < 256 := by
      intro z hz
      have := h5 z hz
      simp only [Lit.wf, Bool.and_eq_true, decide_eq_true_eq] at this
      have e1 : IntKind.u8.min = 0 := by decide
      have e2 : IntKind.u8.max = 255 := by decide
      omega
    have e : ((zs.take n).map fun z => UInt8.ofNat z.toNat).map byt = (zs.take n).map (Value.int .u8) := by
      rw [List.map_map]
      refine List.map_congr_left fun z hz => ?_
      have := hb z (List.mem_of_mem_take hz)
      simp only [Function.comp, byt, UInt8.toNat_ofNat']
      congr 1
      omega
    refine ⟨(zs.take n).map fun z => UInt8.ofNat z.toNat, by simp, ⟨by simp; omega, fun hn => ⟨x, rfl, ?_, fun j u hu => ?_⟩⟩, h1, h2, by simp; omega⟩
    · have := h4 0 (by omega)
      have := World.block_lt_of_cell? _ _ this
      rwa [block_of_add] at this
    · rw [e] at hu
      have hj : j < n := by
        have := (List.getElem?_eq_some_iff.1 hu).1
        simp at this
        omega
      rw [h4 j (by omega)]
      simp only [List.getElem?_map, List.getElem?_take, if_pos hj] at hu
      have hjz : j < zs.length := by omega
      rw [List.getElem?_eq_getElem hjz] at hu
      rw [List.getD, List.getElem?_eq_getElem hjz]
      simpa using hu
theorem own_keep {w w' : World} {base n size : Nat} {e : TypeId} {v : Value} {xs : List Value} (h : w.ownsRow base e size v n xs) (hk : ∀ g, v.ownBlock = some g → w'.heap[g]? = w.heap[g]?) : w'.ownsRow base e size v n xs := by
  refine ⟨h.1, ?_⟩
  rcases h.2 with h2 | ⟨g, cap, cur, hv, hg, hh, hnc, r⟩
  · exact .inl h2
  · exact .inr ⟨g, cap, cur, hv, hg, (hk g (by rw [hv]; simp [Value.ownBlock])).trans hh, hnc, r⟩
theorem own_nil_row (w : World) (B : Nat) (e : TypeId) : w.ownsRow B e 1 (.slice none 0 0) 0 [] := ⟨rfl, .inl ⟨rfl, rfl⟩⟩
end Go.Proofs.Ytlbikfamjogpnaa
end

/- pack's reader: what each call answers, and what it leaves. Conditions: the reader lies in memory as RdAt says. -/
section
namespace Go.Proofs.Ytlbikfamjogpnaa
open Go.RowKit

/-- A reader's struct (of type t) lies in block p: what is left, and whether it is bad. -/
def RdAt (t : TypeId) (w : World) (p : Nat) (l : List UInt8) (bad : Bool) : Prop :=
  ∃ A n c, Blk w p t #[.slice A n c, .bool bad] ∧ BtsB w p A n c l

theorem BtsB.kept {w w' : World} {S : Nat → Prop} {B0 n c : Nat} {A : Option Addr} {l : List UInt8} (h : BtsB w B0 A n c l) (hB : B0 ≤ w.heap.size) (hk : DKept S w w') (hS : ∀ i, S i → B0 ≤ i) : BtsB w' B0 A n c l :=
  h.below (hk.below hB hS)
theorem RdAt.kept {t : TypeId} {w w' : World} {S : Nat → Prop} {p : Nat} {l : List UInt8} {bad : Bool} (h : RdAt t w p l bad) (hk : DKept S w w') (hS : ∀ i, S i → p < i) : RdAt t w' p l bad := by
  obtain ⟨A, n, c, hb, hl⟩ := h
  exact ⟨A, n, c, hk.blk hb (fun h => by have := hS _ h; omega), hl.kept (Nat.le_of_lt hb.lt) hk (fun i hi => Nat.le_of_lt (hS i hi))⟩
theorem RdAt.below {t : TypeId} {w w' : World} {p : Nat} {l : List UInt8} {bad : Bool} (h : RdAt t w p l bad) (hb : Below w.heap.size w w') : RdAt t w' p l bad := by
  obtain ⟨A, n, c, hb1, hl⟩ := h
  exact ⟨A, n, c, hb1.below hb hb1.lt, hl.below (hb.mono (Nat.le_of_lt hb1.lt))⟩

/-- One number read: the number, what is left, whether the reader is bad. -/
def rdNum (l : List UInt8) (bad : Bool) : Nat × List UInt8 × Bool :=
  match rdU 0 0 l with
  | some (u, r) => (u, r, bad)
  | none => (0, [], true)

theorem rd_bits (acc x j : Nat) (h1 : acc < 2 ^ (7 * j)) (hj : j ≤ 9) (hx : x < 256) (h9 : j = 9 → x ≤ 1) :
    bits .or .u64 (acc : Int) (IntKind.u64.wrap (IntKind.u64.wrap (bits .and .u8 (x : Int) 127) * 2 ^ (7 * j))) = ((acc + x % 128 * 2 ^ (7 * j) : Nat) : Int) ∧ acc + x % 128 * 2 ^ (7 * j) < 18446744073709551616 ∧ (j < 9 → acc + x % 128 * 2 ^ (7 * j) < 2 ^ (7 * (j + 1))) := by
  have ea : bits .and .u8 (x : Int) 127 = ((x % 128 : Nat) : Int) := by
    have := u8_and_nat x 127 hx (by omega)
    rw [nat_mask7] at this
    exact this
  have hp : 0 < 2 ^ (7 * j) := Nat.pow_pos (by omega)
  have hlt : acc + x % 128 * 2 ^ (7 * j) < 128 * 2 ^ (7 * j) := by
    have : x % 128 * 2 ^ (7 * j) ≤ 127 * 2 ^ (7 * j) := Nat.mul_le_mul_right _ (by omega)
    omega
  have e7 : 2 ^ (7 * (j + 1)) = 128 * 2 ^ (7 * j) := by rw [show 7 * (j + 1) = 7 + 7 * j by omega, Nat.pow_add]
  have h64 : acc + x % 128 * 2 ^ (7 * j) < 18446744073709551616 := by
    by_cases e : j = 9
    · subst e
      have : x % 128 ≤ 1 := by have := h9 rfl; omega
      have : x % 128 * 2 ^ (7 * 9) ≤ 1 * 2 ^ (7 * 9) := Nat.mul_le_mul_right _ this
      omega
    · have : 2 ^ (7 * (j + 1)) ≤ 2 ^ 63 := Nat.pow_le_pow_right (by omega) (by omega)
      omega
  refine ⟨?_, h64, fun _ => by omega⟩
  have ew : IntKind.u64.wrap (IntKind.u64.wrap (bits .and .u8 (x : Int) 127) * 2 ^ (7 * j)) = ((x % 128 * 2 ^ (7 * j) : Nat) : Int) := by
    rw [ea, IntKind.wrap_u64, IntKind.wrap_u64]
    have e1 : (((x % 128 : Nat) : Int) % 18446744073709551616) = ((x % 128 : Nat) : Int) := by omega
    rw [e1, show ((2 : Int) ^ (7 * j)) = ((2 ^ (7 * j) : Nat) : Int) by simp, ← Int.natCast_mul]
    omega
  rw [ew, bits_or_u64_nat _ _ (by omega) (by omega)]
  congr 1
  rw [Nat.or_comm, nat_join (7 * j) _ _ (by rw [Nat.mul_mod_left]) h1, Nat.add_comm]

theorem ret_int {k : IntKind} {a b : Int} (h : a = b) : Ending.returned (.int k a) = .returned (.int k b) := by rw [h]

section
variable {w : World} {p : Nat} {l : List UInt8} {bad : Bool}

/-- The reader cut behind a number. -/
theorem rd_cut {t : TypeId} {A : Option Addr} {n c k : Nat} {bad : Bool} (hb : Blk w p t #[.slice A n c, .bool bad]) (h0 : A = none → n = 0 ∧ c = 0) (hr : Reads w p 1 A n (l.map byt)) (hnc : n ≤ c) (hc : c ≤ maxLen) (hl : l.length = n) (hk : k ≤ n)
    {A' : Option Addr} (hA : A' = if c = k then A else A.map (·.add k)) : RdAt t (w.setCell ⟨p, 0, none⟩ (.slice A' (n - k) (c - k))) p (l.drop k) bad := by
  refine ⟨A', n - k, c - k, by have := hb.set_ 0 (.slice A' (n - k) (c - k)); simpa using this, ?_, ?_, by omega, by omega, by rw [List.length_drop, hl]⟩
  · intro h
    rw [hA] at h
    split at h
    · have := h0 h; omega
    · cases A with
      | none => have := h0 rfl; omega
      | some a => simp at h
  · have := (hr.cut (k := k) (cap := c) hk hnc).setCell (p := ⟨p, 0, none⟩) (Nat.le_refl _) (.slice A' (n - k) (c - k))
    rw [Nat.mul_one, ← hA, ← List.map_drop] at this
    exact this

theorem rd_cells {t : TypeId} {v0 v1 : Value} (h : Blk w p t #[v0, v1]) : w.cell? ⟨p, 0, none⟩ = some v0 ∧ w.cell? ⟨p, 1, none⟩ = some v1 := ⟨(h.cell 0).trans rfl, (h.cell 1).trans rfl⟩

theorem left_any (h : RdAt 149 w p l bad) :
    Calls Try.prog 75 #[.pointer (some ⟨p, 0, none⟩)] w fun e w' => e = .returned (.int .i64 l.length) ∧ w = w' := by
  obtain ⟨A, n, c, hb, hl⟩ := h
  obtain ⟨c0, c1⟩ := rd_cells hb
  have hn := hl.2.2.2.2
  have h1 := hl.2.2.1
  have h2 := hl.2.2.2.1
  unfold maxLen at h2
  clear hb hl
  subst hn
  go_enter Try.func75, Try.ntmps75
  go_wp2
  go_ret
  exact ⟨rfl, rfl⟩

theorem bad_any (h : RdAt 149 w p l bad) :
    Calls Try.prog 74 #[.pointer (some ⟨p, 0, none⟩)] w fun e w' => e = .returned (.bool bad) ∧ w = w' := by
  obtain ⟨A, n, c, hb, hl⟩ := h
  obtain ⟨c0, c1⟩ := rd_cells hb
  clear hb hl
  go_enter Try.func74, Try.ntmps74
  go_wp2
  go_ret
  exact ⟨rfl, rfl⟩

theorem spoil_any (h : RdAt 149 w p l bad) :
    Calls Try.prog 102 #[.pointer (some ⟨p, 0, none⟩)] w fun e w' => e = .returned (.tuple #[]) ∧ RdAt 149 w' p [] true ∧ DKept (fun k => k = p) w w' := by
  obtain ⟨A, n, c, hb, hl⟩ := h
  obtain ⟨c0, c1⟩ := rd_cells hb
  have f0 := hb.frozen 0
  have f1 := hb.frozen 1
  have HB := Lib.hid hb
  clear hb hl
  go_enter Try.func102, Try.ntmps102
  go_wp2
  go_end0
  refine ⟨rfl, ⟨none, 0, 0, ?_, fun _ => ⟨rfl, rfl⟩, Reads.none_, Nat.le_refl _, Nat.zero_le _, rfl⟩, DKept.set (DKept.set DKept.refl (by exact rfl)) (by exact rfl)⟩
  have := (HB.out.set_ 0 (.slice none 0 0)).set_ 1 (.bool true)
  simpa using this

set_option maxRecDepth 100000 in
set_option maxHeartbeats 4000000 in
set_option maxRecDepth 100000 in
theorem readU_any (h : RdAt 149 w p l bad) :
    Calls Try.prog 72 #[.pointer (some ⟨p, 0, none⟩)] w fun e w' => e = .returned (.int .u64 (rdNum l bad).1) ∧ RdAt 149 w' p (rdNum l bad).2.1 (rdNum l bad).2.2 ∧ DKept (fun k => k = p) w w' := by
  have C := Lib.hid (spoil_any h)
  obtain ⟨A, n, c, hb, h0, hrd, hnc, hcm, hln⟩ := h
  obtain ⟨c0, c1⟩ := rd_cells hb
  have f0 := hb.frozen 0
  have HB := Lib.hid hb
  have HL := Lib.hid hln
  clear hb hln
  unfold maxLen at hcm
  go_enter Try.func72, Try.ntmps72
  go_wp2_with fail
  go_loopg [3, 11] 10 (fun k uv iv wr => ∃ (j acc : Nat), j + k = 10 ∧ j ≤ n ∧ j ≤ 9 ∧ acc < 2 ^ (7 * j) ∧ iv = .int .i64 (j : Int) ∧ uv = .int .u64 (acc : Int) ∧ Hid (rdU 0 0 l = rdU j acc (l.drop j)) ∧ w = wr)
  case atStart => exact ⟨0, 0, rfl, by omega, by omega, by simp, rfl, rfl, rfl, rfl⟩
  case round =>
    obtain ⟨j, acc, hj, hjn, hj9, hacc, rfl, rfl, HR, rfl⟩ := hrel
    have HJ := Lib.hid hj
    have HACC := Lib.hid hacc
    clear hj hacc
    by_cases hlt : j < n
    · obtain ⟨ad, u, rfl, _, hx, hcell⟩ := hrd.at_ hlt
      have hjl : j < l.length := by rw [HL.out]; exact hlt
      have hxb : u = byt l[j] := by simpa [hjl] using hx.symm
      subst hxb
      have hdrop : l.drop j = l[j] :: l.drop (j + 1) := List.drop_eq_getElem_cons hjl
      generalize l[j] = x at *
      unfold byt at hcell
      have hx256 := x.toNat_lt
      have HX := Lib.hid hx
      have HD := Lib.hid hdrop
      clear hx hdrop
      by_cases e1 : j = 9 ∧ 1 < x.toNat
      · have g9 : ((j : Int) == 9) = true := beq_iff_eq.2 (by omega)
        have g1 : 1 < (x.toNat : Int) := by omega
        have hv : rdNum l bad = (0, [], true) := by
          have := HR.out
          rw [HD.out, rdU, if_pos e1] at this
          simp [rdNum, this]
        have HV := Lib.hid hv
        clear hv e1
        go_wp2_with fail
        refine C.out.mono ?_
        rintro e w2 ⟨rfl, hr2, hk2⟩
        go_wp2
        go_ret
        rw [HV.out]
        exact ⟨rfl, hr2, hk2⟩
      · obtain ⟨hbits, h64, hnext⟩ := rd_bits acc x.toNat j HACC.out hj9 hx256 (by omega)
        have HBITS := Lib.hid hbits
        have HN := Lib.hid hnext
        have HE1 := Lib.hid e1
        clear hbits hnext
        by_cases e2 : 128 ≤ x.toNat
        · have g9 : ((j : Int) == 9) = false := beq_eq_false_iff_ne.2 (by omega)
          have g2 : 128 ≤ (x.toNat : Int) := by omega
          have hv : rdU 0 0 l = rdU (j + 1) (acc + x.toNat % 128 * 2 ^ (7 * j)) (l.drop (j + 1)) := by
            have := HR.out
            rw [HD.out, rdU, if_neg e1, if_pos e2] at this
            exact this
          have HV := Lib.hid hv
          clear hv e1 e2
          go_wp2_with fail
          go_roundg (9 - j)
          case measure => have := HJ.out; omega
          case rel => exact ⟨j + 1, acc + x.toNat % 128 * 2 ^ (7 * j), by have := HJ.out; omega, by omega, by have := HE1.out; omega, HN.out (by have := HE1.out; omega), by go_num, by rw [HBITS.out], HV.out, rfl⟩
        · have g2 : (x.toNat : Int) < 128 := by omega
          have hd : ((j : Int) == 9) = true ∧ (x.toNat : Int) ≤ 1 ∨ ((j : Int) == 9) = false := by
            by_cases e : j = 9
            · exact .inl ⟨beq_iff_eq.2 (by omega), by omega⟩
            · exact .inr (beq_eq_false_iff_ne.2 (by omega))
          by_cases e3 : x.toNat = 0 ∧ 0 < j
          · have hv : rdNum l bad = (0, [], true) := by
              have := HR.out
              rw [HD.out, rdU, if_neg e1, if_neg e2, if_pos e3] at this
              simp [rdNum, this]
            have HV := Lib.hid hv
            have g0 : ((x.toNat : Int) == 0) = true := beq_iff_eq.2 (by omega)
            have gj : 0 < (j : Int) := by omega
            clear hv e1 e2 e3 HR
            rcases hd with ⟨g9, g1⟩ | g9
            all_goals
              go_wp2_with fail
              refine C.out.mono ?_
              rintro e w2 ⟨rfl, hr2, hk2⟩
              go_wp2
              go_ret
              rw [HV.out]
              exact ⟨rfl, hr2, hk2⟩
          · have hv : rdNum l bad = (acc + x.toNat % 128 * 2 ^ (7 * j), l.drop (j + 1), bad) := by
              have := HR.out
              rw [HD.out, rdU, if_neg e1, if_neg e2, if_neg e3] at this
              simp [rdNum, this]
            have HV := Lib.hid hv
            have hd2 : ((x.toNat : Int) == 0) = true ∧ ¬ 0 < (j : Int) ∨ ((x.toNat : Int) == 0) = false := by
              by_cases e : x.toNat = 0
              · exact .inl ⟨beq_iff_eq.2 (by omega), by omega⟩
              · exact .inr (beq_eq_false_iff_ne.2 (by omega))
            have hcut : ∀ A', A' = (if c = j + 1 then some ad else (some ad).map (·.add (j + 1))) → RdAt 149 (w.setCell ⟨p, 0, none⟩ (.slice A' (n - (j + 1)) (c - (j + 1)))) p (l.drop (j + 1)) bad := fun A' hA => rd_cut HB.out h0 hrd hnc (by unfold maxLen; omega) HL.out (by omega) hA
            have HCUT := Lib.hid hcut
            have HP : Hid (((acc + x.toNat % 128 * 2 ^ (7 * j) : Nat) : Int) = ((acc + x.toNat % 128 * 2 ^ (7 * j) : Nat) : Int)) := rfl
            clear hv e1 e2 e3 HR h64 hcut h0 hrd
            rcases hd with ⟨g9, g1⟩ | g9 <;> rcases hd2 with ⟨g0, gj⟩ | g0
            · go_wp2_with fail
              · go_ret
                rw [HV.out]
                have hz := HCUT.out (some ad) (by rw [if_pos ‹c = j + 1›])
                rw [show c - (j + 1) = 0 by omega] at hz
                exact ⟨ret_int HBITS.out, hz, DKept.set DKept.refl (by exact rfl)⟩
              · go_ret
                rw [HV.out]
                have hz := HCUT.out (some ⟨ad.block, ad.off + (j + 1), none⟩) (by rw [if_neg ‹¬ c = j + 1›]; simp [Addr.add])
                exact ⟨ret_int HBITS.out, hz, DKept.set DKept.refl (by exact rfl)⟩
            · go_wp2_with fail
              · go_ret
                rw [HV.out]
                have hz := HCUT.out (some ad) (by rw [if_pos ‹c = j + 1›])
                rw [show c - (j + 1) = 0 by omega] at hz
                exact ⟨ret_int HBITS.out, hz, DKept.set DKept.refl (by exact rfl)⟩
              · go_ret
                rw [HV.out]
                have hz := HCUT.out (some ⟨ad.block, ad.off + (j + 1), none⟩) (by rw [if_neg ‹¬ c = j + 1›]; simp [Addr.add])
                exact ⟨ret_int HBITS.out, hz, DKept.set DKept.refl (by exact rfl)⟩
            · go_wp2_with fail
              · go_ret
                rw [HV.out]
                have hz := HCUT.out (some ad) (by rw [if_pos ‹c = j + 1›])
                rw [show c - (j + 1) = 0 by omega] at hz
                exact ⟨ret_int HBITS.out, hz, DKept.set DKept.refl (by exact rfl)⟩
              · go_ret
                rw [HV.out]
                have hz := HCUT.out (some ⟨ad.block, ad.off + (j + 1), none⟩) (by rw [if_neg ‹¬ c = j + 1›]; simp [Addr.add])
                exact ⟨ret_int HBITS.out, hz, DKept.set DKept.refl (by exact rfl)⟩
            · go_wp2_with fail
              · go_ret
                rw [HV.out]
                have hz := HCUT.out (some ad) (by rw [if_pos ‹c = j + 1›])
                rw [show c - (j + 1) = 0 by omega] at hz
                exact ⟨ret_int HBITS.out, hz, DKept.set DKept.refl (by exact rfl)⟩
              · go_ret
                rw [HV.out]
                have hz := HCUT.out (some ⟨ad.block, ad.off + (j + 1), none⟩) (by rw [if_neg ‹¬ c = j + 1›]; simp [Addr.add])
                exact ⟨ret_int HBITS.out, hz, DKept.set DKept.refl (by exact rfl)⟩
    · have hjn' : j = n := by omega
      have hv : rdNum l bad = (0, [], true) := by
        have := HR.out
        rw [List.drop_eq_nil_of_le (by rw [HL.out]; omega), rdU] at this
        simp [rdNum, this]
      have HV := Lib.hid hv
      clear hv HR hjn'
      go_wp2_with fail
      refine C.out.mono ?_
      rintro e w2 ⟨rfl, hr2, hk2⟩
      go_wp2
      go_ret
      rw [HV.out]
      exact ⟨rfl, hr2, hk2⟩
end
end Go.Proofs.Ytlbikfamjogpnaa
end

/- pack's reader: Read, I, S. Conditions: the reader lies in memory as RdAt says. -/
section
namespace Go.Proofs.Ytlbikfamjogpnaa
open Go.RowKit

def rdInt (l : List UInt8) (bad : Bool) : Int × List UInt8 × Bool := (unzig (rdNum l bad).1, (rdNum l bad).2)
/-- A text read. -/
def rdStr (l : List UInt8) (bad : Bool) : List UInt8 × List UInt8 × Bool :=
  if (rdNum l bad).2.1.length < (rdNum l bad).1 then ([], [], true)
  else ((rdNum l bad).2.1.take (rdNum l bad).1, (rdNum l bad).2.1.drop (rdNum l bad).1, (rdNum l bad).2.2)

theorem rdU_lt (l : List UInt8) : ∀ (i acc u : Nat) (r : List UInt8), i ≤ 9 → acc < 2 ^ (7 * i) → rdU i acc l = some (u, r) → u < 18446744073709551616 := by
  induction l with
  | nil => intro i acc u r _ _ h; simp [rdU] at h
  | cons x l ih =>
    intro i acc u r hi ha h
    rw [rdU] at h
    by_cases e1 : i = 9 ∧ 1 < x.toNat
    · rw [if_pos e1] at h; cases h
    · rw [if_neg e1] at h
      obtain ⟨-, h64, hn⟩ := rd_bits acc x.toNat i ha hi x.toNat_lt (by omega)
      by_cases e2 : 128 ≤ x.toNat
      · rw [if_pos e2] at h
        exact ih _ _ _ _ (by omega) (hn (by omega)) h
      · rw [if_neg e2] at h
        split at h
        · cases h
        · simp only [Option.some.injEq, Prod.mk.injEq] at h
          omega
theorem rdNum_lt (l : List UInt8) (bad : Bool) : (rdNum l bad).1 < 18446744073709551616 := by
  unfold rdNum
  split
  · exact rdU_lt l 0 0 _ _ (by omega) (by simp) ‹_›
  · simp

section
variable {w : World} {p : Nat} {l : List UInt8} {bad : Bool}

set_option maxRecDepth 100000 in
set_option maxHeartbeats 400000 in
theorem read_new {A : Option Addr} {n c : Nat} (h : Bts w A n c l) (hn : n ≤ 140737488355328) :
    Calls Try.prog 71 #[.slice A n c] w fun e w' => ∃ p, e = .returned (.pointer (some ⟨p, 0, none⟩)) ∧ RdAt 149 w' p l false ∧ w.heap.size ≤ p ∧ Below w.heap.size w w' := by
  have C := Lib.hid (clone_any h hn)
  go_enter Try.func71, Try.ntmps71
  go_wp2_with fail
  refine C.out.mono ?_
  rintro e w1 ⟨v, rfl, hown, hbel⟩
  obtain ⟨A1, c1, rfl⟩ := own_shape hown
  have HO := Lib.hid hown
  clear hown
  go_wp2
  go_ret
  have hb := own_bts HO.out
  refine ⟨w1.heap.size, rfl, ⟨A1, l.length, c1, Blk.new _ _ _, (show BtsB w1 w1.heap.size A1 l.length c1 l from hb).below ((Below.refl _ _).alloc (Nat.le_refl _) _)⟩, hbel.size, hbel.alloc hbel.size _⟩

set_option maxRecDepth 100000 in
set_option maxHeartbeats 400000 in
theorem readS_any (h : RdAt 149 w p l bad) :
    Calls Try.prog 73 #[.pointer (some ⟨p, 0, none⟩)] w fun e w' => e = .returned (.string ⟨(rdStr l bad).1.toArray⟩) ∧ RdAt 149 w' p (rdStr l bad).2.1 (rdStr l bad).2.2 ∧ DKept (fun k => k = p) w w' := by
  have C := Lib.hid (readU_any h)
  have hlt := rdNum_lt l bad
  unfold rdStr
  generalize rdNum l bad = q at C hlt ⊢
  obtain ⟨u, l', bad'⟩ := q
  dsimp only at C hlt ⊢
  by_cases hu : l'.length < u
  · rw [if_pos hu]
    go_enter Try.func73, Try.ntmps73
    go_wp2_with fail
    refine C.out.mono ?_
    rintro e w1 ⟨rfl, hr1, hk1⟩
    have SP := Lib.hid (spoil_any hr1)
    obtain ⟨A, n, c, hb, h0, hrd, hnc, hcm, hln⟩ := id hr1
    subst hln
    unfold maxLen at hcm
    obtain ⟨c0, c1⟩ := rd_cells hb
    clear hb
    go_wp2_with fail
    refine SP.out.mono ?_
    rintro e w2 ⟨rfl, hr2, hk2⟩
    go_wp2
    go_ret
    exact ⟨rfl, hr2, hk1.trans hk2 (fun _ _ h => h)⟩
  · rw [if_neg hu]
    go_enter Try.func73, Try.ntmps73
    go_wp2_with fail
    refine C.out.mono ?_
    rintro e w1 ⟨rfl, hr1, hk1⟩
    obtain ⟨A, n, c, hb, h0, hrd, hnc, hcm, hln⟩ := id hr1
    subst hln
    have hcut : ∀ A', A' = (if c = u then A else A.map (·.add u)) → RdAt 149 (w1.setCell ⟨p, 0, none⟩ (.slice A' (l'.length - u) (c - u))) p (l'.drop u) bad' := fun A' hA => rd_cut hb h0 hrd hnc hcm rfl (by omega) hA
    unfold maxLen at hcm
    obtain ⟨c0, c1⟩ := rd_cells hb
    have f0 := hb.frozen 0
    have cv := run_string_of w1 36 9 5 Try.underlying36 Try.underlying5 Try.underlying9 (c := c) (l := l'.take u) (by rw [List.map_take]; exact hrd.take_ (by omega))
    have HCUT := Lib.hid hcut
    clear hb hcut
    go_wp2_with fail
    · go_ret
      have hz := HCUT.out A (by rw [if_pos ‹c = u›])
      first
        | exact ⟨rfl, hz, hk1.trans (DKept.set DKept.refl (by exact rfl)) (fun _ _ h => h)⟩
        | (rw [show c - u = 0 by omega] at hz; exact ⟨rfl, hz, hk1.trans (DKept.set DKept.refl (by exact rfl)) (fun _ _ h => h)⟩)
    · go_ret
      have hz := HCUT.out _ (by rw [if_neg ‹¬ c = u›])
      exact ⟨rfl, hz, hk1.trans (DKept.set DKept.refl (by exact rfl)) (fun _ _ h => h)⟩
end
end Go.Proofs.Ytlbikfamjogpnaa
end

/- Pages out of bytes, in plain Lean. No program here. Conditions: none. -/
section
namespace Go.Proofs.Ytlbikfamjogpnaa
open Go.RowKit

def strB (l : List UInt8) : ByteArray := ⟨l.toArray⟩
structure Kv where
  ks : List ByteArray
  vs : List ByteArray
  l : List UInt8
  bad : Bool

/-- So many keys (and values, if it is a leaf) read. -/
def readKV (leaf : Bool) : Nat → List UInt8 → Bool → Kv
  | 0, l, bad => ⟨[], [], l, bad⟩
  | m + 1, l, bad =>
    let s := rdStr l bad
    if leaf then
      let v := rdStr s.2.1 s.2.2
      let r := readKV leaf m v.2.1 v.2.2
      ⟨strB s.1 :: r.ks, strB v.1 :: r.vs, r.l, r.bad⟩
    else
      let r := readKV leaf m s.2.1 s.2.2
      ⟨strB s.1 :: r.ks, r.vs, r.l, r.bad⟩
structure Ns where
  ns : List Int
  l : List UInt8
  bad : Bool
def readN : Nat → List UInt8 → Bool → Ns
  | 0, l, bad => ⟨[], l, bad⟩
  | m + 1, l, bad =>
    let s := rdNum l bad
    let r := readN m s.2.1 s.2.2
    ⟨(s.1 : Int) :: r.ns, r.l, r.bad⟩

theorem rdNum_bad (l : List UInt8) : (rdNum l true).2.2 = true := by
  unfold rdNum; split <;> rfl
theorem rdStr_bad (l : List UInt8) : (rdStr l true).2.2 = true := by
  unfold rdStr; split
  · rfl
  · exact rdNum_bad l
theorem readKV_bad (leaf : Bool) (m : Nat) : ∀ l, (readKV leaf m l true).bad = true := by
  induction m with
  | zero => intro l; rfl
  | succ m ih =>
    intro l
    unfold readKV
    cases leaf with
    | true => simp only [if_true]; rw [rdStr_bad, rdStr_bad]; exact ih _
    | false => simp only [Bool.false_eq_true, if_false]; rw [rdStr_bad]; exact ih _
theorem readN_bad (m : Nat) : ∀ l, (readN m l true).bad = true := by
  induction m with
  | zero => intro l; rfl
  | succ m ih =>
    intro l
    unfold readN
    simp only
    rw [rdNum_bad]; exact ih _

/-- What has been read ahead of a rest. -/
def Kv.behind (ks vs : List ByteArray) (r : Kv) : Kv := ⟨ks ++ r.ks, vs ++ r.vs, r.l, r.bad⟩
def Ns.behind (ns : List Int) (r : Ns) : Ns := ⟨ns ++ r.ns, r.l, r.bad⟩
theorem readKV_leaf (m : Nat) (l : List UInt8) (ks vs : List ByteArray) {s l1 v l2 : List UInt8} {b1 b2 : Bool} (h1 : rdStr l false = (s, l1, b1)) (h2 : rdStr l1 b1 = (v, l2, b2)) :
    (readKV true (m + 1) l false).behind ks vs = (readKV true m l2 b2).behind (ks ++ [strB s]) (vs ++ [strB v]) := by
  conv => lhs; unfold readKV
  simp [Kv.behind, h1, h2]
theorem readKV_branch (m : Nat) (l : List UInt8) (ks vs : List ByteArray) {s l1 : List UInt8} {b1 : Bool} (h1 : rdStr l false = (s, l1, b1)) :
    (readKV false (m + 1) l false).behind ks vs = (readKV false m l1 b1).behind (ks ++ [strB s]) vs := by
  conv => lhs; unfold readKV
  simp [Kv.behind, h1]
theorem readN_step (m : Nat) (l : List UInt8) (bad : Bool) (ns : List Int) {u : Nat} {l1 : List UInt8} {b1 : Bool} (h1 : rdNum l bad = (u, l1, b1)) :
    (readN (m + 1) l bad).behind ns = (readN m l1 b1).behind (ns ++ [(u : Int)]) := by
  conv => lhs; unfold readN
  simp [Ns.behind, h1]

/-- A page, out of bytes; none: there is none. -/
def decP (b : List UInt8) : Option Pg :=
  if b.headD 0 ≠ 76 ∧ b.headD 0 ≠ 66 then none
  else
    let leaf := b.headD 0 == 76
    let n := rdNum (b.drop 1) false
    if b.length < n.1 then none
    else
      let kv := readKV leaf n.1 n.2.1 n.2.2
      let ns : Ns := if leaf then ⟨[], kv.l, kv.bad⟩ else readN (n.1 + 1) kv.l kv.bad
      if ns.bad then none else if ns.l ≠ [] then none else if goodB ⟨leaf, kv.ks, kv.vs, ns.ns⟩ then some ⟨leaf, kv.ks, kv.vs, ns.ns⟩ else none

theorem rdU_len (l : List UInt8) : ∀ (i acc u : Nat) (r : List UInt8), rdU i acc l = some (u, r) → r.length < l.length := by
  induction l with
  | nil => intro i acc u r h; simp [rdU] at h
  | cons x l ih =>
    intro i acc u r h
    unfold rdU at h
    split at h
    · cases h
    · split at h
      · have := ih _ _ _ _ h
        simp; omega
      · split at h
        · cases h
        · injection h with h
          injection h with _ h
          subst h
          simp
theorem rdNum_len (l : List UInt8) (bad : Bool) : (rdNum l bad).2.2 = true ∨ (rdNum l bad).2.1.length < l.length := by
  unfold rdNum
  split
  · rename_i u r h
    exact .inr (rdU_len _ _ _ _ _ h)
  · exact .inl rfl
theorem rdStr_len (l : List UInt8) : (rdStr l false).2.2 = true ∨ (rdStr l false).2.1.length < l.length := by
  unfold rdStr
  split
  · exact .inl rfl
  · rcases rdNum_len l false with h | h
    · exact .inl h
    · right; simp; omega
/-- More texts than bytes: it is bad. -/
theorem readKV_short (leaf : Bool) (m : Nat) : ∀ l, l.length < m → (readKV leaf m l false).bad = true := by
  induction m with
  | zero => intro l h; omega
  | succ m ih =>
    intro l h
    unfold readKV
    rcases rdStr_len l with h1 | h1
    · cases leaf with
      | true => simp only [if_true]; rw [h1, rdStr_bad]; exact readKV_bad _ _ _
      | false => simp only [Bool.false_eq_true, if_false]; rw [h1]; exact readKV_bad _ _ _
    · cases hb : (rdStr l false).2.2 with
      | true =>
        cases leaf with
        | true => simp only [if_true]; rw [hb, rdStr_bad]; exact readKV_bad _ _ _
        | false => simp only [Bool.false_eq_true, if_false]; rw [hb]; exact readKV_bad _ _ _
      | false =>
        cases leaf with
        | true =>
          simp only [if_true]
          rw [hb]
          rcases rdStr_len (rdStr l false).2.1 with h2 | h2
          · rw [h2]; exact readKV_bad _ _ _
          · cases hb2 : (rdStr (rdStr l false).2.1 false).2.2 with
            | true => exact readKV_bad _ _ _
            | false => exact ih _ (by omega)
        | false => simp only [Bool.false_eq_true, if_false]; rw [hb]; exact ih _ (by omega)

theorem rdNum_le (l : List UInt8) (bad : Bool) : (rdNum l bad).2.1.length ≤ l.length := by
  unfold rdNum
  split
  · rename_i u r h
    exact Nat.le_of_lt (rdU_len _ _ _ _ _ h)
  · simp
theorem rdStr_le (l : List UInt8) (bad : Bool) : (rdStr l bad).1.length ≤ l.length ∧ (rdStr l bad).2.1.length ≤ l.length := by
  have h := rdNum_le l bad
  unfold rdStr
  split
  · simp
  · constructor
    · simp; omega
    · simp; omega
theorem strB_size (l : List UInt8) : (strB l).size = l.length := by simp [strB, ByteArray.size]
theorem readKV_sizes (leaf : Bool) (m : Nat) : ∀ l b, (∀ s ∈ (readKV leaf m l b).ks, s.size ≤ l.length) ∧ (∀ s ∈ (readKV leaf m l b).vs, s.size ≤ l.length) := by
  induction m with
  | zero => intro l b; exact ⟨(fun s h => by cases h), (fun s h => by cases h)⟩
  | succ m ih =>
    intro l b
    have h1 := rdStr_le l b
    have h2 := rdStr_le (rdStr l b).2.1 (rdStr l b).2.2
    unfold readKV
    cases leaf with
    | true =>
      simp only [if_true]
      have h3 := ih (rdStr (rdStr l b).2.1 (rdStr l b).2.2).2.1 (rdStr (rdStr l b).2.1 (rdStr l b).2.2).2.2
      refine ⟨fun s h => ?_, fun s h => ?_⟩
      · rcases List.mem_cons.1 h with rfl | h
        · rw [strB_size]; exact h1.1
        · have := h3.1 s h; omega
      · rcases List.mem_cons.1 h with rfl | h
        · rw [strB_size]; omega
        · have := h3.2 s h; omega
    | false =>
      simp only [Bool.false_eq_true, if_false]
      have h3 := ih (rdStr l b).2.1 (rdStr l b).2.2
      refine ⟨fun s h => ?_, fun s h => ?_⟩
      · rcases List.mem_cons.1 h with rfl | h
        · rw [strB_size]; exact h1.1
        · have := h3.1 s h; omega
      · have := h3.2 s h; omega
section
variable {l' l1 : List UInt8} {u M : Nat} {b1 : Bool}
theorem dec_leaf_bad (hst : rdNum l' false = (u, l1, b1)) (hM : M = min u (l'.length + 1)) (hbad : (readKV true M l1 b1).bad = true) : decP (76 :: l') = none := by
  unfold decP
  rw [if_neg (by simp)]
  simp only [List.drop_succ_cons, List.drop_zero, hst, List.length_cons]
  split
  · rfl
  · rename_i h
    have : M = u := by omega
    subst this
    have e : ((76 :: l').headD 0 == 76) = true := rfl
    simp only [e, if_true, hbad]
theorem dec_leaf_ok (hst : rdNum l' false = (u, l1, b1)) (hM : M = min u (l'.length + 1)) {ks vs : List ByteArray} {l2 : List UInt8} (hr : readKV true M l1 b1 = ⟨ks, vs, l2, false⟩) :
    decP (76 :: l') = if l2 ≠ [] then none else if goodB ⟨true, ks, vs, []⟩ then some ⟨true, ks, vs, []⟩ else none := by
  have hu : u ≤ l'.length + 1 := by
    rcases Nat.lt_or_ge (l'.length + 1) u with h | h
    · have hl := rdNum_le l' false
      rw [hst] at hl
      have hb : b1 = false := by
        cases hb : b1 with
        | false => rfl
        | true =>
          rw [hb] at hr
          have h9 := congrArg Kv.bad hr
          rw [readKV_bad] at h9
          cases h9
      have h9 := congrArg Kv.bad hr
      rw [hb, readKV_short true M l1 (by simp at hl; omega)] at h9
      cases h9
    · exact h
  have : M = u := by omega
  subst this
  unfold decP
  rw [if_neg (by simp)]
  simp only [List.drop_succ_cons, List.drop_zero, hst, List.length_cons]
  rw [if_neg (by omega)]
  have e : ((76 :: l').headD 0 == 76) = true := rfl
  simp only [e, if_true, hr]
  simp
theorem dec_br_bad (hst : rdNum l' false = (u, l1, b1)) (hM : M = min u (l'.length + 1)) (hbad : (readKV false M l1 b1).bad = true) : decP (66 :: l') = none := by
  unfold decP
  rw [if_neg (by simp)]
  simp only [List.drop_succ_cons, List.drop_zero, hst, List.length_cons]
  split
  · rfl
  · rename_i h
    have : M = u := by omega
    subst this
    have e : ((66 :: l').headD 0 == 76) = false := rfl
    simp only [e, Bool.false_eq_true, if_false, hbad, readN_bad, if_true]
theorem dec_br_le (hst : rdNum l' false = (u, l1, b1)) (hM : M = min u (l'.length + 1)) (hgood : (readKV false M l1 b1).bad = false) : u ≤ l'.length + 1 ∧ M = u := by
  rcases Nat.lt_or_ge (l'.length + 1) u with h | h
  · have hl := rdNum_le l' false
    rw [hst] at hl
    have hb : b1 = false := by
      cases hb : b1 with
      | false => rfl
      | true =>
        rw [hb, readKV_bad] at hgood
        cases hgood
    rw [hb, readKV_short false M l1 (by simp at hl; omega)] at hgood
    cases hgood
  · exact ⟨h, by omega⟩
theorem dec_br_ok (hst : rdNum l' false = (u, l1, b1)) (hu : u ≤ l'.length + 1) {ks vs : List ByteArray} {l2 l3 : List UInt8} {b2 b3 : Bool} {ns : List Int} (hr : readKV false u l1 b1 = ⟨ks, vs, l2, b2⟩) (hn : readN (u + 1) l2 b2 = ⟨ns, l3, b3⟩) :
    decP (66 :: l') = if b3 then none else if l3 ≠ [] then none else if goodB ⟨false, ks, vs, ns⟩ then some ⟨false, ks, vs, ns⟩ else none := by
  unfold decP
  rw [if_neg (by simp)]
  simp only [List.drop_succ_cons, List.drop_zero, hst, List.length_cons]
  rw [if_neg (by omega)]
  have e : ((66 :: l').headD 0 == 76) = false := rfl
  simp only [e, Bool.false_eq_true, if_false, hr, hn]
end
end Go.Proofs.Ytlbikfamjogpnaa
end

/- The bytes of pages: what the printed functions of page.Encode and of the reference's Encode tell. No memory here. Conditions: the bytes fit the reach. -/
section
namespace Go.Proofs.Ytlbikfamjogpnaa
open Go.RowKit Go.Proofs.YtlbikfamjogpnaaW.PrintWords Go.Proofs.Ytlbikfamjogpnaa.QPage

theorem low_byte (u : Nat) : (u : Int) % 256 = ((UInt8.ofNat u).toNat : Int) := by simp

theorem packU_l0 (u : Nat) : ∀ (l : List UInt8), u < 18446744073709551616 → l.length + (putU u).length ≤ 140737488355328 → Ev (fun k => pack_U.l0 k (ints l) (u : Int)) (ints (l ++ putU u)) := by
  induction u using Nat.strongRecOn with
  | _ u ih =>
  intro l hu hl
  have hp := putU_pos u
  have hlen := ints_len l
  by_cases h : u < 128
  · refine Ev.end_ fun k => ?_
    simp only [pack_U.l0]
    rw [if_neg (by omega), if_pos (by rw [hlen]; omega), putU_small h, ints_app, low_byte]
    rfl
  · have hb := putU_big h
    have e2 : l.length + (putU u).length = (l ++ [UInt8.ofNat (u % 128 + 128)]).length + (putU (u / 128)).length := by rw [hb]; simp; omega
    refine evAs (Ev.step (fun k => ?_) (ih (u / 128) (by omega) (l ++ [UInt8.ofNat (u % 128 + 128)]) (by omega) (by omega))) (by rw [hb]; simp)
    simp only [pack_U.l0]
    rw [if_pos (by omega), if_pos (by rw [hlen]; omega), and127 u hu, or128, ints_app]
    have e : ((u : Int) % 128 + 128) % 256 = ((UInt8.ofNat (u % 128 + 128)).toNat : Int) := by rw [← low_byte]; omega
    rw [e]; rfl
theorem packU_f (u : Nat) (l : List UInt8) (hu : u < 18446744073709551616) (hl : l.length + (putU u).length ≤ 140737488355328) : Ev (fun k => pack_U.f k (ints l) (u : Int)) (ints (l ++ putU u)) := by
  have hp := putU_pos u
  refine Ev.congr (fun k => ?_) (packU_l0 u l hu hl)
  unfold pack_U.f slices_Clone_byte_byte.f
  rw [if_pos (by rw [ints_len]; omega)]; rfl
theorem packS_f (s : ByteArray) (l : List UInt8) (hl : l.length + (putS s).length ≤ 140737488355000) : Ev (fun k => pack_S.f k (ints l) s) (ints (l ++ putS s)) := by
  rw [putS_len] at hl
  have hp := putU_pos s.size
  have e : IntKind.u64.wrap (s.size : Int) = (s.size : Int) := by rw [IntKind.wrap_u64]; omega
  have hh : (ints (l ++ putU s.size)).length + s.size < 140737488355328 := by rw [ints_len, List.length_append]; omega
  refine Ev.congr (fun k => by unfold pack_S.f; rw [e]) (Ev.bind (packU_f s.size l (by omega) (by omega)) (r := ints (l ++ putS s)) ?_)
  refine evAs (Ev.congr (fun k => if_pos hh) (Ev.now _)) ?_
  rw [bytesOf_ints, ← ints_app, putS, List.append_assoc]

theorem refU_l0 (u : Nat) : ∀ (l : List UInt8), u < 18446744073709551616 → l.length + (putU u).length ≤ 140737488355328 → Ev (fun k => publicanref1_PutU.l0 k (u : Int) (ints l)) (ints (l ++ putU u)) := by
  induction u using Nat.strongRecOn with
  | _ u ih =>
  intro l hu hl
  have hp := putU_pos u
  have hlen := ints_len l
  by_cases h : u < 128
  · refine Ev.end_ fun k => ?_
    simp only [publicanref1_PutU.l0]
    rw [if_neg (by omega), if_pos (by rw [hlen]; omega), putU_small h, ints_app, low_byte]
    rfl
  · have hb := putU_big h
    have e2 : l.length + (putU u).length = (l ++ [UInt8.ofNat (u % 128 + 128)]).length + (putU (u / 128)).length := by rw [hb]; simp; omega
    refine evAs (Ev.step (fun k => ?_) (ih (u / 128) (by omega) (l ++ [UInt8.ofNat (u % 128 + 128)]) (by omega) (by omega))) (by rw [hb]; simp)
    simp only [publicanref1_PutU.l0]
    have e3 : IntKind.u64.wrap ((u : Int).tdiv 128) = ((u / 128 : Nat) : Int) := by rw [Int.tdiv_eq_ediv_of_nonneg (by omega), IntKind.wrap_u64]; omega
    have e4 : (IntKind.u64.wrap ((u : Int).tmod 128 + 128)) % 256 = ((UInt8.ofNat (u % 128 + 128)).toNat : Int) := by rw [← low_byte, Int.tmod_eq_emod_of_nonneg (by omega), IntKind.wrap_u64]; omega
    rw [if_pos (by omega), if_pos (by rw [hlen]; omega), e3, e4, ints_app]
    rfl
theorem refU_f (u : Nat) (l : List UInt8) (hu : u < 18446744073709551616) (hl : l.length + (putU u).length ≤ 140737488355328) : Ev (fun k => publicanref1_PutU.f k (ints l) (u : Int)) (ints (l ++ putU u)) := by
  have hp := putU_pos u
  refine Ev.congr (fun k => ?_) (refU_l0 u l hu hl)
  unfold publicanref1_PutU.f
  simp only [Option.bind_some, List.length_nil, List.nil_append]
  rw [if_pos (by rw [ints_len]; omega)]
theorem refS_f (s : ByteArray) (l : List UInt8) (hl : l.length + (putS s).length ≤ 140737488355000) : Ev (fun k => publicanref1_PutS.f k (ints l) s) (ints (l ++ putS s)) := by
  rw [putS_len] at hl
  have hp := putU_pos s.size
  have e : IntKind.u64.wrap (s.size : Int) = (s.size : Int) := by rw [IntKind.wrap_u64]; omega
  have hh : (ints (l ++ putU s.size)).length + s.size < 140737488355328 := by rw [ints_len, List.length_append]; omega
  refine Ev.congr (fun k => by unfold publicanref1_PutS.f; rw [e]) (Ev.bind (refU_f s.size l (by omega) (by omega)) (r := ints (l ++ putS s)) ?_)
  refine evAs (Ev.congr (fun k => if_pos hh) (Ev.now _)) ?_
  rw [bytesOf_ints, ← ints_app, putS, List.append_assoc]

section
variable (p : Pg)
theorem enc_l1 (h : Nums p.kids) (hk : p.kids.length ≤ 9223372036854775807) (d : Nat) : ∀ (i : Nat) (b : List UInt8), p.kids.length - i = d → b.length + (encN (p.kids.drop i)).length ≤ 140737488355000 →
    Ev (fun k => page_Encode.l1 k (ints b) p.kids (p.kids.length : Int) (i : Int)) (ints (b ++ encN (p.kids.drop i))) := by
  induction d with
  | zero =>
    intro i b hd hb
    refine evAs (r := ints b) (Ev.end_ fun k => ?_) (by rw [List.drop_eq_nil_of_le (by omega)]; simp [encN])
    simp only [page_Encode.l1]
    rw [if_neg (by omega)]
  | succ d ih =>
    intro i b hd hb
    have hi : i < p.kids.length := by omega
    have hn := h.at_ hi
    have e := encN_cons p.kids hi
    rw [e] at hb ⊢
    have hb' := hb
    rw [List.length_append] at hb'
    obtain ⟨u, hu⟩ : ∃ u : Nat, p.kids[i] = (u : Int) := ⟨p.kids[i].toNat, by omega⟩
    rw [hu] at hb' ⊢
    rw [Int.toNat_natCast] at hb' ⊢
    refine evAs (evGo1 (packU_f u b (by omega) (by omega)) (ih (i + 1) (b ++ putU u) (by omega) (by rw [List.length_append]; omega)) (fun k hA => ?_)) (by rw [List.append_assoc])
    simp only [page_Encode.l1]
    rw [if_pos (by omega), if_pos (by omega), if_pos (by omega), rd_int _ _ hi, hu, wrap_up hi (by omega)]
    simp only [hA, Option.bind_some]

theorem enc_l0 (h : Nums p.kids) (hk : p.kids.length ≤ 9223372036854775807) (hk2 : p.keys.length ≤ 9223372036854775807) (d : Nat) : ∀ (i : Nat) (b : List UInt8), p.keys.length - i = d → b.length + (encFrom p i).length ≤ 140737488355000 →
    Ev (fun k => page_Encode.l0 k (ints b) p.keys (p.keys.length : Int) (i : Int) p.leaf p.keys p.vals p.kids) (ints (b ++ encFrom p i)) := by
  induction d with
  | zero =>
    intro i b hd hb
    have e := encFrom_end p (i := i) (by omega)
    rw [e] at hb ⊢
    cases hl : p.leaf with
    | true =>
      rw [hl] at hb
      refine evAs (r := ints b) (Ev.end_ fun k => ?_) (by simp)
      simp only [page_Encode.l0]
      rw [if_neg (by omega)]
      simp only [if_true]
    | false =>
      rw [hl] at hb
      have h1 := enc_l1 p h hk _ 0 b rfl (by simpa using hb)
      refine evAs (Ev.step (fun k => ?_) h1) (by simp)
      simp only [page_Encode.l0]
      rw [if_neg (by omega), if_neg (by simp)]
      rfl
  | succ d ih =>
    intro i b hd hb
    have hi : i < p.keys.length := by omega
    cases hl : p.leaf with
    | true =>
      by_cases hv : i < p.vals.length
      · have e := encFrom_kv p hi hl hv
        rw [e] at hb ⊢
        have hb' := hb
        simp only [List.length_append] at hb'
        have h2 := ih (i + 1) (b ++ putS p.keys[i] ++ putS p.vals[i]) (by omega) (by simp only [List.length_append]; omega)
        rw [hl] at h2
        refine evAs (evGo2 (packS_f p.keys[i] b (by omega)) (packS_f p.vals[i] (b ++ putS p.keys[i]) (by simp only [List.length_append]; omega)) h2 (fun k hA hB => ?_)) (by simp only [List.append_assoc])
        simp only [page_Encode.l0]
        rw [if_pos (by omega), if_pos (by omega), if_pos (by omega), rdOf_str _ _ hi]
        simp only [if_true]
        rw [rdOf_str _ _ hv, wrap_up hi (by omega)]
        simp only [show (i : Int) < (p.vals.length : Int) from by omega, if_true]
        simp only [hA, hB, Option.bind_some]
      · have e := encFrom_k p hi hl hv
        rw [e] at hb ⊢
        have hb' := hb
        simp only [List.length_append] at hb'
        have h2 := ih (i + 1) (b ++ putS p.keys[i]) (by omega) (by simp only [List.length_append]; omega)
        rw [hl] at h2
        refine evAs (evGo1 (packS_f p.keys[i] b (by omega)) h2 (fun k hA => ?_)) (by simp only [List.append_assoc])
        simp only [page_Encode.l0]
        rw [if_pos (by omega), if_pos (by omega), if_pos (by omega), rdOf_str _ _ hi]
        simp only [if_true]
        rw [wrap_up hi (by omega)]
        simp only [show ¬ (i : Int) < (p.vals.length : Int) from by omega, if_false]
        simp only [hA, Option.bind_some]
    | false =>
      have e := encFrom_b p hi hl
      rw [e] at hb ⊢
      have hb' := hb
      simp only [List.length_append] at hb'
      have h2 := ih (i + 1) (b ++ putS p.keys[i]) (by omega) (by simp only [List.length_append]; omega)
      rw [hl] at h2
      refine evAs (evGo1 (packS_f p.keys[i] b (by omega)) h2 (fun k hA => ?_)) (by simp only [List.append_assoc])
      simp only [page_Encode.l0]
      rw [if_pos (by omega), if_pos (by omega), if_pos (by omega), rdOf_str _ _ hi]
      simp only [Bool.false_eq_true, if_false]
      rw [wrap_up hi (by omega)]
      simp only [hA, Option.bind_some]

theorem enc_f (h : Nums p.kids) (hk : p.kids.length ≤ 9223372036854775807) (hb : (encP p).length ≤ 140737488355000) (hk2 : p.keys.length ≤ 9223372036854775807) : Ev (fun k => page_Encode.f k p.leaf p.keys p.vals p.kids) (ints (encP p)) := by
  have ew : IntKind.u64.wrap (p.keys.length : Int) = (p.keys.length : Int) := by rw [IntKind.wrap_u64]; omega
  have hb' := hb
  unfold encP at hb'
  rw [List.length_cons, List.length_append] at hb'
  have go : ∀ x : UInt8, Ev (fun k => page_Encode.j0 k (ints [x]) p.leaf p.keys p.vals p.kids) (ints ([x] ++ (putU p.keys.length ++ encB p))) := by
    intro x
    have h1 := packU_f p.keys.length [x] (by omega) (by rw [List.length_singleton]; omega)
    have h2 := enc_l0 p h hk hk2 _ 0 ([x] ++ putU p.keys.length) rfl (by rw [encFrom_zero, List.length_append, List.length_singleton]; omega)
    rw [encFrom_zero] at h2
    refine evAs (evGo1 h1 h2 (fun k hA => ?_)) (by rw [List.append_assoc])
    simp only [page_Encode.j0]
    rw [ew]
    simp only [hA, Option.bind_some]
    rfl
  cases hl : p.leaf with
  | true =>
    have h1 := go 76
    rw [hl] at h1
    refine evAs (Ev.congr (fun k => ?_) h1) (by unfold encP; rw [hl]; rfl)
    unfold page_Encode.f
    rfl
  | false =>
    have h1 := go 66
    rw [hl] at h1
    refine evAs (Ev.congr (fun k => ?_) h1) (by unfold encP; rw [hl]; rfl)
    unfold page_Encode.f
    rfl

theorem refenc_l1 (h : Nums p.kids) (hl : p.leaf = false) (hk : p.kids.length ≤ 9223372036854775807) (d : Nat) : ∀ (i : Nat) (b : List UInt8), p.kids.length - i = d → b.length + (encN (p.kids.drop i)).length ≤ 140737488355000 →
    Ev (fun k => publicanref4_Encode.l1 k (ints b) (i : Int) p.leaf p.keys p.vals p.kids) (ints (b ++ encN (p.kids.drop i))) := by
  induction d with
  | zero =>
    intro i b hd hb
    refine evAs (r := ints b) (Ev.end_ fun k => ?_) (by rw [List.drop_eq_nil_of_le (by omega)]; simp [encN])
    simp only [publicanref4_Encode.l1]
    rw [if_neg (by omega)]
  | succ d ih =>
    intro i b hd hb
    have hi : i < p.kids.length := by omega
    have hn := h.at_ hi
    have e := encN_cons p.kids hi
    rw [e] at hb ⊢
    have hb' := hb
    rw [List.length_append] at hb'
    obtain ⟨u, hu⟩ : ∃ u : Nat, p.kids[i] = (u : Int) := ⟨p.kids[i].toNat, by omega⟩
    rw [hu] at hb' ⊢
    rw [Int.toNat_natCast] at hb' ⊢
    refine evAs (evGo1 (refU_f u b (by omega) (by omega)) (ih (i + 1) (b ++ putU u) (by omega) (by rw [List.length_append]; omega)) (fun k hA => ?_)) (by rw [List.append_assoc])
    simp only [publicanref4_Encode.l1]
    rw [if_pos (by omega), if_neg (by rw [hl]; simp), if_pos (by omega), rd_int _ _ hi, hu, wrap_up hi (by omega)]
    simp only [hA, Option.bind_some]

theorem refenc_l0 (h : Nums p.kids) (hk : p.kids.length ≤ 9223372036854775807) (hk2 : p.keys.length ≤ 9223372036854775807) (d : Nat) : ∀ (i : Nat) (b : List UInt8), p.keys.length - i = d → b.length + (encFrom p i).length ≤ 140737488355000 →
    Ev (fun k => publicanref4_Encode.l0 k (ints b) (i : Int) p.leaf p.keys p.vals p.kids) (ints (b ++ encFrom p i)) := by
  induction d with
  | zero =>
    intro i b hd hb
    have e := encFrom_end p (i := i) (by omega)
    rw [e] at hb ⊢
    cases hl : p.leaf with
    | true =>
      rw [hl] at hb
      refine evAs (Ev.step (fun k => ?_) (Ev.end_ (g := fun k => publicanref4_Encode.l1 k (ints b) 0 true p.keys p.vals p.kids) (r := ints b) fun k => ?_)) (by simp)
      · simp only [publicanref4_Encode.l0]
        rw [if_neg (by omega)]
      · simp only [publicanref4_Encode.l1]
        split <;> simp
    | false =>
      rw [hl] at hb
      have h1 := refenc_l1 p h hl hk _ 0 b rfl (by simpa using hb)
      rw [hl] at h1
      refine evAs (Ev.step (fun k => ?_) h1) (by simp)
      simp only [publicanref4_Encode.l0]
      rw [if_neg (by omega)]
      rfl
  | succ d ih =>
    intro i b hd hb
    have hi : i < p.keys.length := by omega
    cases hl : p.leaf with
    | true =>
      by_cases hv : i < p.vals.length
      · have e := encFrom_kv p hi hl hv
        rw [e] at hb ⊢
        have hb' := hb
        simp only [List.length_append] at hb'
        have h2 := ih (i + 1) (b ++ putS p.keys[i] ++ putS p.vals[i]) (by omega) (by simp only [List.length_append]; omega)
        rw [hl] at h2
        refine evAs (evGo2 (refS_f p.keys[i] b (by omega)) (refS_f p.vals[i] (b ++ putS p.keys[i]) (by simp only [List.length_append]; omega)) h2 (fun k hA hB => ?_)) (by simp only [List.append_assoc])
        simp only [publicanref4_Encode.l0]
        rw [if_pos (by omega), if_pos (by omega), rdOf_str _ _ hi]
        simp only [if_true]
        rw [rdOf_str _ _ hv, wrap_up hi (by omega)]
        simp only [show (i : Int) < (p.vals.length : Int) from by omega, if_true]
        simp only [hA, hB, Option.bind_some]
      · have e := encFrom_k p hi hl hv
        rw [e] at hb ⊢
        have hb' := hb
        simp only [List.length_append] at hb'
        have h2 := ih (i + 1) (b ++ putS p.keys[i]) (by omega) (by simp only [List.length_append]; omega)
        rw [hl] at h2
        refine evAs (evGo1 (refS_f p.keys[i] b (by omega)) h2 (fun k hA => ?_)) (by simp only [List.append_assoc])
        simp only [publicanref4_Encode.l0]
        rw [if_pos (by omega), if_pos (by omega), rdOf_str _ _ hi]
        simp only [if_true]
        rw [wrap_up hi (by omega)]
        simp only [show ¬ (i : Int) < (p.vals.length : Int) from by omega, if_false]
        simp only [hA, Option.bind_some]
    | false =>
      have e := encFrom_b p hi hl
      rw [e] at hb ⊢
      have hb' := hb
      simp only [List.length_append] at hb'
      have h2 := ih (i + 1) (b ++ putS p.keys[i]) (by omega) (by simp only [List.length_append]; omega)
      rw [hl] at h2
      refine evAs (evGo1 (refS_f p.keys[i] b (by omega)) h2 (fun k hA => ?_)) (by simp only [List.append_assoc])
      simp only [publicanref4_Encode.l0]
      rw [if_pos (by omega), if_pos (by omega), rdOf_str _ _ hi]
      simp only [Bool.false_eq_true, if_false]
      rw [wrap_up hi (by omega)]
      simp only [hA, Option.bind_some]

theorem refenc_f (h : Nums p.kids) (hk : p.kids.length ≤ 9223372036854775807) (hb : (encP p).length ≤ 140737488355000) (hk2 : p.keys.length ≤ 9223372036854775807) : Ev (fun k => publicanref4_Encode.f k p.leaf p.keys p.vals p.kids) (ints (encP p)) := by
  have ew : IntKind.u64.wrap (p.keys.length : Int) = (p.keys.length : Int) := by rw [IntKind.wrap_u64]; omega
  have hb' := hb
  unfold encP at hb'
  rw [List.length_cons, List.length_append] at hb'
  have go : ∀ x : UInt8, Ev (fun k => publicanref4_Encode.j0 k (ints [x]) p.leaf p.keys p.vals p.kids) (ints ([x] ++ (putU p.keys.length ++ encB p))) := by
    intro x
    have h1 := refU_f p.keys.length [x] (by omega) (by rw [List.length_singleton]; omega)
    have h2 := refenc_l0 p h hk hk2 _ 0 ([x] ++ putU p.keys.length) rfl (by rw [encFrom_zero, List.length_append, List.length_singleton]; omega)
    rw [encFrom_zero] at h2
    refine evAs (evGo1 h1 h2 (fun k hA => ?_)) (by rw [List.append_assoc])
    simp only [publicanref4_Encode.j0]
    rw [ew]
    simp only [hA, Option.bind_some]
    rfl
  cases hl : p.leaf with
  | true =>
    have h1 := go 76
    rw [hl] at h1
    refine evAs (Ev.congr (fun k => ?_) h1) (by unfold encP; rw [hl]; rfl)
    unfold publicanref4_Encode.f
    rfl
  | false =>
    have h1 := go 66
    rw [hl] at h1
    refine evAs (Ev.congr (fun k => ?_) h1) (by unfold encP; rw [hl]; rfl)
    unfold publicanref4_Encode.f
    rfl
end
end Go.Proofs.Ytlbikfamjogpnaa
end

/- What the printed functions Good, place (the reference's), own, same, great (the laws') tell of pages. No memory here. Conditions: few enough keys. -/
section
namespace Go.Proofs.Ytlbikfamjogpnaa
open Go.RowKit Go.Proofs.YtlbikfamjogpnaaW.PrintWords Go.Proofs.Ytlbikfamjogpnaa.QPage

theorem getD_str (l : List ByteArray) (i : Nat) : rdOf ByteArray.empty l (i : Int) = l.getD i ByteArray.empty := by
  unfold rdOf
  rw [Int.toNat_natCast]
theorem getD_int (l : List Int) (i : Nat) : rd l (i : Int) = l.getD i 0 := by
  unfold rd
  rw [Int.toNat_natCast]

section
variable (p : Pg)
theorem place_l0 (key : ByteArray) (hn : p.keys.length ≤ 9223372036854775806) (d : Nat) : ∀ i : Nat, p.keys.length - i = d → i ≤ p.keys.length → Ev (fun k => publicanref4_place.l0 k key (i : Int) p.leaf p.keys p.vals p.kids) (((i + placeN (p.keys.drop i) key : Nat) : Int)) := by
  induction d with
  | zero =>
    intro i hd hle
    refine evAs (Ev.end_ (r := (i : Int)) fun k => ?_) (by rw [List.drop_eq_nil_of_le (by omega)]; rfl)
    simp only [publicanref4_place.l0]
    rw [if_neg (by omega)]
  | succ d ih =>
    intro i hd hle
    have hi : i < p.keys.length := by omega
    have e : p.keys.drop i = p.keys[i] :: p.keys.drop (i + 1) := List.drop_eq_getElem_cons hi
    cases hl : lessB key p.keys[i] with
    | true =>
      refine evAs (Ev.end_ (r := (i : Int)) fun k => ?_) (by rw [e, placeN, List.takeWhile_cons]; simp only [hl]; rfl)
      simp only [publicanref4_place.l0]
      rw [if_pos (by omega), if_pos (by omega), rdOf_str _ _ hi]
      exact if_pos hl
    | false =>
      refine evAs (Ev.step (fun k => ?_) (ih (i + 1) (by omega) (by omega))) (by rw [e]; unfold placeN; rw [List.takeWhile_cons]; simp only [hl, Bool.not_false, if_true, List.length_cons]; omega)
      simp only [publicanref4_place.l0]
      rw [if_pos (by omega), if_pos (by omega), rdOf_str _ _ hi, wrap_up hi (by omega)]
      refine if_neg ?_
      unfold lessB at hl
      rw [hl]
      simp
theorem place_f (key : ByteArray) (hn : p.keys.length ≤ 9223372036854775806) : Ev (fun k => publicanref4_place.f k p.leaf p.keys p.vals p.kids key) (placeN p.keys key : Int) := by
  have h := place_l0 p key hn _ 0 rfl (Nat.zero_le _)
  rw [List.drop_zero, Nat.zero_add] at h
  exact h

theorem clone_f (hk : p.kids.length < 17592186044416) (hn : p.keys.length < 8796093022208) (hv : p.vals.length < 8796093022208) : page_clone.f p.leaf p.keys p.vals p.kids = some (p.leaf, p.keys, p.vals, p.kids) := by
  unfold page_clone.f slices_Clone_string_string.f slices_Clone_uint64_uint64.f
  simp [hk, hn, hv]

/-- How many bytes texts are. -/
def sizes (l : List ByteArray) : Nat := (l.map ByteArray.size).sum
theorem great_l1 (hv : p.vals.length ≤ 100) (d : Nat) : ∀ (i : Nat) (n : Int), p.vals.length - i = d → ∃ g, Ev (fun k => publicanlaw6_great.l1 k n (i : Int) p.leaf p.keys p.vals p.kids) g := by
  induction d with
  | zero =>
    intro i n hd
    refine ⟨false, Ev.end_ fun k => ?_⟩
    simp only [publicanlaw6_great.l1]
    rw [if_neg (by omega)]
  | succ d ih =>
    intro i n hd
    have hi : i < p.vals.length := by omega
    by_cases h : wrap64 (n + (((rdOf ByteArray.empty p.vals (i : Int)).size : Nat) : Int)) > 9000
    · refine ⟨true, Ev.end_ fun k => ?_⟩
      simp only [publicanlaw6_great.l1]
      rw [if_pos (by omega), if_pos (by omega), if_pos h]
    · obtain ⟨g, hg⟩ := ih (i + 1) (wrap64 (n + (((rdOf ByteArray.empty p.vals (i : Int)).size : Nat) : Int))) (by omega)
      refine ⟨g, Ev.step (fun k => ?_) hg⟩
      simp only [publicanlaw6_great.l1]
      rw [if_pos (by omega), if_pos (by omega), if_neg h, wrap_up hi (by omega)]
theorem great_l0 (hn0 : p.keys.length ≤ 100) (hv : p.vals.length ≤ 100) (d : Nat) : ∀ (i : Nat) (n : Int), p.keys.length - i = d → ∃ g, Ev (fun k => publicanlaw6_great.l0 k n (i : Int) p.leaf p.keys p.vals p.kids) g := by
  induction d with
  | zero =>
    intro i n hd
    obtain ⟨g, hg⟩ := great_l1 p hv _ 0 n rfl
    refine ⟨g, Ev.step (fun k => ?_) hg⟩
    simp only [publicanlaw6_great.l0]
    rw [if_neg (by omega)]
    rfl
  | succ d ih =>
    intro i n hd
    have hi : i < p.keys.length := by omega
    by_cases h : wrap64 (n + (((rdOf ByteArray.empty p.keys (i : Int)).size : Nat) : Int)) > 9000
    · refine ⟨true, Ev.end_ fun k => ?_⟩
      simp only [publicanlaw6_great.l0]
      rw [if_pos (by omega), if_pos (by omega), if_pos h]
    · obtain ⟨g, hg⟩ := ih (i + 1) (wrap64 (n + (((rdOf ByteArray.empty p.keys (i : Int)).size : Nat) : Int))) (by omega)
      refine ⟨g, Ev.step (fun k => ?_) hg⟩
      simp only [publicanlaw6_great.l0]
      rw [if_pos (by omega), if_pos (by omega), if_neg h, wrap_up hi (by omega)]
/-- A page with few keys, values and kids; and such a one that is not too great for the laws. -/
def Sixty (p : Pg) : Prop := p.keys.length ≤ 60 ∧ p.vals.length ≤ 60 ∧ p.kids.length ≤ 60
def Small (p : Pg) : Prop := p.keys.length ≤ 60 ∧ p.vals.length ≤ 60 ∧ p.kids.length ≤ 60 ∧ sizes p.keys + sizes p.vals ≤ 30000
theorem great_f : ∃ g, Ev (fun k => publicanlaw6_great.f k p.leaf p.keys p.vals p.kids) g ∧ (g = false → Sixty p) := by
  have hj : ∀ b, b = true → Ev (fun k => publicanlaw6_great.j0 k b p.leaf p.keys p.vals p.kids) true := by
    intro b hb
    refine Ev.end_ fun k => ?_
    simp only [publicanlaw6_great.j0]
    rw [if_pos hb]
  by_cases h1 : p.keys.length > 60
  · exact ⟨true, Ev.congr (fun k => by unfold publicanlaw6_great.f; rw [if_pos (by omega)]) (hj true rfl), fun h => by cases h⟩
  by_cases h2 : p.vals.length > 60
  · exact ⟨true, Ev.congr (fun k => by unfold publicanlaw6_great.f; rw [if_neg (by omega), if_pos (by omega)]) (hj true rfl), fun h => by cases h⟩
  by_cases h3 : p.kids.length > 60
  · exact ⟨true, Ev.congr (fun k => by unfold publicanlaw6_great.f; rw [if_neg (by omega), if_neg (by omega)]) (hj (decide ((p.kids.length : Int) > 60)) (decide_eq_true (by omega))), fun h => by cases h⟩
  obtain ⟨g, hg⟩ := great_l0 p (by omega) (by omega) _ 0 0 rfl
  refine ⟨g, Ev.congr (fun k => by unfold publicanlaw6_great.f; rw [if_neg (by omega), if_neg (by omega)]) (Ev.step (g := fun k => publicanlaw6_great.j0 k (decide ((p.kids.length : Int) > 60)) p.leaf p.keys p.vals p.kids) (fun k => ?_) hg), fun _ => ⟨by omega, by omega, by omega⟩⟩
  · simp only [publicanlaw6_great.j0]
    rw [if_neg (by rw [decide_eq_false (by omega)]; simp)]
    rfl
end
end Go.Proofs.Ytlbikfamjogpnaa
end

/- page.Good: what it answers. Conditions: the page reads in memory, and has few enough keys. -/
section
namespace Go.Proofs.Ytlbikfamjogpnaa
open Go.RowKit Go.Proofs.YtlbikfamjogpnaaW.PrintWords Go.Proofs.Ytlbikfamjogpnaa.QPage

/-- A page that reads in memory: its slices' addresses and capacities. -/
structure PgR (w : World) (A1 : Option Addr) (c1 : Nat) (A2 : Option Addr) (c2 : Nat) (A3 : Option Addr) (c3 : Nat) (p : Pg) : Prop where
  k : Kd.C Kd.string w A1 p.keys.length p.keys
  kc : p.keys.length ≤ c1
  v : Kd.C Kd.string w A2 p.vals.length p.vals
  vc : p.vals.length ≤ c2
  n : Kd.C (Kd.int .u64) w A3 p.kids.length p.kids
  nc : p.kids.length ≤ c3
def pgv (A1 : Option Addr) (c1 : Nat) (A2 : Option Addr) (c2 : Nat) (A3 : Option Addr) (c3 : Nat) (p : Pg) : Value :=
  .agg #[.bool p.leaf, .slice A1 p.keys.length c1, .slice A2 p.vals.length c2, .slice A3 p.kids.length c3]
theorem PgR.below {w w' : World} {A1 A2 A3 : Option Addr} {c1 c2 c3 : Nat} {p : Pg} (h : PgR w A1 c1 A2 c2 A3 c3 p) (hb : Below w.heap.size w w') : PgR w' A1 c1 A2 c2 A3 c3 p :=
  ⟨Kd.C_below h.k hb, h.kc, Kd.C_below h.v hb, h.vc, Kd.C_below h.n hb, h.nc⟩

theorem str_at {w : World} {A : Option Addr} {l : List ByteArray} (h : Kd.C Kd.string w A l.length l) {i : Nat} (hi : i < l.length) : ∃ ad, A = some ad ∧ ∀ w', Below w.heap.size w w' → w'.cell? (ad.add i) = some (.string (l.getD i ByteArray.empty)) := by
  obtain ⟨ad, u, rfl, _, hu, hcell⟩ := (reads_of_C (enc := Value.string) (h1 := fun _ => rfl) h).at_ hi
  rw [List.getElem?_map, List.getElem?_eq_getElem hi] at hu
  obtain rfl : Value.string l[i] = u := by simpa using hu
  refine ⟨ad, rfl, fun w' hb => ?_⟩
  rw [List.getD_eq_getElem?_getD, List.getElem?_eq_getElem hi]
  exact (hb.cell (World.block_lt_of_cell? _ _ hcell)).trans hcell

set_option maxHeartbeats 1000000 in
theorem long_any (s : ByteArray) (w : World) (hs : s.size ≤ 9223372036854775807) : Calls Try.prog 78 #[.string s] w fun e w' => e = .returned (.bool (decide (400 < s.size))) ∧ w = w' := by
  by_cases h : 400 < s.size
  · have e1 : decide (400 < s.size) = true := decide_eq_true h
    rw [e1]
    go_enter Try.func78, Try.ntmps78
    go_wp2
    go_ret
    exact ⟨by simp; omega, rfl⟩
  · have e1 : decide (400 < s.size) = false := decide_eq_false h
    rw [e1]
    go_enter Try.func78, Try.ntmps78
    go_wp2
    go_ret
    exact ⟨by simp; omega, rfl⟩

set_option maxHeartbeats 2000000 in
theorem index_any (w : World) (A : Option Addr) (c : Nat) (l : List ByteArray) (h : Kd.C Kd.string w A l.length l) (hs : ∀ v ∈ l, v.size ≤ 9223372036854775807) :
    Calls Try.prog 105 #[.slice A l.length c, .func (.func 78) #[] #[]] w fun e w' => (∃ r : Int, e = .returned (.int .i64 r) ∧ (0 ≤ r ↔ valsFrom l 0 = false)) ∧ w = w' := by
  have hm := h.2.1
  have HR := Lib.hid h
  have HS := Lib.hid hs
  have HV : Hid (∀ i, i < l.length → l.getD i ByteArray.empty ∈ l) := Lib.hid fun i hi => by rw [List.getD_eq_getElem?_getD, List.getElem?_eq_getElem hi]; exact List.getElem_mem hi
  clear h hs
  generalize hn : l.length = n at *
  have HN := Lib.hid hn
  clear hn
  go_enter Try.func105, Try.ntmps105
  go_wp2_with fail
  go_loop [8] (fun iv => ∃ j : Nat, j ≤ n ∧ iv = .int .i64 (j : Int) ∧ Hid (valsFrom l 0 = valsFrom l j)) (fun iv => n - (intOf iv).toNat)
  case atStart => exact ⟨0, Nat.zero_le _, rfl, Lib.hid rfl⟩
  case round =>
    obtain ⟨j, hj, rfl, I⟩ := hrel
    by_cases hlt : j < n
    · have hr := HR.out
      rw [← HN.out] at hr
      obtain ⟨ad, rfl, hcell⟩ := str_at hr (i := j) (by rw [HN.out]; exact hlt)
      have hc0 := hcell w (Below.refl _ _)
      have hsz := HS.out _ (HV.out j hlt)
      have hstep : valsFrom l j = (decide ((l.getD j ByteArray.empty).size ≤ 400) && valsFrom l (j + 1)) := all_step (by rw [HN.out]; exact hlt)
      have CL := Lib.hid (long_any (l.getD j ByteArray.empty) w hsz)
      have HST := Lib.hid hstep
      clear hcell hr hstep
      generalize l.getD j ByteArray.empty = s at *
      by_cases h4 : 400 < s.size
      · have e4 : decide (400 < s.size) = true := decide_eq_true h4
        have HE4 := Lib.hid e4
        clear h4
        go_wp2_with (go_at_call 78; refine CL.out.mono ?_; rw [HE4.out]; rintro e w' ⟨rfl, rfl⟩)
        go_ret
        refine ⟨⟨_, rfl, ⟨fun _ => ?_, fun _ => by omega⟩⟩, rfl⟩
        have := of_decide_eq_true HE4.out
        rw [I.out, HST.out, decide_eq_false (by omega)]; rfl
      · have e4 : decide (400 < s.size) = false := decide_eq_false h4
        have HE4 := Lib.hid e4
        clear h4
        go_wp2_with (go_at_call 78; refine CL.out.mono ?_; rw [HE4.out]; rintro e w' ⟨rfl, rfl⟩)
        go_round
        case rel => exact ⟨j + 1, by omega, by go_num, Lib.hid (by have := of_decide_eq_false HE4.out; rw [I.out, HST.out, decide_eq_true (by omega)]; rfl)⟩
        case measure => simp [intOf]; omega
    · go_wp2
      go_ret
      refine ⟨⟨_, rfl, ⟨fun h => by omega, fun h => ?_⟩⟩, rfl⟩
      rw [I.out] at h
      unfold valsFrom at h
      rw [all_end (by rw [HN.out]; omega)] at h
      cases h

set_option maxHeartbeats 1000000 in
theorem contains_any (w : World) (A : Option Addr) (c : Nat) (l : List ByteArray) (h : Kd.C Kd.string w A l.length l) (hs : ∀ v ∈ l, v.size ≤ 9223372036854775807) :
    Calls Try.prog 79 #[.slice A l.length c, .func (.func 78) #[] #[]] w fun e w' => e = .returned (.bool (!valsFrom l 0)) ∧ w = w' := by
  have CI := Lib.hid (index_any w A c l h hs)
  clear h hs
  generalize l.length = n at *
  cases hv : valsFrom l 0 with
  | true =>
    have HV := Lib.hid hv
    clear hv
    go_enter Try.func79, Try.ntmps79
    go_wp2_with fail
    refine CI.out.mono ?_
    rintro e w' ⟨⟨r, rfl, hr⟩, rfl⟩
    have hd : decide (0 ≤ r) = false := decide_eq_false (fun h => by rw [HV.out] at hr; exact absurd (hr.1 h) (by simp))
    clear hr
    go_wp2
    go_ret
    exact ⟨by first | rfl | (rw [hd]; rfl) | simp [hd], rfl⟩
  | false =>
    have HV := Lib.hid hv
    clear hv
    go_enter Try.func79, Try.ntmps79
    go_wp2_with fail
    refine CI.out.mono ?_
    rintro e w' ⟨⟨r, rfl, hr⟩, rfl⟩
    have hd : decide (0 ≤ r) = true := decide_eq_true (hr.2 HV.out)
    clear hr
    go_wp2
    go_ret
    exact ⟨by first | rfl | (rw [hd]; rfl) | simp [hd], rfl⟩

theorem index_l0 (ns : List Int) (hn : ns.length ≤ 9223372036854775806) (d : Nat) : ∀ i : Nat, ns.length - i = d → ∃ r, Ev (fun k => slices_Index_uint64_uint64.l0 k ns 0 (ns.length : Int) (i : Int)) r ∧ (0 ≤ r ↔ kidsFrom ns i = false) := by
  induction d with
  | zero =>
    intro i hd
    refine ⟨-1, Ev.end_ fun k => ?_, ⟨fun h => by omega, fun h => ?_⟩⟩
    · simp only [slices_Index_uint64_uint64.l0]
      rw [if_neg (by omega)]
    · unfold kidsFrom at h
      rw [all_end (by omega)] at h
      cases h
  | succ d ih =>
    intro i hd
    have hi : i < ns.length := by omega
    have e : kidsFrom ns i = (decide (ns.getD i 0 ≠ 0) && kidsFrom ns (i + 1)) := all_step hi
    by_cases h : ns.getD i 0 = 0
    · refine ⟨(i : Int), Ev.end_ fun k => ?_, ⟨fun _ => by rw [e, decide_eq_false (fun hh => hh h)]; rfl, fun _ => by omega⟩⟩
      simp only [slices_Index_uint64_uint64.l0]
      rw [if_pos (by omega), if_pos (by omega), if_pos (by omega), getD_int]
      rw [if_pos h.symm]
    · obtain ⟨r, hr, hb⟩ := ih (i + 1) (by omega)
      refine ⟨r, Ev.step (fun k => ?_) hr, by rw [e, decide_eq_true h]; simpa using hb⟩
      simp only [slices_Index_uint64_uint64.l0]
      rw [if_pos (by omega), if_pos (by omega), if_pos (by omega), getD_int]
      rw [if_neg (fun hh => h hh.symm), wrap_up hi (by omega)]
theorem contains_f (ns : List Int) (hn : ns.length ≤ 9223372036854775806) : Ev (fun k => slices_Contains_uint64_uint64.f k ns 0) (!kidsFrom ns 0) := by
  obtain ⟨r, hr, hb⟩ := index_l0 ns hn _ 0 rfl
  refine evCall (g := fun k => slices_Index_uint64_uint64.f k ns 0) hr (Ev.now _) (fun k hA => ?_)
  unfold slices_Contains_uint64_uint64.f
  simp only [hA, Option.bind_some]
  congr 1
  cases hk : kidsFrom ns 0 with
  | true =>
    rw [hk] at hb
    have : ¬ 0 ≤ r := fun h => absurd (hb.1 h) (by simp)
    simp; omega
  | false =>
    rw [hk] at hb
    have := hb.2 rfl
    simp; omega
end Go.Proofs.Ytlbikfamjogpnaa
end

/- page.Good: what it answers. Conditions: the page reads in memory, and has few enough keys. -/
section
namespace Go.Proofs.Ytlbikfamjogpnaa
open Go.RowKit Go.Proofs.YtlbikfamjogpnaaW.PrintWords Go.Proofs.Ytlbikfamjogpnaa.QPage

/-- What a page's lengths must be for a walk. -/
structure Fits (p : Pg) : Prop where
  k : p.keys.length ≤ 1000000
  v : p.vals.length ≤ 1000000
  n : p.kids.length ≤ 1000000
  ks : ∀ s ∈ p.keys, s.size ≤ 9223372036854775807
  vs : ∀ s ∈ p.vals, s.size ≤ 9223372036854775807

theorem getD_mem {l : List ByteArray} {i : Nat} (hi : i < l.length) : l.getD i ByteArray.empty ∈ l := by
  rw [List.getD_eq_getElem?_getD, List.getElem?_eq_getElem hi]; exact List.getElem_mem hi

theorem cells4 {w : World} {g : Nat} {t : TypeId} {v0 v1 v2 v3 : Value} (h : Blk w g t #[v0, v1, v2, v3]) :
    w.cell? ⟨g, 0, none⟩ = some v0 ∧ w.cell? ⟨g, 1, none⟩ = some v1 ∧ w.cell? ⟨g, 2, none⟩ = some v2 ∧ w.cell? ⟨g, 3, none⟩ = some v3 :=
  ⟨(h.cell 0).trans rfl, (h.cell 1).trans rfl, (h.cell 2).trans rfl, (h.cell 3).trans rfl⟩

set_option maxRecDepth 100000 in
set_option maxHeartbeats 4000000 in
theorem good_any {w : World} {A1 A2 A3 : Option Addr} {c1 c2 c3 : Nat} {p : Pg} (h : PgR w A1 c1 A2 c2 A3 c3 p) (hf : Fits p) :
    Calls Try.prog 38 #[pgv A1 c1 A2 c2 A3 c3 p] w fun e w' => e = .returned (.bool (goodB p)) ∧ Below w.heap.size w w' := by
  unfold pgv
  obtain ⟨W0, hW0⟩ : ∃ W0, W0 = w.alloc (.cells #[.bool p.leaf, .slice A1 p.keys.length c1, .slice A2 p.vals.length c2, .slice A3 p.kids.length c3] 67) := ⟨_, rfl⟩
  have hb0 : Below w.heap.size w W0 := by rw [hW0]; exact (Below.refl _ _).alloc (Nat.le_refl _) _
  have kb : Blk W0 w.heap.size 67 #[.bool p.leaf, .slice A1 p.keys.length c1, .slice A2 p.vals.length c2, .slice A3 p.kids.length c3] := by rw [hW0]; exact Blk.new _ _ _
  obtain ⟨b0, b1, b2, b3⟩ := cells4 kb
  have h0 := h.below hb0
  have CC := Lib.hid (contains_any W0 A2 c2 p.vals h0.v (fun s hs => by have := hf.vs s hs; omega))
  obtain ⟨kk, hkk⟩ := (contains_f p.kids (by have := hf.n; omega)).rounds
  have CK := Lib.hid (slices_Contains_uint64_uint64.calls kk A3 c3 p.kids 0 _ W0 h0.n h0.nc hkk)
  have HG : Hid (goodB p = (keysFrom p.keys 0 && (valsFrom p.vals 0 && (kidsFrom p.kids 0 && shapeB p)))) := Lib.hid rfl
  have HW := Lib.hid hW0
  have HB := Lib.hid hb0
  have H0 := Lib.hid h0
  have HF := Lib.hid hf
  have l1 := hf.k
  have l2 := hf.v
  have l3 := hf.n
  have HV02 : Hid (p.vals.length = 0 → valsFrom p.vals 0 = true) := Lib.hid fun h => by unfold valsFrom; rw [h]; rfl
  have HN03 : Hid (p.kids.length = 0 → kidsFrom p.kids 0 = true) := Lib.hid fun h => by unfold kidsFrom; rw [h]; rfl
  have HSH : Hid (shapeB p = if p.leaf then decide (p.vals.length = p.keys.length) && decide (p.kids.length = 0) else decide (p.vals.length = 0) && decide (p.kids.length = p.keys.length + 1)) := Lib.hid rfl
  clear hW0 hb0 kb h0 h hf hkk
  generalize hn1 : p.keys.length = n1 at *
  generalize hn2 : p.vals.length = n2 at *
  generalize hn3 : p.kids.length = n3 at *
  generalize hG : goodB p = G at *
  generalize hlf : p.leaf = lf at *
  have HLF := Lib.hid hlf
  generalize hK0 : valsFrom p.vals 0 = V0 at *
  generalize hN0 : kidsFrom p.kids 0 = N0 at *
  generalize hS0 : shapeB p = S0 at *
  have HN1 := Lib.hid hn1
  clear hn1 hn2 hn3 hG hK0 hN0 hS0 hlf
  go_enter Try.func38, Try.ntmps38
  go_wp2_with fail
  rw [← HW.out]
  go_loop [9] (fun iv => ∃ j : Nat, j ≤ n1 ∧ iv = .int .i64 (j : Int) ∧ Hid (keysFrom p.keys 0 = keysFrom p.keys j)) (fun iv => n1 - (intOf iv).toNat)
  case atStart => exact ⟨0, Nat.zero_le _, rfl, Lib.hid rfl⟩
  case round =>
    obtain ⟨j, hj, rfl, I⟩ := hrel
    by_cases hlt : j < n1
    · have hr := H0.out.k
      rw [HN1.out] at hr
      obtain ⟨ad, rfl, hcell⟩ := str_at (by rw [HN1.out]; exact hr) (i := j) (by rw [HN1.out]; exact hlt)
      have hc0 := hcell W0 (Below.refl _ _)
      have hsz := HF.out.ks _ (getD_mem (i := j) (by rw [HN1.out]; exact hlt))
      have HOK : Hid (keysFrom p.keys j = (okAt p.keys j && keysFrom p.keys (j + 1))) := Lib.hid (all_step (by rw [HN1.out]; exact hlt))
      by_cases a1 : (p.keys.getD j ByteArray.empty).size < 1
      · have HR : Hid (G = false) := Lib.hid (by
          have : ¬ 1 ≤ (p.keys.getD j ByteArray.empty).size := by omega
          rw [HG.out, I.out, HOK.out]; unfold okAt; rw [decide_eq_false this]; rfl)
        clear hcell hr
        generalize p.keys.getD j ByteArray.empty = s at *
        go_wp2
        go_ret
        exact ⟨by rw [HR.out]; rfl, HB.out⟩
      by_cases a2 : 40 < (p.keys.getD j ByteArray.empty).size
      · have HR : Hid (G = false) := Lib.hid (by
          have : ¬ (p.keys.getD j ByteArray.empty).size ≤ 40 := by omega
          rw [HG.out, I.out, HOK.out]; unfold okAt; rw [decide_eq_true (by omega), decide_eq_false this]; rfl)
        clear hcell hr
        generalize p.keys.getD j ByteArray.empty = s at *
        go_wp2
        go_ret
        exact ⟨by rw [HR.out]; rfl, HB.out⟩
      have e1 : decide (1 ≤ (p.keys.getD j ByteArray.empty).size) = true := decide_eq_true (by omega)
      have e2 : decide ((p.keys.getD j ByteArray.empty).size ≤ 40) = true := decide_eq_true (by omega)
      by_cases a3 : j = 0
      · have HR : Hid (keysFrom p.keys 0 = keysFrom p.keys (j + 1)) := Lib.hid (by rw [I.out, HOK.out]; unfold okAt; rw [e1, e2, decide_eq_true a3]; rfl)
        have g1 : decide ((0 : Int) < (j : Int)) = false := decide_eq_false (by omega)
        have g2 : decide (0 < j) = false := decide_eq_false (by omega)
        clear hcell hr e1 e2 a3
        generalize p.keys.getD j ByteArray.empty = s at *
        go_wp2
        go_round
        case rel => exact ⟨j + 1, by omega, by go_num, HR⟩
        case measure => simp [intOf]; omega
      have hcp := hcell
      obtain ⟨ad', he, hcell'⟩ := str_at (by rw [HN1.out]; exact hr) (i := j - 1) (by rw [HN1.out]; omega)
      injection he with he
      subst he
      have hc1 := hcell' W0 (Below.refl _ _)
      have ej : ((j : Int) - 1).toNat = j - 1 := by omega
      have ej1 : (0 : Int) ≤ (j : Int) - 1 := by omega
      have ej2 : (j : Int) - 1 < (n1 : Int) := by omega
      cases a4 : lessB (p.keys.getD (j - 1) ByteArray.empty) (p.keys.getD j ByteArray.empty) with
      | true =>
        have HR : Hid (keysFrom p.keys 0 = keysFrom p.keys (j + 1)) := Lib.hid (by rw [I.out, HOK.out]; unfold okAt; rw [e1, e2, decide_eq_false a3, a4]; rfl)
        unfold lessB at a4
        clear hcell hcell' hcp hr e1 e2
        generalize p.keys.getD j ByteArray.empty = s at *
        generalize p.keys.getD (j - 1) ByteArray.empty = s' at *
        have a5 := bytes_nle s.toList s'.toList
        rw [a4] at a5
        obtain ⟨a6, a7⟩ := Bool.or_eq_false_iff.1 a5
        clear a5
        go_wp2
        go_round
        case rel => exact ⟨j + 1, by omega, by go_num, HR⟩
        case measure => simp [intOf]; omega
      | false =>
        have HR : Hid (G = false) := Lib.hid (by rw [HG.out, I.out, HOK.out]; unfold okAt; rw [e1, e2, decide_eq_false a3, a4]; rfl)
        unfold lessB at a4
        clear hcell hcell' hcp hr e1 e2
        generalize p.keys.getD j ByteArray.empty = s at *
        generalize p.keys.getD (j - 1) ByteArray.empty = s' at *
        have a5 := bytes_nle s.toList s'.toList
        rw [a4] at a5
        cases a6 : Op.bytesLess s.toList s'.toList with
        | true =>
          clear a5
          go_wp2
          go_ret
          exact ⟨by rw [HR.out]; rfl, HB.out⟩
        | false =>
          have a7 : (s.toList == s'.toList) = true := by rw [a6] at a5; simpa using a5
          clear a5
          go_wp2
          go_ret
          exact ⟨by rw [HR.out]; rfl, HB.out⟩
    · have HK : Hid (G = (V0 && (N0 && S0))) := Lib.hid (by
        rw [HG.out, I.out]; unfold keysFrom; rw [all_end (by rw [HN1.out]; omega)]; rfl)
      cases lf with
      | true =>
        by_cases g1 : n2 = n1
        · by_cases g2 : n3 = 0
          · have HR : Hid (G = V0) := Lib.hid (by rw [HK.out, HSH.out, HN03.out g2]; simp [g1, g2])
            have f1 : ((n2 : Int) == (n1 : Int)) = true := beq_iff_eq.2 (by omega)
            have f2 : ((n3 : Int) == 0) = true := beq_iff_eq.2 (by omega)
            clear g1 g2 hj
            go_wp2_with (go_at_call 79; refine CC.out.mono ?_; rintro e w' ⟨rfl, rfl⟩)
            go_ret
            exact ⟨by rw [HR.out]; simp, HB.out⟩
          · have HR : Hid (G = false) := Lib.hid (by rw [HK.out, HSH.out]; simp [g2])
            have f1 : ((n2 : Int) == (n1 : Int)) = true := beq_iff_eq.2 (by omega)
            have f2 : ((n3 : Int) == 0) = false := beq_eq_false_iff_ne.2 (by omega)
            clear g1 g2 hj
            go_wp2
            go_ret
            exact ⟨by rw [HR.out]; rfl, HB.out⟩
        · have HR : Hid (G = false) := Lib.hid (by rw [HK.out, HSH.out]; simp [g1])
          have f1 : ((n2 : Int) == (n1 : Int)) = false := beq_eq_false_iff_ne.2 (by omega)
          clear g1 hj
          go_wp2
          go_ret
          exact ⟨by rw [HR.out]; rfl, HB.out⟩
      | false =>
        by_cases g1 : n2 = 0
        · by_cases g2 : n3 = n1 + 1
          · have HR : Hid (G = N0) := Lib.hid (by rw [HK.out, HSH.out, HV02.out g1]; simp [g1, g2])
            have f1 : ((n2 : Int) == 0) = true := beq_iff_eq.2 (by omega)
            have f2 : ((n3 : Int) == (n1 : Int) + 1) = true := beq_iff_eq.2 (by omega)
            clear g1 g2 hj
            go_wp2_with (go_at_call 80; refine CK.out.mono ?_; rintro e w' ⟨rfl, hbk⟩)
            go_ret
            exact ⟨by rw [HR.out]; simp, HB.out.trans (hbk.below.mono HB.out.size)⟩
          · have HR : Hid (G = false) := Lib.hid (by rw [HK.out, HSH.out]; simp [g2])
            have f1 : ((n2 : Int) == 0) = true := beq_iff_eq.2 (by omega)
            have f2 : ((n3 : Int) == (n1 : Int) + 1) = false := beq_eq_false_iff_ne.2 (by omega)
            clear g1 g2 hj
            go_wp2
            go_ret
            exact ⟨by rw [HR.out]; rfl, HB.out⟩
        · have HR : Hid (G = false) := Lib.hid (by rw [HK.out, HSH.out]; simp [g1])
          have f1 : ((n2 : Int) == 0) = false := beq_eq_false_iff_ne.2 (by omega)
          clear g1 hj
          go_wp2
          go_ret
          exact ⟨by rw [HR.out]; rfl, HB.out⟩
end Go.Proofs.Ytlbikfamjogpnaa
end

/- A struct in a cell and a slot, as results. No program here. Conditions: none. -/
section
namespace Go.Proofs.Ytlbikfamjogpnaa
open Go.RowKit
theorem results_cs {P : Program} {fn : Func} {p u : Tmp} {ty : TypeId} (h : fn.results = #[.cell p ty, .tmp u]) (tmps : Array Value) (w : World) (g : Nat) (t : TypeId) (cs : Array Value) (fr : Nat × Nat) (d : TypeDesc)
    (hp : tmps.getD p undef = .pointer (some ⟨g, 0, none⟩)) (hg : w.heap[g]? = some (.cells cs t fr))
    (hu : P.underlying ty = some d) (hd : (match d with | .struct _ | .array _ _ => true | _ => false) = true) (hi : (P.info? ty).map (·.size) = some cs.size) :
    (results fn tmps).run P w = .ok (.tuple #[.agg cs, tmps.getD u undef]) w := by
  have hp' : tmps[p]?.getD undef = .pointer (some ⟨g, 0, none⟩) := by simpa using hp
  simp [results, h, hp', asAddr, run_loadVar_row w g t ty cs fr d hg hu hd hi]
theorem results_c1 {P : Program} {fn : Func} {p : Tmp} {ty : TypeId} (h : fn.results = #[.cell p ty]) (tmps : Array Value) (w : World) (g : Nat) (t : TypeId) (cs : Array Value) (fr : Nat × Nat) (d : TypeDesc)
    (hp : tmps.getD p undef = .pointer (some ⟨g, 0, none⟩)) (hg : w.heap[g]? = some (.cells cs t fr))
    (hu : P.underlying ty = some d) (hd : (match d with | .struct _ | .array _ _ => true | _ => false) = true) (hi : (P.info? ty).map (·.size) = some cs.size) :
    (results fn tmps).run P w = .ok (.agg cs) w := by
  have hp' : tmps[p]?.getD undef = .pointer (some ⟨g, 0, none⟩) := by simpa using hp
  simp [results, h, hp', asAddr, run_loadVar_row w g t ty cs fr d hg hu hd hi]
end Go.Proofs.Ytlbikfamjogpnaa
end

/- What holds in memory while page.Decode reads, and how each step keeps it. Conditions: those that each theorem names. -/
section
namespace Go.Proofs.Ytlbikfamjogpnaa
open Go.RowKit Go.Proofs.YtlbikfamjogpnaaW.PrintWords Go.Proofs.Ytlbikfamjogpnaa.QPage

theorem rdNum_zero {l l1 : List UInt8} {u : Nat} (h : rdNum l false = (u, l1, true)) : u = 0 := by
  unfold rdNum at h
  split at h
  · injection h with _ h
    injection h with _ h
    cases h
  · injection h with h
    exact h.symm
theorem lit_reads (W : World) (u : Value) (t : TypeId) : Reads (W.alloc (.cells #[u] t)) (W.heap.size + 1) 1 (some ⟨W.heap.size, 0, none⟩) 1 [u] := by
  refine ⟨rfl, fun _ => ⟨_, rfl, Nat.lt_succ_self _, fun j v hv => ?_⟩⟩
  match j, hv with
  | 0, hv =>
    simp at hv
    subst hv
    rw [show (⟨W.heap.size, 0, none⟩ : Addr).add 0 = ⟨W.heap.size, 0, none⟩ from rfl]
    exact ((Blk.new W t #[u]).cell 0).trans rfl
/-- A row while a block of another type is written. -/
theorem own_kept {w w' : World} {base p n : Nat} {t e : TypeId} {v : Value} {xs : List Value} {cs : Array Value} (h : w.ownsRow base e 1 v n xs) (hk : Go.Proofs.Ytlbikfamjogpnaa.DKept (fun k => k = p) w w') (hp : Blk w p t cs) (hne : e ≠ t) : w'.ownsRow base e 1 v n xs :=
  own_keep h fun g hg => hk.block g (h.lt g hg).2 (fun e2 => own_blk_ne h hp hne (by rw [hg, e2]))
theorem readS_at {w : World} {p : Nat} {l : List UInt8} {bad : Bool} (h : RdAt 149 w p l bad) :
    Calls Try.prog 73 #[.pointer (some ⟨p, 0, none⟩)] w fun e w' => e = .returned (.string (strB (rdStr l bad).1)) ∧ RdAt 149 w' p (rdStr l bad).2.1 (rdStr l bad).2.2 ∧ Go.Proofs.Ytlbikfamjogpnaa.DKept (fun k => k = p) w w' := readS_any h
theorem cell_new {W : World} {ad : Addr} {v : Value} (h : W.cell? ad = some v) (o : Obj) : (W.alloc o).cell? ad = some v :=
  (World.cell?_alloc_lt W o ad (World.block_lt_of_cell? _ _ h)).trans h

/-- What holds while the page's rows are read. T, TP: the types of the reader and of the page. -/
structure PgInv (T TP : TypeId) (w : World) (bp : Nat) (leaf : Bool) (p : Nat) (wr : World) (ks vs : List ByteArray) (ns : List Int) (l : List UInt8) (b : Bool) (vk vv vn : Value) : Prop where
  rd : RdAt T wr p l b
  pg : Blk wr bp TP #[.bool leaf, vk, vv, vn]
  z : Blk wr w.heap.size TP #[.bool false, .slice none 0 0, .slice none 0 0, .slice none 0 0]
  k : wr.ownsRow (p + 1) 9 1 vk ks.length (ks.map Value.string)
  v : wr.ownsRow (p + 1) 9 1 vv vs.length (vs.map Value.string)
  n : wr.ownsRow (p + 1) 32 1 vn ns.length (ns.map (Value.int .u64))
  ne : ∀ g, vk.ownBlock = some g → vv.ownBlock ≠ some g
  be : Below w.heap.size w wr
  bz : w.heap.size < bp
  pz : bp < p

section
variable {T TP : TypeId} {w wr w4 w5 : World} {bp p : Nat} {leaf : Bool} {ks vs : List ByteArray} {ns : List Int} {l l3 : List UInt8} {b b3 : Bool} {vk vv vn v5 : Value}
/-- Behind the reader's own call. -/
theorem PgInv.call (h : PgInv T TP w bp leaf p wr ks vs ns l b vk vv vn) (hT : 9 ≠ T) (hT3 : 32 ≠ T) (hp4 : RdAt T w4 p l3 b3) (hk4 : Go.Proofs.Ytlbikfamjogpnaa.DKept (fun k => k = p) wr w4) : PgInv T TP w bp leaf p w4 ks vs ns l3 b3 vk vv vn := by
  obtain ⟨Ar, nr, cr, hbr, _⟩ := h.rd
  exact ⟨hp4, hk4.blk h.pg (fun e => by have := h.pz; omega), hk4.blk h.z (fun e => by have := h.pz; have := h.bz; omega), own_kept h.k hk4 hbr hT, own_kept h.v hk4 hbr hT, own_kept h.n hk4 hbr hT3, h.ne,
    h.be.trans (hk4.below h.be.size (by rintro k rfl; have := h.pz; have := h.bz; omega)), h.bz, h.pz⟩
theorem PgInv.drew (h : PgInv T TP w bp leaf p wr ks vs ns l b vk vv vn) : PgInv T TP w bp leaf p wr.drew ks vs ns l b vk vv vn := ⟨h.rd, h.pg, h.z, h.k, h.v, h.n, h.ne, h.be.drew, h.bz, h.pz⟩
theorem PgInv.drewN (h : PgInv T TP w bp leaf p wr ks vs ns l b vk vv vn) (m : Nat) : PgInv T TP w bp leaf p (wr.drewN m) ks vs ns l b vk vv vn :=
  ⟨h.rd, h.pg, h.z, h.k, h.v, h.n, h.ne, h.be.trans ((Drawn0.mk ⟨m, rfl⟩ : Drawn0 wr (wr.drewN m)).below.mono h.be.size), h.bz, h.pz⟩
theorem PgInv.alloc (h : PgInv T TP w bp leaf p wr ks vs ns l b vk vv vn) (o : Obj) : PgInv T TP w bp leaf p (wr.alloc o) ks vs ns l b vk vv vn :=
  ⟨h.rd.below ((Below.refl _ _).alloc (Nat.le_refl _) _), h.pg.alloc _, h.z.alloc _, h.k.alloc _, h.v.alloc _, h.n.alloc _, h.ne, h.be.alloc h.be.size _, h.bz, h.pz⟩
theorem own_grown {base n : Nat} {e : TypeId} {v : Value} {xs : List Value} {r : Option Nat} (h : w4.ownsRow base e 1 v n xs) (hg : w4.grownBy w5 r) (hne : ∀ g, v.ownBlock = some g → r ≠ some g) : w5.ownsRow base e 1 v n xs :=
  own_keep h fun g hv => hg.block g (h.lt g hv).2 (fun e => hne g hv e.symm)
theorem PgInv.lt (h : PgInv T TP w bp leaf p w4 ks vs ns l b vk vv vn) : p < w4.heap.size := by
  obtain ⟨Ar, nr, cr, hbr, _⟩ := h.rd
  exact hbr.lt
theorem rd_grown {v : Value} {n : Nat} {e : TypeId} {xs : List Value} (h : RdAt T w4 p l b) (ho : w4.ownsRow (p + 1) e 1 v n xs) (hg : w4.grownBy w5 v.ownBlock) : RdAt T w5 p l b :=
  h.kept (S := fun k => v.ownBlock = some k) (Go.Proofs.Ytlbikfamjogpnaa.DKept.refl.grown hg (fun _ hk => .inl hk)) (fun i hi => by have := (ho.lt i hi).1; omega)

/-- A block that holds no bytes may be written. -/
theorem rd_set {W : World} {q i : Nat} {cs : Array Value} {u : Value} (h : RdAt T W p l b) (hq : Blk W q TP cs) (hcs : ∀ (j : Nat) (x : UInt8), cs[j]? ≠ some (byt x)) (hne : p ≠ q) : RdAt T (W.setCell ⟨q, i, none⟩ u) p l b := by
  obtain ⟨A, n, c, hb, h0, hr, h1, h2, h3⟩ := h
  refine ⟨A, n, c, hb.far (p := ⟨q, i, none⟩) hne u, h0, ⟨hr.1, fun hn => ?_⟩, h1, h2, h3⟩
  obtain ⟨ad, e, hlt, hc⟩ := hr.2 hn
  refine ⟨ad, e, hlt, fun j v hv => ?_⟩
  have hj := hc j v hv
  rw [World.cell?_setCell_other]
  · exact hj
  · intro e2
    have hh := hq.cell i
    have hj2 : W.cell? ⟨q, i, none⟩ = some v := by first | (rw [← e2]; exact hj) | (rw [e2]; exact hj)
    rw [hj2] at hh
    rw [List.getElem?_map, Option.map_eq_some_iff] at hv
    obtain ⟨x, _, rfl⟩ := hv
    exact hcs i x hh.symm
theorem no_bytes {lf : Bool} {v1 v2 v3 : Value} (h1 : ∃ A n c, v1 = .slice A n c) (h2 : ∃ A n c, v2 = .slice A n c) (h3 : ∃ A n c, v3 = .slice A n c) : ∀ (j : Nat) (x : UInt8), (#[Value.bool lf, v1, v2, v3] : Array Value)[j]? ≠ some (byt x) := by
  obtain ⟨_, _, _, rfl⟩ := h1
  obtain ⟨_, _, _, rfl⟩ := h2
  obtain ⟨_, _, _, rfl⟩ := h3
  intro j x
  match j with
  | 0 => simp [byt]
  | 1 => simp [byt]
  | 2 => simp [byt]
  | 3 => simp [byt]
  | j + 4 => simp
theorem own_slice {W : World} {base n : Nat} {e : TypeId} {v : Value} {xs : List Value} (h : W.ownsRow base e 1 v n xs) : ∃ A n c, v = .slice A n c := by
  obtain ⟨A, c, h⟩ := own_shape h
  exact ⟨A, n, c, h⟩
section
variable {A5 : Option Addr} {c5 : Nat}
theorem PgInv.key (h : PgInv T TP w bp leaf p w4 ks vs ns l b vk vv vn) (hTP : 9 ≠ TP) (hTP3 : 32 ≠ TP) (s : ByteArray)
    (hown : w5.ownsRow (p + 1) 9 1 (.slice A5 (ks.length + 1) c5) (ks.length + 1) (ks.map Value.string ++ [.string s])) (hg : w4.grownBy w5 vk.ownBlock)
    (hat : (Value.slice A5 (ks.length + 1) c5).ownBlock = vk.ownBlock ∨ (Value.slice A5 (ks.length + 1) c5).ownBlock = some w4.heap.size) :
    PgInv T TP w bp leaf p (w5.setCell ⟨bp, 1, none⟩ (.slice A5 (ks.length + 1) c5)) (ks ++ [s]) vs ns l b (.slice A5 (ks.length + 1) c5) vv vn := by
  have hbp : vk.ownBlock ≠ some bp := own_blk_ne h.k h.pg hTP
  have hrp : ∀ g, vk.ownBlock = some g → p + 1 ≤ g := fun g hg2 => (h.k.lt g hg2).1
  have hpg5 := h.pg.grown hg (fun e => hbp e.symm)
  have hv5 := own_grown h.v hg (fun g hv e => h.ne g e hv)
  have hn5 := own_grown h.n hg (fun g hv e => by
    rcases h.k.2 with ⟨hk, _⟩ | ⟨g1, cap, cur, hk, _, hh, _⟩
    · rw [hk] at e; simp [Value.ownBlock] at e
    · rw [hk] at e
      have e1 : g1 = g := by simpa [Value.ownBlock] using e
      subst e1
      exact own_blk_ne h.n (g := g1) (cs := cur) (t := 9) hh (by decide) hv)
  refine ⟨?_, ?_, ?_, ?_, ?_, ?_, ?_, ?_, h.bz, h.pz⟩
  · exact rd_set (rd_grown h.rd h.k hg) hpg5 (no_bytes (own_slice h.k) (own_slice h.v) (own_slice h.n)) (by have := h.pz; omega)
  · have := hpg5.set_ 1 (.slice A5 (ks.length + 1) c5)
    simpa using this
  · exact (h.z.grown hg (fun e => by have := hrp _ e.symm; have := h.bz; have := h.pz; omega)).far (by show w.heap.size ≠ bp; have := h.bz; omega) _
  · have h9 := own_far (p := ⟨bp, 1, none⟩) hown (own_blk_ne hown hpg5 hTP) (.slice A5 (ks.length + 1) c5)
    rw [List.length_append, List.length_singleton, List.map_append]
    exact h9
  · exact own_far (p := ⟨bp, 1, none⟩) hv5 (own_blk_ne hv5 hpg5 hTP) _
  · exact own_far (p := ⟨bp, 1, none⟩) hn5 (own_blk_ne hn5 hpg5 hTP3) _
  · intro g hg2
    rcases hat with e | e
    · rw [e] at hg2; exact h.ne g hg2
    · rw [e] at hg2
      injection hg2 with hg2
      subst hg2
      intro hv
      have := (h.v.lt _ hv).2
      omega
  · exact (h.be.grown hg h.be.size (fun k hk => by have := hrp k hk; have := h.pz; have := h.bz; omega)).setCell (p := ⟨bp, 1, none⟩) (by have := h.bz; show w.heap.size ≤ bp; omega) _
theorem PgInv.val (h : PgInv T TP w bp leaf p w4 ks vs ns l b vk vv vn) (hTP : 9 ≠ TP) (hTP3 : 32 ≠ TP) (s : ByteArray)
    (hown : w5.ownsRow (p + 1) 9 1 (.slice A5 (vs.length + 1) c5) (vs.length + 1) (vs.map Value.string ++ [.string s])) (hg : w4.grownBy w5 vv.ownBlock)
    (hat : (Value.slice A5 (vs.length + 1) c5).ownBlock = vv.ownBlock ∨ (Value.slice A5 (vs.length + 1) c5).ownBlock = some w4.heap.size) :
    PgInv T TP w bp leaf p (w5.setCell ⟨bp, 2, none⟩ (.slice A5 (vs.length + 1) c5)) ks (vs ++ [s]) ns l b vk (.slice A5 (vs.length + 1) c5) vn := by
  have hbp : vv.ownBlock ≠ some bp := own_blk_ne h.v h.pg hTP
  have hrp : ∀ g, vv.ownBlock = some g → p + 1 ≤ g := fun g hg2 => (h.v.lt g hg2).1
  have hpg5 := h.pg.grown hg (fun e => hbp e.symm)
  have hv5 := own_grown h.k hg (fun g hk e => h.ne g hk e)
  have hn5 := own_grown h.n hg (fun g hv e => by
    rcases h.v.2 with ⟨hk, _⟩ | ⟨g1, cap, cur, hk, _, hh, _⟩
    · rw [hk] at e; simp [Value.ownBlock] at e
    · rw [hk] at e
      have e1 : g1 = g := by simpa [Value.ownBlock] using e
      subst e1
      exact own_blk_ne h.n (g := g1) (cs := cur) (t := 9) hh (by decide) hv)
  refine ⟨?_, ?_, ?_, ?_, ?_, ?_, ?_, ?_, h.bz, h.pz⟩
  · exact rd_set (rd_grown h.rd h.v hg) hpg5 (no_bytes (own_slice h.k) (own_slice h.v) (own_slice h.n)) (by have := h.pz; omega)
  · have := hpg5.set_ 2 (.slice A5 (vs.length + 1) c5)
    simpa using this
  · exact (h.z.grown hg (fun e => by have := hrp _ e.symm; have := h.bz; have := h.pz; omega)).far (by show w.heap.size ≠ bp; have := h.bz; omega) _
  · exact own_far (p := ⟨bp, 2, none⟩) hv5 (own_blk_ne hv5 hpg5 hTP) _
  · have h9 := own_far (p := ⟨bp, 2, none⟩) hown (own_blk_ne hown hpg5 hTP) (.slice A5 (vs.length + 1) c5)
    rw [List.length_append, List.length_singleton, List.map_append]
    exact h9
  · exact own_far (p := ⟨bp, 2, none⟩) hn5 (own_blk_ne hn5 hpg5 hTP3) _
  · intro g hk
    rcases hat with e | e
    · rw [e]; exact h.ne g hk
    · rw [e]
      intro hv
      injection hv with hv
      subst hv
      have := (h.k.lt _ hk).2
      omega
  · exact (h.be.grown hg h.be.size (fun k hk => by have := hrp k hk; have := h.pz; have := h.bz; omega)).setCell (p := ⟨bp, 2, none⟩) (by have := h.bz; show w.heap.size ≤ bp; omega) _
theorem PgInv.kid (h : PgInv T TP w bp leaf p w4 ks vs ns l b vk vv vn) (hTP : 9 ≠ TP) (hTP3 : 32 ≠ TP) (s : Int)
    (hown : w5.ownsRow (p + 1) 32 1 (.slice A5 (ns.length + 1) c5) (ns.length + 1) (ns.map (Value.int .u64) ++ [.int .u64 s])) (hg : w4.grownBy w5 vn.ownBlock) :
    PgInv T TP w bp leaf p (w5.setCell ⟨bp, 3, none⟩ (.slice A5 (ns.length + 1) c5)) ks vs (ns ++ [s]) l b vk vv (.slice A5 (ns.length + 1) c5) := by
  have hbp : vn.ownBlock ≠ some bp := own_blk_ne h.n h.pg hTP3
  have hrp : ∀ g, vn.ownBlock = some g → p + 1 ≤ g := fun g hg2 => (h.n.lt g hg2).1
  have hpg5 := h.pg.grown hg (fun e => hbp e.symm)
  have hap : ∀ {v : Value} {n : Nat} {xs : List Value}, w4.ownsRow (p + 1) 9 1 v n xs → ∀ g, v.ownBlock = some g → vn.ownBlock ≠ some g := fun ho g hv e => by
    rcases h.n.2 with ⟨hk, _⟩ | ⟨g1, cap, cur, hk, _, hh, _⟩
    · rw [hk] at e; simp [Value.ownBlock] at e
    · rw [hk] at e
      have e1 : g1 = g := by simpa [Value.ownBlock] using e
      subst e1
      exact own_blk_ne ho (g := g1) (cs := cur) (t := 32) hh (by decide) hv
  have hk5 := own_grown h.k hg (hap h.k)
  have hv5 := own_grown h.v hg (hap h.v)
  refine ⟨?_, ?_, ?_, ?_, ?_, ?_, h.ne, ?_, h.bz, h.pz⟩
  · exact rd_set (rd_grown h.rd h.n hg) hpg5 (no_bytes (own_slice h.k) (own_slice h.v) (own_slice h.n)) (by have := h.pz; omega)
  · have := hpg5.set_ 3 (.slice A5 (ns.length + 1) c5)
    simpa using this
  · exact (h.z.grown hg (fun e => by have := hrp _ e.symm; have := h.bz; have := h.pz; omega)).far (by show w.heap.size ≠ bp; have := h.bz; omega) _
  · exact own_far (p := ⟨bp, 3, none⟩) hk5 (own_blk_ne hk5 hpg5 hTP) _
  · exact own_far (p := ⟨bp, 3, none⟩) hv5 (own_blk_ne hv5 hpg5 hTP) _
  · have h9 := own_far (p := ⟨bp, 3, none⟩) hown (own_blk_ne hown hpg5 hTP3) (.slice A5 (ns.length + 1) c5)
    rw [List.length_append, List.length_singleton, List.map_append]
    exact h9
  · exact (h.be.grown hg h.be.size (fun k hk => by have := hrp k hk; have := h.pz; have := h.bz; omega)).setCell (p := ⟨bp, 3, none⟩) (by have := h.bz; show w.heap.size ≤ bp; omega) _
end
end
end Go.Proofs.Ytlbikfamjogpnaa
end

/- page.Decode: what it answers. Conditions: the bytes read in memory; they are few enough. -/
section
namespace Go.Proofs.Ytlbikfamjogpnaa
open Go.RowKit Go.Proofs.YtlbikfamjogpnaaW.PrintWords Go.Proofs.Ytlbikfamjogpnaa.QPage

/-- A page in a call's results. -/
def DecPost (w : World) (b : List UInt8) (e : Ending) (w' : World) : Prop :=
  Below w.heap.size w w' ∧ match decP b with
    | some p => ∃ A1 c1 A2 c2 A3 c3, e = .returned (.tuple #[pgv A1 c1 A2 c2 A3 c3 p, .int .i64 0]) ∧ PgR w' A1 c1 A2 c2 A3 c3 p
    | none => e = .returned (.tuple #[pgv none 0 none 0 none 0 ⟨false, [], [], []⟩, .int .i64 3])

section
variable {w : World} {A : Option Addr} {n c : Nat} {l : List UInt8}
theorem bts_head {x : UInt8} {l' : List UInt8} (h : Bts w A n c (x :: l')) : ∃ ad, A = some ad ∧ w.cell? ad = some (.int .u8 (x.toNat : Int)) ∧ 1 ≤ n ∧ n ≤ c := by
  have hl := h.2.2.2.2
  rw [List.length_cons] at hl
  obtain ⟨ad, u, e, _, hu, hc⟩ := h.2.1.at_ (k := 0) (by omega)
  have hu' : byt x = u := by simpa using hu
  subst hu'
  rw [show ad.add 0 = ad from rfl] at hc
  exact ⟨ad, e, hc, by omega, h.2.2.1⟩

/-- All bytes but the first: the cut, and what it reads. -/
theorem bts_tail {x : UInt8} {l' : List UInt8} (h : Bts w A n c (x :: l')) : ∃ A9 : Option Addr, Bts w A9 (n - 1) (c - 1) l' ∧ ∀ W, (Instr.slice 36 (.slice A n c) (some (.int .i64 1)) none none).run Try.prog W = .ok (.slice A9 (n - 1) (c - 1)) W := by
  obtain ⟨i0, hi0, _, hz1, _⟩ := info_parts info_u8
  have hl := h.2.2.2.2
  rw [List.length_cons] at hl
  have hrun := cut_from (P := Try.prog) 36 5 .i64 Try.underlying36 hi0 1 hz1 A n c 1 (by omega) (by omega)
  have e1 : (1 : Int).toNat = 1 := rfl
  rw [e1] at hrun
  refine ⟨if c = 1 then A else A.map (·.add (1 * 1)), ?_, hrun⟩
  obtain ⟨h0, hr, h1, h2, h3⟩ := h
  have hcut := hr.cut (k := 1) (by omega) h1
  rw [← List.map_drop] at hcut
  refine ⟨fun e => ?_, hcut, by omega, by omega, by omega⟩
  by_cases hc : c = 1
  · omega
  · rw [if_neg hc] at e
    cases A with
    | none => have := h0 rfl; omega
    | some ad => cases e

set_option maxRecDepth 100000 in
set_option maxHeartbeats 8000000 in
theorem decode_none (h : Bts w A n c l) (hx : l.headD 0 ≠ 76 ∧ l.headD 0 ≠ 66) : Calls Try.prog 36 #[.slice A n c] w (DecPost w l) := by
  have hd : decP l = none := by unfold decP; rw [if_pos hx]
  have HD := Lib.hid hd
  clear hd
  cases l with
  | nil =>
    obtain rfl : n = 0 := h.2.2.2.2.symm
    clear h hx
    go_enter Try.func36, Try.ntmps36
    go_wp2
    refine bodyPost_ret_by (results_cs rfl _ _ w.heap.size 67 #[.bool false, .slice none 0 0, .slice none 0 0, .slice none 0 0] (0, 0) _ rfl ?_ Try.underlying67 rfl (by kernel_rfl)) rfl ⟨(Below.refl _ _).alloc (Nat.le_refl _) _, ?_⟩
    · exact Blk.new _ _ _
    · rw [HD.out]; rfl
  | cons x l' =>
    obtain ⟨ad, rfl, hc, h1, h2⟩ := bts_head h
    have hxx := x.toNat_lt
    have hc2 := cell_new hc (.cells #[.bool false, .slice none 0 0, .slice none 0 0, .slice none 0 0] 67)
    have e1 : ((x.toNat : Int) != 76) = true := by rw [bne_iff_ne]; intro e; exact hx.1 (UInt8.toNat_inj.1 (by show x.toNat = 76; omega))
    have e2 : ((x.toNat : Int) != 66) = true := by rw [bne_iff_ne]; intro e; exact hx.2 (UInt8.toNat_inj.1 (by show x.toNat = 66; omega))
    have e0 : ((n : Int) == 0) = false := beq_eq_false_iff_ne.2 (by omega)
    have hm := h.2.2.2.1
    unfold maxLen at hm
    have i1 : 0 < n := by omega
    clear h hx
    generalize (x.toNat : Int) = xv at *
    go_enter Try.func36, Try.ntmps36
    go_wp2
    refine bodyPost_ret_by (results_cs rfl _ _ w.heap.size 67 #[.bool false, .slice none 0 0, .slice none 0 0, .slice none 0 0] (0, 0) _ rfl ?_ Try.underlying67 rfl (by kernel_rfl)) rfl ⟨(Below.refl _ _).alloc (Nat.le_refl _) _, ?_⟩
    · exact Blk.new _ _ _
    · rw [HD.out]; rfl

theorem pgr_own {W : World} {base : Nat} {lf : Bool} {ks vs : List ByteArray} {ns : List Int} {A1 A2 A3 : Option Addr} {c1 c2 c3 : Nat} (hk : W.ownsRow base 9 1 (.slice A1 ks.length c1) ks.length (ks.map Value.string))
    (hv : W.ownsRow base 9 1 (.slice A2 vs.length c2) vs.length (vs.map Value.string)) (hn : W.ownsRow base 32 1 (.slice A3 ns.length c3) ns.length (ns.map (Value.int .u64))) : PgR W A1 c1 A2 c2 A3 c3 ⟨lf, ks, vs, ns⟩ := by
  have le : ∀ {e : TypeId} {A : Option Addr} {n c : Nat} {xs : List Value}, W.ownsRow base e 1 (.slice A n c) n xs → n ≤ c ∧ n ≤ 9223372036854775807 := by
    intro e A n c xs h
    rcases h.2 with ⟨h1, h2⟩ | ⟨g, cap, cur, h1, _, _, h2, h3, _⟩
    · injection h1 with _ h1 h3; omega
    · injection h1 with _ _ h1; unfold maxLen at h3; omega
  exact ⟨C_of_reads (Reads.of_own hk) (le hk).2, (le hk).1, C_of_reads (Reads.of_own hv) (le hv).2, (le hv).1, C_of_reads (Reads.of_own hn) (le hn).2, (le hn).1⟩
theorem own_set4 {W : World} {base n g : Nat} {e t : TypeId} {v : Value} {xs : List Value} {cs : Array Value} {u0 u1 u2 u3 : Value} (h : W.ownsRow base e 1 v n xs) (hz : Blk W g t cs) (hne : e ≠ t) :
    ((((W.setCell ⟨g, 0, none⟩ u0).setCell ⟨g, 1, none⟩ u1).setCell ⟨g, 2, none⟩ u2).setCell ⟨g, 3, none⟩ u3).ownsRow base e 1 v n xs := by
  have hb := own_blk_ne h hz hne
  exact own_far (p := ⟨g, 3, none⟩) (own_far (p := ⟨g, 2, none⟩) (own_far (p := ⟨g, 1, none⟩) (own_far (p := ⟨g, 0, none⟩) h hb u0) hb u1) hb u2) hb u3
theorem own_below {W W' : World} {base n : Nat} {e : TypeId} {v : Value} {xs : List Value} (h : W.ownsRow base e 1 v n xs) (hb : Below W.heap.size W W') : W'.ownsRow base e 1 v n xs :=
  own_keep h fun g hg => hb.block g (h.lt g hg).2
theorem set4 {W : World} {g : Nat} {t : TypeId} {v0 v1 v2 v3 u0 u1 u2 u3 : Value} (h : Blk W g t #[v0, v1, v2, v3]) :
    Blk ((((W.setCell ⟨g, 0, none⟩ u0).setCell ⟨g, 1, none⟩ u1).setCell ⟨g, 2, none⟩ u2).setCell ⟨g, 3, none⟩ u3) g t #[u0, u1, u2, u3] := by
  have := (((h.set_ 0 u0).set_ 1 u1).set_ 2 u2).set_ 3 u3
  exact this

set_option maxRecDepth 100000 in
set_option maxHeartbeats 8000000 in
theorem decode_leaf {l' : List UInt8} (h : Bts w A n c (76 :: l')) (hn : n ≤ 100000) : Calls Try.prog 36 #[.slice A n c] w (DecPost w (76 :: l')) := by
  obtain ⟨A9, hb9, hcut⟩ := bts_tail h
  obtain ⟨ad, rfl, hc, h1, h2⟩ := bts_head h
  replace hc : w.cell? ad = some (.int .u8 76) := hc
  have e0 : ((n : Int) == 0) = false := beq_eq_false_iff_ne.2 (by omega)
  have hm := h.2.2.2.1
  unfold maxLen at hm
  have i1 : 0 < n := by omega
  obtain ⟨W0, hW0⟩ : ∃ W0, W0 = w.alloc (.cells #[.bool false, .slice none 0 0, .slice none 0 0, .slice none 0 0] 67) := ⟨_, rfl⟩
  have hc2 := cell_new hc (.cells #[.bool false, .slice none 0 0, .slice none 0 0, .slice none 0 0] 67)
  obtain ⟨W1, hW1⟩ : ∃ W1, W1 = W0.alloc (.cells #[.bool true, .slice none 0 0, .slice none 0 0, .slice none 0 0] 67) := ⟨_, rfl⟩
  have hb0 : Below w.heap.size w W0 := by rw [hW0]; exact (Below.refl _ _).alloc (Nat.le_refl _) _
  have hs0 : W0.heap.size = w.heap.size + 1 := by rw [hW0]; simp
  have hb1 : Below w.heap.size w W1 := by rw [hW1]; exact hb0.alloc hb0.size _
  have hs1 : W1.heap.size = w.heap.size + 2 := by rw [hW1]; simp [hs0]
  have kz : Blk W1 w.heap.size 67 #[.bool false, .slice none 0 0, .slice none 0 0, .slice none 0 0] := by rw [hW1, hW0]; exact (Blk.new _ _ _).alloc _
  have kp : Blk W1 (w.heap.size + 1) 67 #[.bool true, .slice none 0 0, .slice none 0 0, .slice none 0 0] := by rw [hW1, ← hs0]; exact Blk.new _ _ _
  have hl' : l'.length = n - 1 := hb9.2.2.2.2
  have CR := Lib.hid (read_new (hb9.below hb1) (by omega))
  have HW1 := Lib.hid hW1
  have HW0 := Lib.hid hW0
  have HB1 := Lib.hid hb1
  have KZ := Lib.hid kz
  have KP := Lib.hid kp
  have HS1 := Lib.hid hs1
  have HL := Lib.hid hl'
  clear h hb9 hW0 hW1 hb0 hb1 kz kp hs0 hs1 hl'
  go_enter Try.func36, Try.ntmps36
  go_wp2_with fail
  rw [← HW0.out, ← HW1.out]
  refine CR.out.mono ?_
  rintro e w2 ⟨p, rfl, hp, hpB, hbel⟩
  clear CR hc2 hc hcut
  have hK2 : Blk w2 (w.heap.size + 1) 67 #[.bool true, .slice none 0 0, .slice none 0 0, .slice none 0 0] := KP.out.below hbel (by rw [HS1.out]; omega)
  have hZ2 : Blk w2 w.heap.size 67 #[.bool false, .slice none 0 0, .slice none 0 0, .slice none 0 0] := KZ.out.below hbel (by rw [HS1.out]; omega)
  have CU := Lib.hid (readU_any hp)
  have HP2 := Lib.hid hp
  have HB2 : Hid (Below w.heap.size w w2) := Lib.hid (HB1.out.trans (hbel.mono HB1.out.size))
  have HK2 := Lib.hid hK2
  have HZ2 := Lib.hid hZ2
  have HPB : Hid (w.heap.size + 2 ≤ p) := Lib.hid (by rw [← HS1.out]; exact hpB)
  clear hK2 hZ2 hp hpB hbel KZ KP HB1 HW1 HW0 HS1
  have hlt := rdNum_lt l' false
  generalize hst : rdNum l' false = st at *
  obtain ⟨u, l1, b1⟩ := st
  dsimp only at CU hlt
  have HST := Lib.hid hst
  clear hst
  go_wp2_with fail
  refine CU.out.mono ?_
  rintro e w3 ⟨rfl, hp3, hk3⟩
  go_wp2_with fail
  obtain ⟨M, hM⟩ : ∃ M : Nat, M = min u n := ⟨_, rfl⟩
  have hMi : min (u : Int) (n : Int) = (M : Int) := by omega
  have hb3 : Below w.heap.size w w3 := HB2.out.trans (hk3.below (Nat.le_trans (Nat.le_refl _) HB2.out.size) (by rintro k rfl; have := HPB.out; omega))
  have hinv : PgInv 149 67 w (w.heap.size + 1) true p w3 [] [] [] l1 b1 (.slice none 0 0) (.slice none 0 0) (.slice none 0 0) :=
    ⟨hp3, hk3.blk HK2.out (fun h => by have := HPB.out; omega), hk3.blk HZ2.out (fun h => by have := HPB.out; omega), own_nil_row _ _ _, own_nil_row _ _ _, own_nil_row _ _ _, fun g hg => by simp [Value.ownBlock] at hg, hb3, by omega, by have := HPB.out; omega⟩
  have HINV := Lib.hid hinv
  have hbz : 0 < M → b1 = false := fun h => by
    cases hb : b1 with
    | false => rfl
    | true => have h9 := HST.out; rw [hb] at h9; have := rdNum_zero h9; omega
  have HBZ := Lib.hid hbz
  have HM := Lib.hid hM
  obtain ⟨i0, hi0, hz0, hz1, hz2⟩ := info_parts cinfo_str
  have hMn : M ≤ 100000 := by omega
  have HHL := Lib.hid hlt
  clear hb3 hinv hp3 hk3 hbz CU HP2 HK2 HZ2 HB2 hlt
  rw [hMi]
  clear hMi hM
  go_loopg [39] M (fun m cv wr => ∃ (i : Nat) (ks vs : List ByteArray) (l2 : List UInt8) (b : Bool) (vk vv : Value), i + m = M ∧ cv = .int .u64 (i : Int) ∧
    Hid (PgInv 149 67 w (w.heap.size + 1) true p wr ks vs [] l2 b vk vv (.slice none 0 0)) ∧ Hid (0 < m → b = false) ∧ Hid (ks.length = i) ∧ Hid (vs.length = i) ∧
    Hid (readKV true M l1 b1 = (readKV true (M - i) l2 b).behind ks vs))
  case atStart => exact ⟨0, [], [], l1, b1, _, _, by omega, rfl, HINV, HBZ, Lib.hid rfl, Lib.hid rfl, Lib.hid rfl⟩
  case round =>
    obtain ⟨i, ks, vs, l2, b, vk, vv, hi, rfl, HI, HB, HLK, HLV, HR⟩ := hrel
    by_cases hlt2 : i < M
    · obtain rfl : b = false := HB.out (by omega)
      have CS := Lib.hid (fun (W : World) (h : RdAt 149 W p l2 false) => readS_at h)
      generalize hs1 : rdStr l2 false = s1 at *
      obtain ⟨s, l3, b3⟩ := s1
      dsimp only at CS
      have CV := Lib.hid (fun (W : World) (h : RdAt 149 W p l3 b3) => readS_at h)
      generalize hs2 : rdStr l3 b3 = s2 at *
      obtain ⟨v, l4, b4⟩ := s2
      dsimp only at CV
      have HS1 := Lib.hid hs1
      have HS2 := Lib.hid hs2
      have HI0 := Lib.hid hi
      have k0 : wr.cell? ⟨w.heap.size + 1, 1, none⟩ = some vk := (HI.out.pg.cell 1).trans rfl
      have hks : ks.length ≤ 100000 := by have := HLK.out; omega
      have hvs : vs.length ≤ 100000 := by have := HLV.out; omega
      clear hs1 hs2 hi
      go_upto_region 8 with fail
      go_cut [] (fun wx => ∃ vk', Hid (PgInv 149 67 w (w.heap.size + 1) true p wx (ks ++ [strB s]) vs [] l3 b3 vk' vv (.slice none 0 0)))
      case first =>
        go_region_law
          (first
            | (go_simp; go_at_call 73; go_must (refine (CS.out wr.drew HI.out.rd).mono ?_); rintro e w4 ⟨rfl, hp4, hk4⟩
               have h4 := Lib.hid (HI.out.drew.call (by decide) (by decide) hp4 hk4)
               have c4 : w4.cell? ⟨w.heap.size + 1, 1, none⟩ = some vk := (h4.out.pg.cell 1).trans rfl
               have c4a := cell_new c4 (.cells #[.string (strB s)] 9)
               have hsz4 : p + 1 ≤ (w4.alloc (.cells #[.string (strB s)] 9)).heap.size := by have := h4.out.lt; simp; omega
               clear hp4 hk4)
            | (refine step_append_any (w4.alloc (.cells #[.string (strB s)] 9)) (by rfl) (.tmp 42) (.tmp 45) _ (by rfl) (p + 1) 9 i0 _ 1 16 Try.underlying64 hi0 hz0 hz1 hz2 rfl (by omega) vk ks.length _ (by rfl) (h4.out.k.alloc _) (w4.heap.size + 1) (some ⟨w4.heap.size, 0, none⟩) 1 1 [.string (strB s)] (by rfl) (lit_reads _ _ _) (by simp [Value.oneCell']) (by unfold maxLen; omega) (by omega) hsz4 ?_; intro v5 w5 hown5 hg5 hat5
               obtain ⟨A5, cp5, rfl⟩ := own_shape hown5
               have h4a := h4.out.alloc (.cells #[.string (strB s)] 9)
               have hpg5 := h4a.pg.grown hg5 (fun e => own_blk_ne h4a.k h4a.pg (by decide) e.symm)
               have c5 : w5.cell? ⟨w.heap.size + 1, 1, none⟩ = some vk := (hpg5.cell 1).trans rfl
               have f5 := hpg5.frozen 1
               have h5 := Lib.hid (h4a.key (by decide) (by decide) (strB s) hown5 hg5 hat5)
               clear hown5 hg5 hat5 hpg5 h4a))
        all_goals (go_wp2_with fail; go_meet; exact ⟨_, h5⟩)
      case rest =>
        obtain ⟨vk', HI2⟩ := hcut
        obtain ⟨wb, rfl⟩ : ∃ wb : World, wb = wc := ⟨_, rfl⟩
        have k0' : wb.cell? ⟨w.heap.size + 1, 0, none⟩ = some (.bool true) := (HI2.out.pg.cell 0).trans rfl
        have k2' : wb.cell? ⟨w.heap.size + 1, 2, none⟩ = some vv := (HI2.out.pg.cell 2).trans rfl
        clear k0 CS
        go_upto_region 10 with fail
        go_cut [] (fun wx => ∃ vv', Hid (PgInv 149 67 w (w.heap.size + 1) true p wx (ks ++ [strB s]) (vs ++ [strB v]) [] l4 b4 vk' vv' (.slice none 0 0)))
        case first =>
          go_region_law
            (first
              | (go_simp; go_at_call 73; go_must (refine (CV.out wb.drew HI2.out.rd).mono ?_); rintro e w4 ⟨rfl, hp4, hk4⟩
                 have h4 := Lib.hid (HI2.out.drew.call (by decide) (by decide) hp4 hk4)
                 have c4 : w4.cell? ⟨w.heap.size + 1, 2, none⟩ = some vv := (h4.out.pg.cell 2).trans rfl
                 have c4a := cell_new c4 (.cells #[.string (strB v)] 9)
                 have hsz4 : p + 1 ≤ (w4.alloc (.cells #[.string (strB v)] 9)).heap.size := by have := h4.out.lt; simp; omega
                 clear hp4 hk4)
              | (refine step_append_any (w4.alloc (.cells #[.string (strB v)] 9)) (by rfl) (.tmp 51) (.tmp 54) _ (by rfl) (p + 1) 9 i0 _ 1 16 Try.underlying64 hi0 hz0 hz1 hz2 rfl (by omega) vv vs.length _ (by rfl) (h4.out.v.alloc _) (w4.heap.size + 1) (some ⟨w4.heap.size, 0, none⟩) 1 1 [.string (strB v)] (by rfl) (lit_reads _ _ _) (by simp [Value.oneCell']) (by unfold maxLen; omega) (by omega) hsz4 ?_; intro v5 w5 hown5 hg5 hat5
                 obtain ⟨A5, cp5, rfl⟩ := own_shape hown5
                 have h4a := h4.out.alloc (.cells #[.string (strB v)] 9)
                 have hpg5 := h4a.pg.grown hg5 (fun e => own_blk_ne h4a.v h4a.pg (by decide) e.symm)
                 have c5 : w5.cell? ⟨w.heap.size + 1, 2, none⟩ = some vv := (hpg5.cell 2).trans rfl
                 have f5 := hpg5.frozen 2
                 have h5 := Lib.hid (h4a.val (by decide) (by decide) (strB v) hown5 hg5 hat5)
                 clear hown5 hg5 hat5 hpg5 h4a))
          all_goals (go_wp2_with fail; go_meet; exact ⟨_, h5⟩)
        case rest =>
          obtain ⟨vv', HI3⟩ := hcut
          clear k0' k2' CV
          have CB := Lib.hid (bad_any HI3.out.rd)
          have HR2 : Hid (readKV true M l1 b1 = (readKV true (M - (i + 1)) l4 b4).behind (ks ++ [strB s]) (vs ++ [strB v])) := Lib.hid (by
            rw [HR.out, show M - i = (M - (i + 1)) + 1 by omega, readKV_leaf _ _ _ _ HS1.out HS2.out])
          cases b4 with
          | true =>
            obtain ⟨z0, z1, z2, z3⟩ := cells4 HI3.out.z
            have f0 := HI3.out.z.frozen 0
            have f1 := HI3.out.z.frozen 1
            have f2 := HI3.out.z.frozen 2
            have f3 := HI3.out.z.frozen 3
            go_wp2_with (go_at_call 74; refine CB.out.mono ?_; rintro e w' ⟨rfl, rfl⟩)
            refine bodyPost_ret_by (results_cs rfl _ _ w.heap.size 67 #[.bool false, .slice none 0 0, .slice none 0 0, .slice none 0 0] (0, 0) _ rfl ?_ Try.underlying67 rfl (by kernel_rfl)) rfl ⟨?_, ?_⟩
            · exact set4 HI3.out.z
            · exact ((((HI3.out.be.setCell (p := ⟨w.heap.size, 0, none⟩) (Nat.le_refl _) _).setCell (p := ⟨w.heap.size, 1, none⟩) (Nat.le_refl _) _).setCell (p := ⟨w.heap.size, 2, none⟩) (Nat.le_refl _) _).setCell (p := ⟨w.heap.size, 3, none⟩) (Nat.le_refl _) _)
            · rw [dec_leaf_bad (M := M) HST.out (by have := HM.out; have := HL.out; omega) (by rw [HR2.out]; exact readKV_bad _ _ _)]
              rfl
          | false =>
            go_wp2_with (go_at_call 74; refine CB.out.mono ?_; rintro e w' ⟨rfl, rfl⟩)
            go_roundg (M - (i + 1))
            case measure => have := HI0.out; omega
            case rel => exact ⟨i + 1, _, _, l4, false, vk', vv', by have := HI0.out; omega, by go_num, HI3, Lib.hid (fun _ => rfl), Lib.hid (by rw [List.length_append, HLK.out]; rfl), Lib.hid (by rw [List.length_append, HLV.out]; rfl), HR2⟩
    · obtain rfl : i = M := by omega
      have CB := Lib.hid (bad_any HI.out.rd)
      have CL := Lib.hid (left_any HI.out.rd)
      have HRR : Hid (readKV true i l1 b1 = ⟨ks, vs, l2, b⟩) := Lib.hid (by rw [HR.out, Nat.sub_self]; simp [readKV, Kv.behind])
      have hMin : Hid (i = min u (l'.length + 1)) := Lib.hid (by have := HM.out; have := HL.out; omega)
      have HZ := Lib.hid HI.out.z
      have HBE := Lib.hid HI.out.be
      obtain ⟨q0, q1, q2, q3⟩ := cells4 HI.out.pg
      obtain ⟨z0, z1, z2, z3⟩ := cells4 HI.out.z
      have f0 := HI.out.z.frozen 0
      have f1 := HI.out.z.frozen 1
      have f2 := HI.out.z.frozen 2
      have f3 := HI.out.z.frozen 3
      obtain ⟨Ak, ck, rfl⟩ := own_shape HI.out.k
      obtain ⟨Av, cv, rfl⟩ := own_shape HI.out.v
      clear HB HHL HR
      go_wp2_with fail
      go_loop [7] (fun kv => kv = .int .u64 0) (fun _ => 0)
      case atStart => rfl
      case round =>
        subst hrel
        cases b with
        | true =>
          go_wp2_with (go_at_call 74; refine CB.out.mono ?_; rintro e w' ⟨rfl, rfl⟩)
          refine bodyPost_ret_by (results_cs rfl _ _ w.heap.size 67 #[.bool false, .slice none 0 0, .slice none 0 0, .slice none 0 0] (0, 0) _ rfl ?_ Try.underlying67 rfl (by kernel_rfl)) rfl ⟨?_, ?_⟩
          · exact set4 HZ.out
          · exact ((((HBE.out.setCell (p := ⟨w.heap.size, 0, none⟩) (Nat.le_refl _) _).setCell (p := ⟨w.heap.size, 1, none⟩) (Nat.le_refl _) _).setCell (p := ⟨w.heap.size, 2, none⟩) (Nat.le_refl _) _).setCell (p := ⟨w.heap.size, 3, none⟩) (Nat.le_refl _) _)
          · rw [dec_leaf_bad HST.out hMin.out (by rw [HRR.out])]
            rfl
        | false =>
          by_cases g1 : l2 = []
          · subst g1
            have hl0 : ((([] : List UInt8).length : Nat) : Int) = 0 := rfl
            have CL0 := CL.out
            rw [hl0] at CL0
            have CL0 := Lib.hid CL0
            have hsz := readKV_sizes true i l1 b1
            rw [HRR.out] at hsz
            have hl1 : l1.length ≤ l'.length := by have := rdNum_le l' false; rw [HST.out] at this; exact this
            have hfit : Fits ⟨true, ks, vs, []⟩ := ⟨by have := HLK.out; show ks.length ≤ _; omega, by have := HLV.out; show vs.length ≤ _; omega, by simp, fun s hs => by have := hsz.1 s hs; have := HL.out; omega, fun s hs => by have := hsz.2 s hs; have := HL.out; omega⟩
            have hpg : PgR wr Ak ck Av cv none 0 ⟨true, ks, vs, []⟩ := pgr_own HI.out.k HI.out.v (own_nil_row wr (p + 1) 32)
            have CG := good_any hpg hfit
            have HDEC := Lib.hid (dec_leaf_ok HST.out hMin.out HRR.out)
            have HPG := Lib.hid hpg
            unfold pgv at CG
            dsimp only at CG
            have CG := Lib.hid CG
            clear CL hsz hl1 hfit hpg hl0
            generalize goodB ⟨true, ks, vs, []⟩ = G at CG HDEC
            cases G with
            | true =>
              go_wp2_with (first
                | (go_at_call 74; refine CB.out.mono ?_; rintro e w' ⟨rfl, rfl⟩)
                | (go_at_call 75; refine CL0.out.mono ?_; rintro e w' ⟨rfl, rfl⟩)
                | (go_at_call 38; refine CG.out.mono ?_; rintro e w9 ⟨rfl, hb9⟩
                   have hz9 := Lib.hid (HZ.out.below hb9 HZ.out.lt)
                   have hp9 := HI.out.pg.below hb9 HI.out.pg.lt
                   obtain ⟨q0, q1, q2, q3⟩ := cells4 hp9
                   obtain ⟨z0, z1, z2, z3⟩ := cells4 hz9.out
                   have f0 := hz9.out.frozen 0
                   have f1 := hz9.out.frozen 1
                   have f2 := hz9.out.frozen 2
                   have f3 := hz9.out.frozen 3
                   have HB9 := Lib.hid hb9
                   clear hb9 hp9))
              have hk9 := own_set4 (u0 := .bool true) (u1 := .slice Ak ks.length ck) (u2 := .slice Av vs.length cv) (u3 := .slice none 0 0) (own_below HI.out.k HB9.out) hz9.out (by decide)
              have hv9 := own_set4 (u0 := .bool true) (u1 := .slice Ak ks.length ck) (u2 := .slice Av vs.length cv) (u3 := .slice none 0 0) (own_below HI.out.v HB9.out) hz9.out (by decide)
              refine bodyPost_ret_by (results_cs rfl _ _ w.heap.size 67 #[.bool true, .slice Ak ks.length ck, .slice Av vs.length cv, .slice none 0 0] (0, 0) _ rfl ?_ Try.underlying67 rfl (by kernel_rfl)) rfl ⟨?_, ?_⟩
              · exact set4 hz9.out
              · exact (((((HBE.out.trans (HB9.out.mono HBE.out.size)).setCell (p := ⟨w.heap.size, 0, none⟩) (Nat.le_refl _) _).setCell (p := ⟨w.heap.size, 1, none⟩) (Nat.le_refl _) _).setCell (p := ⟨w.heap.size, 2, none⟩) (Nat.le_refl _) _).setCell (p := ⟨w.heap.size, 3, none⟩) (Nat.le_refl _) _)
              · rw [HDEC.out]
                exact ⟨Ak, ck, Av, cv, none, 0, rfl, pgr_own hk9 hv9 (own_nil_row _ (p + 1) 32)⟩
            | false =>
              go_wp2_with (first
                | (go_at_call 74; refine CB.out.mono ?_; rintro e w' ⟨rfl, rfl⟩)
                | (go_at_call 75; refine CL0.out.mono ?_; rintro e w' ⟨rfl, rfl⟩)
                | (go_at_call 38; refine CG.out.mono ?_; rintro e w9 ⟨rfl, hb9⟩
                   have hz9 := Lib.hid (HZ.out.below hb9 HZ.out.lt)
                   obtain ⟨z0, z1, z2, z3⟩ := cells4 hz9.out
                   have f0 := hz9.out.frozen 0
                   have f1 := hz9.out.frozen 1
                   have f2 := hz9.out.frozen 2
                   have f3 := hz9.out.frozen 3
                   have HB9 := Lib.hid (HBE.out.trans (hb9.mono HBE.out.size))
                   clear hb9))
              refine bodyPost_ret_by (results_cs rfl _ _ w.heap.size 67 #[.bool false, .slice none 0 0, .slice none 0 0, .slice none 0 0] (0, 0) _ rfl ?_ Try.underlying67 rfl (by kernel_rfl)) rfl ⟨?_, ?_⟩
              · exact set4 hz9.out
              · exact ((((HB9.out.setCell (p := ⟨w.heap.size, 0, none⟩) (Nat.le_refl _) _).setCell (p := ⟨w.heap.size, 1, none⟩) (Nat.le_refl _) _).setCell (p := ⟨w.heap.size, 2, none⟩) (Nat.le_refl _) _).setCell (p := ⟨w.heap.size, 3, none⟩) (Nat.le_refl _) _)
              · rw [HDEC.out]
                rfl
          · have hl0 : decide ((0 : Int) < (l2.length : Int)) = true := decide_eq_true (by have := List.length_pos_iff.2 g1; omega)
            have hl1 : decide (0 < l2.length) = true := decide_eq_true (List.length_pos_iff.2 g1)
            have HDEC : Hid (decP (76 :: l') = none) := Lib.hid (by rw [dec_leaf_ok HST.out hMin.out HRR.out, if_pos g1])
            have hl2 : l2.length ≤ 9223372036854775807 := by obtain ⟨_, _, _, _, h9⟩ := HI.out.rd; have := h9.2.2.2.2; have := h9.2.2.1; have h8 := h9.2.2.2.1; unfold maxLen at h8; omega
            clear g1
            generalize l2.length = n2 at *
            go_wp2_with (first
              | (go_at_call 74; refine CB.out.mono ?_; rintro e w' ⟨rfl, rfl⟩)
              | (go_at_call 75; refine CL.out.mono ?_; rintro e w' ⟨rfl, rfl⟩))
            refine bodyPost_ret_by (results_cs rfl _ _ w.heap.size 67 #[.bool false, .slice none 0 0, .slice none 0 0, .slice none 0 0] (0, 0) _ rfl ?_ Try.underlying67 rfl (by kernel_rfl)) rfl ⟨?_, ?_⟩
            · exact set4 HZ.out
            · exact ((((HBE.out.setCell (p := ⟨w.heap.size, 0, none⟩) (Nat.le_refl _) _).setCell (p := ⟨w.heap.size, 1, none⟩) (Nat.le_refl _) _).setCell (p := ⟨w.heap.size, 2, none⟩) (Nat.le_refl _) _).setCell (p := ⟨w.heap.size, 3, none⟩) (Nat.le_refl _) _)
            · rw [HDEC.out]
              rfl
end
end Go.Proofs.Ytlbikfamjogpnaa
end

/- page.Decode of the bytes of a branch: what it answers. Conditions: the bytes read in memory; they are few enough. -/
section
namespace Go.Proofs.Ytlbikfamjogpnaa
open Go.RowKit Go.Proofs.YtlbikfamjogpnaaW.PrintWords Go.Proofs.Ytlbikfamjogpnaa.QPage

section
variable {w : World} {A : Option Addr} {n c : Nat} {l : List UInt8}
set_option maxRecDepth 100000 in
set_option maxHeartbeats 8000000 in
theorem decode_branch {l' : List UInt8} (h : Bts w A n c (66 :: l')) (hn : n ≤ 100000) : Calls Try.prog 36 #[.slice A n c] w (DecPost w (66 :: l')) := by
  obtain ⟨A9, hb9, hcut⟩ := bts_tail h
  obtain ⟨ad, rfl, hc, h1, h2⟩ := bts_head h
  replace hc : w.cell? ad = some (.int .u8 66) := hc
  have e0 : ((n : Int) == 0) = false := beq_eq_false_iff_ne.2 (by omega)
  have hm := h.2.2.2.1
  unfold maxLen at hm
  have i1 : 0 < n := by omega
  obtain ⟨W0, hW0⟩ : ∃ W0, W0 = w.alloc (.cells #[.bool false, .slice none 0 0, .slice none 0 0, .slice none 0 0] 67) := ⟨_, rfl⟩
  have hc2 := cell_new hc (.cells #[.bool false, .slice none 0 0, .slice none 0 0, .slice none 0 0] 67)
  obtain ⟨W1, hW1⟩ : ∃ W1, W1 = W0.alloc (.cells #[.bool false, .slice none 0 0, .slice none 0 0, .slice none 0 0] 67) := ⟨_, rfl⟩
  have hb0 : Below w.heap.size w W0 := by rw [hW0]; exact (Below.refl _ _).alloc (Nat.le_refl _) _
  have hs0 : W0.heap.size = w.heap.size + 1 := by rw [hW0]; simp
  have hb1 : Below w.heap.size w W1 := by rw [hW1]; exact hb0.alloc hb0.size _
  have hs1 : W1.heap.size = w.heap.size + 2 := by rw [hW1]; simp [hs0]
  have kz : Blk W1 w.heap.size 67 #[.bool false, .slice none 0 0, .slice none 0 0, .slice none 0 0] := by rw [hW1, hW0]; exact (Blk.new _ _ _).alloc _
  have kp : Blk W1 (w.heap.size + 1) 67 #[.bool false, .slice none 0 0, .slice none 0 0, .slice none 0 0] := by rw [hW1, ← hs0]; exact Blk.new _ _ _
  have hl' : l'.length = n - 1 := hb9.2.2.2.2
  have CR := Lib.hid (read_new (hb9.below hb1) (by omega))
  have HW1 := Lib.hid hW1
  have HW0 := Lib.hid hW0
  have HB1 := Lib.hid hb1
  have KZ := Lib.hid kz
  have KP := Lib.hid kp
  have HS1 := Lib.hid hs1
  have HL := Lib.hid hl'
  clear h hb9 hW0 hW1 hb0 hb1 kz kp hs0 hs1 hl'
  go_enter Try.func36, Try.ntmps36
  go_wp2_with fail
  rw [← HW0.out, ← HW1.out]
  refine CR.out.mono ?_
  rintro e w2 ⟨p, rfl, hp, hpB, hbel⟩
  clear CR hc2 hc hcut
  have hK2 : Blk w2 (w.heap.size + 1) 67 #[.bool false, .slice none 0 0, .slice none 0 0, .slice none 0 0] := KP.out.below hbel (by rw [HS1.out]; omega)
  have hZ2 : Blk w2 w.heap.size 67 #[.bool false, .slice none 0 0, .slice none 0 0, .slice none 0 0] := KZ.out.below hbel (by rw [HS1.out]; omega)
  have CU := Lib.hid (readU_any hp)
  have HP2 := Lib.hid hp
  have HB2 : Hid (Below w.heap.size w w2) := Lib.hid (HB1.out.trans (hbel.mono HB1.out.size))
  have HK2 := Lib.hid hK2
  have HZ2 := Lib.hid hZ2
  have HPB : Hid (w.heap.size + 2 ≤ p) := Lib.hid (by rw [← HS1.out]; exact hpB)
  clear hK2 hZ2 hp hpB hbel KZ KP HB1 HW1 HW0 HS1
  have hlt := rdNum_lt l' false
  generalize hst : rdNum l' false = st at *
  obtain ⟨u, l1, b1⟩ := st
  dsimp only at CU hlt
  have HST := Lib.hid hst
  clear hst
  go_wp2_with fail
  refine CU.out.mono ?_
  rintro e w3 ⟨rfl, hp3, hk3⟩
  go_wp2_with fail
  obtain ⟨M, hM⟩ : ∃ M : Nat, M = min u n := ⟨_, rfl⟩
  have hMi : min (u : Int) (n : Int) = (M : Int) := by omega
  have hb3 : Below w.heap.size w w3 := HB2.out.trans (hk3.below (Nat.le_trans (Nat.le_refl _) HB2.out.size) (by rintro k rfl; have := HPB.out; omega))
  have hinv : PgInv 149 67 w (w.heap.size + 1) false p w3 [] [] [] l1 b1 (.slice none 0 0) (.slice none 0 0) (.slice none 0 0) :=
    ⟨hp3, hk3.blk HK2.out (fun h => by have := HPB.out; omega), hk3.blk HZ2.out (fun h => by have := HPB.out; omega), own_nil_row _ _ _, own_nil_row _ _ _, own_nil_row _ _ _, fun g hg => by simp [Value.ownBlock] at hg, hb3, by omega, by have := HPB.out; omega⟩
  have HINV := Lib.hid hinv
  have hbz : 0 < M → b1 = false := fun h => by
    cases hb : b1 with
    | false => rfl
    | true => have h9 := HST.out; rw [hb] at h9; have := rdNum_zero h9; omega
  have HBZ := Lib.hid hbz
  have HM := Lib.hid hM
  obtain ⟨i0, hi0, hz0, hz1, hz2⟩ := info_parts cinfo_str
  have hMn : M ≤ 100000 := by omega
  have HHL := Lib.hid hlt
  clear hb3 hinv hp3 hk3 hbz CU HP2 HK2 HZ2 HB2 hlt
  rw [hMi]
  clear hMi hM
  go_loopg [39] M (fun m cv wr => ∃ (i : Nat) (ks vs : List ByteArray) (l2 : List UInt8) (b : Bool) (vk vv : Value), i + m = M ∧ cv = .int .u64 (i : Int) ∧
    Hid (PgInv 149 67 w (w.heap.size + 1) false p wr ks vs [] l2 b vk vv (.slice none 0 0)) ∧ Hid (0 < m → b = false) ∧ Hid (ks.length = i) ∧ Hid (vs = []) ∧
    Hid (readKV false M l1 b1 = (readKV false (M - i) l2 b).behind ks vs))
  case atStart => exact ⟨0, [], [], l1, b1, _, _, by omega, rfl, HINV, HBZ, Lib.hid rfl, Lib.hid rfl, Lib.hid rfl⟩
  case round =>
    obtain ⟨i, ks, vs, l2, b, vk, vv, hi, rfl, HI, HB, HLK, HLV, HR⟩ := hrel
    by_cases hlt2 : i < M
    · obtain rfl : b = false := HB.out (by omega)
      have CS := Lib.hid (fun (W : World) (h : RdAt 149 W p l2 false) => readS_at h)
      generalize hs1 : rdStr l2 false = s1 at *
      obtain ⟨s, l3, b3⟩ := s1
      dsimp only at CS
      have HS1 := Lib.hid hs1
      have HI0 := Lib.hid hi
      have k0 : wr.cell? ⟨w.heap.size + 1, 1, none⟩ = some vk := (HI.out.pg.cell 1).trans rfl
      have hks : ks.length ≤ 100000 := by have := HLK.out; omega
      clear hs1 hi
      go_upto_region 8 with fail
      go_cut [] (fun wx => ∃ vk', Hid (PgInv 149 67 w (w.heap.size + 1) false p wx (ks ++ [strB s]) vs [] l3 b3 vk' vv (.slice none 0 0)))
      case first =>
        go_region_law
          (first
            | (go_simp; go_at_call 73; go_must (refine (CS.out wr.drew HI.out.rd).mono ?_); rintro e w4 ⟨rfl, hp4, hk4⟩
               have h4 := Lib.hid (HI.out.drew.call (by decide) (by decide) hp4 hk4)
               have c4 : w4.cell? ⟨w.heap.size + 1, 1, none⟩ = some vk := (h4.out.pg.cell 1).trans rfl
               have c4a := cell_new c4 (.cells #[.string (strB s)] 9)
               have hsz4 : p + 1 ≤ (w4.alloc (.cells #[.string (strB s)] 9)).heap.size := by have := h4.out.lt; simp; omega
               clear hp4 hk4)
            | (refine step_append_any (w4.alloc (.cells #[.string (strB s)] 9)) (by rfl) (.tmp 42) (.tmp 45) _ (by rfl) (p + 1) 9 i0 _ 1 16 Try.underlying64 hi0 hz0 hz1 hz2 rfl (by omega) vk ks.length _ (by rfl) (h4.out.k.alloc _) (w4.heap.size + 1) (some ⟨w4.heap.size, 0, none⟩) 1 1 [.string (strB s)] (by rfl) (lit_reads _ _ _) (by simp [Value.oneCell']) (by unfold maxLen; omega) (by omega) hsz4 ?_; intro v5 w5 hown5 hg5 hat5
               obtain ⟨A5, cp5, rfl⟩ := own_shape hown5
               have h4a := h4.out.alloc (.cells #[.string (strB s)] 9)
               have hpg5 := h4a.pg.grown hg5 (fun e => own_blk_ne h4a.k h4a.pg (by decide) e.symm)
               have c5 : w5.cell? ⟨w.heap.size + 1, 1, none⟩ = some vk := (hpg5.cell 1).trans rfl
               have f5 := hpg5.frozen 1
               have h5 := Lib.hid (h4a.key (by decide) (by decide) (strB s) hown5 hg5 hat5)
               clear hown5 hg5 hat5 hpg5 h4a))
        all_goals (go_wp2_with fail; go_meet; exact ⟨_, h5⟩)
      case rest =>
        obtain ⟨vk', HI2⟩ := hcut
        have k0' : wc.cell? ⟨w.heap.size + 1, 0, none⟩ = some (.bool false) := (HI2.out.pg.cell 0).trans rfl
        clear k0 CS
        have CB := Lib.hid (bad_any HI2.out.rd)
        have HR2 : Hid (readKV false M l1 b1 = (readKV false (M - (i + 1)) l3 b3).behind (ks ++ [strB s]) vs) := Lib.hid (by
          rw [HR.out, show M - i = (M - (i + 1)) + 1 by omega, readKV_branch _ _ _ _ HS1.out])
        cases b3 with
        | true =>
          obtain ⟨z0, z1, z2, z3⟩ := cells4 HI2.out.z
          have f0 := HI2.out.z.frozen 0
          have f1 := HI2.out.z.frozen 1
          have f2 := HI2.out.z.frozen 2
          have f3 := HI2.out.z.frozen 3
          go_wp2_with (go_at_call 74; refine CB.out.mono ?_; rintro e w' ⟨rfl, rfl⟩)
          refine bodyPost_ret_by (results_cs rfl _ _ w.heap.size 67 #[.bool false, .slice none 0 0, .slice none 0 0, .slice none 0 0] (0, 0) _ rfl ?_ Try.underlying67 rfl (by kernel_rfl)) rfl ⟨?_, ?_⟩
          · exact set4 HI2.out.z
          · exact ((((HI2.out.be.setCell (p := ⟨w.heap.size, 0, none⟩) (Nat.le_refl _) _).setCell (p := ⟨w.heap.size, 1, none⟩) (Nat.le_refl _) _).setCell (p := ⟨w.heap.size, 2, none⟩) (Nat.le_refl _) _).setCell (p := ⟨w.heap.size, 3, none⟩) (Nat.le_refl _) _)
          · rw [dec_br_bad (M := M) HST.out (by have := HM.out; have := HL.out; omega) (by rw [HR2.out]; exact readKV_bad _ _ _)]
            rfl
        | false =>
          go_wp2_with (go_at_call 74; refine CB.out.mono ?_; rintro e w' ⟨rfl, rfl⟩)
          go_roundg (M - (i + 1))
          case measure => have := HI0.out; omega
          case rel => exact ⟨i + 1, _, _, l3, false, vk', vv, by have := HI0.out; omega, by go_num, HI2, Lib.hid (fun _ => rfl), Lib.hid (by rw [List.length_append, HLK.out]; rfl), HLV, HR2⟩
    · obtain rfl : i = M := by omega
      obtain rfl : vs = [] := HLV.out
      have HRR : Hid (readKV false i l1 b1 = ⟨ks, [], l2, b⟩) := Lib.hid (by rw [HR.out, Nat.sub_self]; simp [readKV, Kv.behind])
      have hMin : Hid (i = min u (l'.length + 1)) := Lib.hid (by have := HM.out; have := HL.out; omega)
      clear HB HHL HR
      cases b with
      | true =>
        have CB := Lib.hid (bad_any HI.out.rd)
        have HZ := Lib.hid HI.out.z
        have HBE := Lib.hid HI.out.be
        obtain ⟨q0, q1, q2, q3⟩ := cells4 HI.out.pg
        obtain ⟨z0, z1, z2, z3⟩ := cells4 HI.out.z
        have f0 := HI.out.z.frozen 0
        have f1 := HI.out.z.frozen 1
        have f2 := HI.out.z.frozen 2
        have f3 := HI.out.z.frozen 3
        have e9 : decide ((0 : Int) ≤ (u : Int)) = true := decide_eq_true (by omega)
        go_wp2_with fail
        go_loop [7] (fun kv => kv = .int .u64 0) (fun _ => 0)
        case atStart => rfl
        case round =>
          subst hrel
          go_wp2_with (go_at_call 74; refine CB.out.mono ?_; rintro e w' ⟨rfl, rfl⟩)
          refine bodyPost_ret_by (results_cs rfl _ _ w.heap.size 67 #[.bool false, .slice none 0 0, .slice none 0 0, .slice none 0 0] (0, 0) _ rfl ?_ Try.underlying67 rfl (by kernel_rfl)) rfl ⟨?_, ?_⟩
          · exact set4 HZ.out
          · exact ((((HBE.out.setCell (p := ⟨w.heap.size, 0, none⟩) (Nat.le_refl _) _).setCell (p := ⟨w.heap.size, 1, none⟩) (Nat.le_refl _) _).setCell (p := ⟨w.heap.size, 2, none⟩) (Nat.le_refl _) _).setCell (p := ⟨w.heap.size, 3, none⟩) (Nat.le_refl _) _)
          · rw [dec_br_bad HST.out hMin.out (by rw [HRR.out])]
            rfl
      | false =>
        obtain ⟨hule, hiu⟩ := dec_br_le HST.out hMin.out (by rw [HRR.out])
        subst hiu
        have HULE := Lib.hid hule
        obtain ⟨j0, hj0, jz0, jz1, jz2⟩ := info_parts cinfo_u64
        have HLL : Hid (i ≤ 100000) := Lib.hid (by have := HL.out; omega)
        have hil : i ≤ 100000 := HLL.out
        clear hule hMn hlt2 hMin
        go_wp2_with fail
        obtain ⟨wo, rfl⟩ : ∃ wo : World, wo = wr := ⟨_, rfl⟩
        go_loopg [7] (i + 2) (fun m kv wr => ∃ (k : Nat) (ns : List Int) (l3 : List UInt8) (b3 : Bool) (vn : Value), k + m = i + 2 ∧ k ≤ i + 1 ∧ kv = .int .u64 (k : Int) ∧
          Hid (PgInv 149 67 w (w.heap.size + 1) false p wr ks [] ns l3 b3 vk vv vn) ∧ Hid (ns.length = k) ∧ Hid (readN (i + 1) l2 false = (readN (i + 1 - k) l3 b3).behind ns))
        case atStart => exact ⟨0, [], l2, false, _, by omega, by omega, rfl, HI, Lib.hid rfl, Lib.hid rfl⟩
        case round =>
          obtain ⟨k, ns, l3, b3, vn, hk, hki, rfl, HK, HLN, HRN⟩ := hrel
          have HKM := Lib.hid hk
          clear hk
          have CB := Lib.hid (bad_any HK.out.rd)
          have CL := Lib.hid (left_any HK.out.rd)
          obtain ⟨q0, q1, q2, q3⟩ := cells4 HK.out.pg
          by_cases hgo : k < i + 1 ∧ b3 = false
          · obtain ⟨hk1, rfl⟩ := hgo
            have e9 : decide ((k : Int) ≤ (i : Int)) = true := decide_eq_true (by omega)
            have e8 : decide (k ≤ i) = true := decide_eq_true (by omega)
            have CU := Lib.hid (fun (W : World) (h : RdAt 149 W p l3 false) => readU_any h)
            generalize hs1 : rdNum l3 false = s1 at *
            obtain ⟨x, l4, b4⟩ := s1
            dsimp only at CU
            have HS1 := Lib.hid hs1
            have hns : ns.length ≤ 200000 := by have := HLN.out; omega
            clear hs1
            go_wp2_with (go_at_call 74; refine CB.out.mono ?_; rintro e w' ⟨rfl, rfl⟩)
            go_region_law
              (first
                | (go_simp; go_at_call 72; go_must (refine (CU.out wr.drew HK.out.rd).mono ?_); rintro e w4 ⟨rfl, hp4, hk4⟩
                   have h4 := Lib.hid (HK.out.drew.call (by decide) (by decide) hp4 hk4)
                   have c4 : w4.cell? ⟨w.heap.size + 1, 3, none⟩ = some vn := (h4.out.pg.cell 3).trans rfl
                   have c4a := cell_new c4 (.cells #[.int .u64 (x : Int)] 32)
                   have hsz4 : p + 1 ≤ (w4.alloc (.cells #[.int .u64 (x : Int)] 32)).heap.size := by have := h4.out.lt; simp; omega
                   clear hp4 hk4)
                | (refine step_append_any (w4.alloc (.cells #[.int .u64 (x : Int)] 32)) (by rfl) (.tmp 77) (.tmp 80) _ (by rfl) (p + 1) 32 j0 _ 1 8 Try.underlying65 hj0 jz0 jz1 jz2 rfl (by omega) vn ns.length _ (by rfl) (h4.out.n.alloc _) (w4.heap.size + 1) (some ⟨w4.heap.size, 0, none⟩) 1 1 [.int .u64 (x : Int)] (by rfl) (lit_reads _ _ _) (by simp [Value.oneCell']) (by unfold maxLen; omega) (by omega) hsz4 ?_; intro v5 w5 hown5 hg5 hat5
                   obtain ⟨A5, cp5, rfl⟩ := own_shape hown5
                   have h4a := h4.out.alloc (.cells #[.int .u64 (x : Int)] 32)
                   have hpg5 := h4a.pg.grown hg5 (fun e => own_blk_ne h4a.n h4a.pg (by decide) e.symm)
                   have c5 : w5.cell? ⟨w.heap.size + 1, 3, none⟩ = some vn := (hpg5.cell 3).trans rfl
                   have f5 := hpg5.frozen 3
                   have h5 := Lib.hid (h4a.kid (by decide) (by decide) (x : Int) hown5 hg5)
                   clear hown5 hg5 hat5 hpg5 h4a))
            all_goals
              go_wp2_with fail
              go_roundg (i + 2 - (k + 1))
              case measure => have := HKM.out; omega
              case rel => exact ⟨k + 1, _, l4, b4, _, by have := HKM.out; omega, by omega, by go_num, h5, Lib.hid (by rw [List.length_append, HLN.out]; rfl), Lib.hid (by rw [HRN.out, show i + 1 - k = (i + 1 - (k + 1)) + 1 by omega, readN_step _ _ _ _ HS1.out])⟩
          · have HZ := Lib.hid HK.out.z
            have HBE := Lib.hid HK.out.be
            obtain ⟨z0, z1, z2, z3⟩ := cells4 HK.out.z
            have f0 := HK.out.z.frozen 0
            have f1 := HK.out.z.frozen 1
            have f2 := HK.out.z.frozen 2
            have f3 := HK.out.z.frozen 3
            cases b3 with
            | true =>
              have HDEC : Hid (decP (66 :: l') = none) := Lib.hid (by
                have hb : (readN (i + 1) l2 false).bad = true := by rw [HRN.out]; exact readN_bad _ _
                cases hR : readN (i + 1) l2 false with
                | mk ns9 l9 b9 =>
                  rw [hR] at hb
                  have hb : b9 = true := hb
                  rw [dec_br_ok HST.out HULE.out HRR.out hR, hb]
                  rfl)
              cases e8 : decide (k ≤ i) with
              | true =>
                have e9 : decide ((k : Int) ≤ (i : Int)) = true := decide_eq_true (by have := of_decide_eq_true e8; omega)
                go_wp2_with (go_at_call 74; refine CB.out.mono ?_; rintro e w' ⟨rfl, rfl⟩)
                refine bodyPost_ret_by (results_cs rfl _ _ w.heap.size 67 #[.bool false, .slice none 0 0, .slice none 0 0, .slice none 0 0] (0, 0) _ rfl ?_ Try.underlying67 rfl (by kernel_rfl)) rfl ⟨?_, ?_⟩
                · exact set4 HZ.out
                · exact ((((HBE.out.setCell (p := ⟨w.heap.size, 0, none⟩) (Nat.le_refl _) _).setCell (p := ⟨w.heap.size, 1, none⟩) (Nat.le_refl _) _).setCell (p := ⟨w.heap.size, 2, none⟩) (Nat.le_refl _) _).setCell (p := ⟨w.heap.size, 3, none⟩) (Nat.le_refl _) _)
                · rw [HDEC.out]
                  rfl
              | false =>
                have e9 : decide ((k : Int) ≤ (i : Int)) = false := decide_eq_false (by have := of_decide_eq_false e8; omega)
                go_wp2_with (go_at_call 74; refine CB.out.mono ?_; rintro e w' ⟨rfl, rfl⟩)
                refine bodyPost_ret_by (results_cs rfl _ _ w.heap.size 67 #[.bool false, .slice none 0 0, .slice none 0 0, .slice none 0 0] (0, 0) _ rfl ?_ Try.underlying67 rfl (by kernel_rfl)) rfl ⟨?_, ?_⟩
                · exact set4 HZ.out
                · exact ((((HBE.out.setCell (p := ⟨w.heap.size, 0, none⟩) (Nat.le_refl _) _).setCell (p := ⟨w.heap.size, 1, none⟩) (Nat.le_refl _) _).setCell (p := ⟨w.heap.size, 2, none⟩) (Nat.le_refl _) _).setCell (p := ⟨w.heap.size, 3, none⟩) (Nat.le_refl _) _)
                · rw [HDEC.out]
                  rfl
            | false =>
              have hke : k = i + 1 := by
                rcases Nat.lt_or_ge k (i + 1) with h | h
                · exact absurd ⟨h, rfl⟩ hgo
                · omega
              have HNN : Hid (readN (i + 1) l2 false = ⟨ns, l3, false⟩) := Lib.hid (by rw [HRN.out, hke, Nat.sub_self]; simp [readN, Ns.behind])
              have HDEC := Lib.hid (dec_br_ok HST.out HULE.out HRR.out HNN.out)
              have e9 : decide ((k : Int) ≤ (i : Int)) = false := decide_eq_false (by omega)
              have e8 : decide (k ≤ i) = false := decide_eq_false (by omega)
              have hnl : Hid (ns.length ≤ 100001) := Lib.hid (by have := HLN.out; omega)
              clear hgo hke HRN
              by_cases g1 : l3 = []
              · subst g1
                have hl0 : ((([] : List UInt8).length : Nat) : Int) = 0 := rfl
                have CL0 := CL.out
                rw [hl0] at CL0
                have CL0 := Lib.hid CL0
                have hsz := readKV_sizes false i l1 b1
                rw [HRR.out] at hsz
                have hl1 : l1.length ≤ l'.length := by have := rdNum_le l' false; rw [HST.out] at this; exact this
                have hfit : Fits ⟨false, ks, [], ns⟩ := ⟨by have := HLK.out; show ks.length ≤ _; omega, by simp, by have := hnl.out; show ns.length ≤ _; omega, fun s hs => by have := hsz.1 s hs; have := HL.out; omega, fun s hs => by cases hs⟩
                obtain ⟨Ak, ck, rfl⟩ := own_shape HK.out.k
                obtain ⟨Av, cv, rfl⟩ := own_shape HK.out.v
                obtain ⟨An, cn, rfl⟩ := own_shape HK.out.n
                have hpg : PgR wr Ak ck Av cv An cn ⟨false, ks, [], ns⟩ := pgr_own HK.out.k HK.out.v HK.out.n
                have CG := good_any hpg hfit
                have HPG := Lib.hid hpg
                unfold pgv at CG
                dsimp only at CG
                have CG := Lib.hid CG
                clear CL hsz hl1 hfit hpg hl0
                generalize goodB ⟨false, ks, [], ns⟩ = G at CG HDEC
                cases G with
                | true =>
                  go_wp2_with (first
                    | (go_at_call 74; refine CB.out.mono ?_; rintro e w' ⟨rfl, rfl⟩)
                    | (go_at_call 75; refine CL0.out.mono ?_; rintro e w' ⟨rfl, rfl⟩)
                    | (go_at_call 38; refine CG.out.mono ?_; rintro e w9 ⟨rfl, hb9⟩
                       have hz9 := Lib.hid (HZ.out.below hb9 HZ.out.lt)
                       have hp9 := HK.out.pg.below hb9 HK.out.pg.lt
                       obtain ⟨q0, q1, q2, q3⟩ := cells4 hp9
                       obtain ⟨z0, z1, z2, z3⟩ := cells4 hz9.out
                       have f0 := hz9.out.frozen 0
                       have f1 := hz9.out.frozen 1
                       have f2 := hz9.out.frozen 2
                       have f3 := hz9.out.frozen 3
                       have HB9 := Lib.hid hb9
                       clear hb9 hp9))
                  have hk9 := own_set4 (u0 := .bool false) (u1 := .slice Ak ks.length ck) (u2 := .slice Av ([] : List ByteArray).length cv) (u3 := .slice An ns.length cn) (own_below HK.out.k HB9.out) hz9.out (by decide)
                  have hv9 := own_set4 (u0 := .bool false) (u1 := .slice Ak ks.length ck) (u2 := .slice Av ([] : List ByteArray).length cv) (u3 := .slice An ns.length cn) (own_below HK.out.v HB9.out) hz9.out (by decide)
                  have hn9 := own_set4 (u0 := .bool false) (u1 := .slice Ak ks.length ck) (u2 := .slice Av ([] : List ByteArray).length cv) (u3 := .slice An ns.length cn) (own_below HK.out.n HB9.out) hz9.out (by decide)
                  refine bodyPost_ret_by (results_cs rfl _ _ w.heap.size 67 #[.bool false, .slice Ak ks.length ck, .slice Av ([] : List ByteArray).length cv, .slice An ns.length cn] (0, 0) _ rfl ?_ Try.underlying67 rfl (by kernel_rfl)) rfl ⟨?_, ?_⟩
                  · exact set4 hz9.out
                  · exact (((((HBE.out.trans (HB9.out.mono HBE.out.size)).setCell (p := ⟨w.heap.size, 0, none⟩) (Nat.le_refl _) _).setCell (p := ⟨w.heap.size, 1, none⟩) (Nat.le_refl _) _).setCell (p := ⟨w.heap.size, 2, none⟩) (Nat.le_refl _) _).setCell (p := ⟨w.heap.size, 3, none⟩) (Nat.le_refl _) _)
                  · rw [HDEC.out]
                    exact ⟨Ak, ck, Av, cv, An, cn, rfl, pgr_own hk9 hv9 hn9⟩
                | false =>
                  go_wp2_with (first
                    | (go_at_call 74; refine CB.out.mono ?_; rintro e w' ⟨rfl, rfl⟩)
                    | (go_at_call 75; refine CL0.out.mono ?_; rintro e w' ⟨rfl, rfl⟩)
                    | (go_at_call 38; refine CG.out.mono ?_; rintro e w9 ⟨rfl, hb9⟩
                       have hz9 := Lib.hid (HZ.out.below hb9 HZ.out.lt)
                       obtain ⟨z0, z1, z2, z3⟩ := cells4 hz9.out
                       have f0 := hz9.out.frozen 0
                       have f1 := hz9.out.frozen 1
                       have f2 := hz9.out.frozen 2
                       have f3 := hz9.out.frozen 3
                       have HB9 := Lib.hid (HBE.out.trans (hb9.mono HBE.out.size))
                       clear hb9))
                  refine bodyPost_ret_by (results_cs rfl _ _ w.heap.size 67 #[.bool false, .slice none 0 0, .slice none 0 0, .slice none 0 0] (0, 0) _ rfl ?_ Try.underlying67 rfl (by kernel_rfl)) rfl ⟨?_, ?_⟩
                  · exact set4 hz9.out
                  · exact ((((HB9.out.setCell (p := ⟨w.heap.size, 0, none⟩) (Nat.le_refl _) _).setCell (p := ⟨w.heap.size, 1, none⟩) (Nat.le_refl _) _).setCell (p := ⟨w.heap.size, 2, none⟩) (Nat.le_refl _) _).setCell (p := ⟨w.heap.size, 3, none⟩) (Nat.le_refl _) _)
                  · rw [HDEC.out]
                    rfl
              · have hl0 : decide ((0 : Int) < (l3.length : Int)) = true := decide_eq_true (by have := List.length_pos_iff.2 g1; omega)
                have hl1 : decide (0 < l3.length) = true := decide_eq_true (List.length_pos_iff.2 g1)
                have HDEC2 : Hid (decP (66 :: l') = none) := Lib.hid (by rw [HDEC.out, if_neg (by simp), if_pos g1])
                have hl2 : l3.length ≤ 9223372036854775807 := by obtain ⟨_, _, _, _, h9⟩ := HK.out.rd; have := h9.2.2.2.2; have := h9.2.2.1; have h8 := h9.2.2.2.1; unfold maxLen at h8; omega
                clear g1 HDEC
                generalize l3.length = n2 at *
                go_wp2_with (first
                  | (go_at_call 74; refine CB.out.mono ?_; rintro e w' ⟨rfl, rfl⟩)
                  | (go_at_call 75; refine CL.out.mono ?_; rintro e w' ⟨rfl, rfl⟩))
                refine bodyPost_ret_by (results_cs rfl _ _ w.heap.size 67 #[.bool false, .slice none 0 0, .slice none 0 0, .slice none 0 0] (0, 0) _ rfl ?_ Try.underlying67 rfl (by kernel_rfl)) rfl ⟨?_, ?_⟩
                · exact set4 HZ.out
                · exact ((((HBE.out.setCell (p := ⟨w.heap.size, 0, none⟩) (Nat.le_refl _) _).setCell (p := ⟨w.heap.size, 1, none⟩) (Nat.le_refl _) _).setCell (p := ⟨w.heap.size, 2, none⟩) (Nat.le_refl _) _).setCell (p := ⟨w.heap.size, 3, none⟩) (Nat.le_refl _) _)
                · rw [HDEC2.out]
                  rfl
end
end Go.Proofs.Ytlbikfamjogpnaa
end

/- The functions of page and of its reference as contracts on pages that read in memory. -/
section
namespace Go.Proofs.Ytlbikfamjogpnaa
open Go.RowKit Go.Proofs.YtlbikfamjogpnaaW.PrintWords Go.Proofs.Ytlbikfamjogpnaa.QPage

theorem decode_any {w : World} {A : Option Addr} {n c : Nat} {l : List UInt8} (h : Bts w A n c l) (hn : n ≤ 100000) : Calls Try.prog 36 #[.slice A n c] w (DecPost w l) := by
  cases l with
  | nil => exact decode_none h (by simp)
  | cons x l' =>
    by_cases h1 : x = 76
    · subst h1; exact decode_leaf h hn
    · by_cases h2 : x = 66
      · subst h2; exact decode_branch h hn
      · exact decode_none h ⟨by simpa using h1, by simpa using h2⟩

theorem bts_of_R {w : World} {base : Nat} {ok : Nat → Prop} {v : Value} {l : List UInt8} (h : Kd.R (Kd.int .u8) 5 w base ok v (ints l)) : ∃ A c, v = .slice A l.length c ∧ Bts w A l.length c l := by
  have hl : (ints l).length = l.length := by simp [ints]
  obtain ⟨A, c, rfl, hc, -⟩ := Kd.R_reads h
  have ho := Kd.own_of_R h
  rw [hl] at ho ⊢
  refine ⟨A, c, rfl, own_bts (base := base) ?_⟩
  have e : encs (Value.int .u8) (ints l) = l.map byt := by
    simp only [encs, ints, List.map_map]
    rfl
  rw [e] at ho
  exact ho

theorem pgr_of_R {w : World} {base : Nat} {o1 o2 o3 : Nat → Prop} {v1 v2 v3 : Value} {p : Pg} (h1 : Kd.R Kd.string 9 w base o1 v1 p.keys) (h2 : Kd.R Kd.string 9 w base o2 v2 p.vals) (h3 : Kd.R (Kd.int .u64) 32 w base o3 v3 p.kids) :
    ∃ A1 c1 A2 c2 A3 c3, (Value.agg #[.bool p.leaf, v1, v2, v3]) = pgv A1 c1 A2 c2 A3 c3 p ∧ PgR w A1 c1 A2 c2 A3 c3 p := by
  obtain ⟨A1, c1, rfl, k1, r1⟩ := Kd.R_reads h1
  obtain ⟨A2, c2, rfl, k2, r2⟩ := Kd.R_reads h2
  obtain ⟨A3, c3, rfl, k3, r3⟩ := Kd.R_reads h3
  exact ⟨A1, c1, A2, c2, A3, c3, rfl, r1, k1, r2, k2, r3, k3⟩
theorem pgr_of_V {w : World} {base : Nat} {o1 o2 o3 : Nat → Prop} {v1 v2 v3 : Value} {p : Pg} (h1 : Kd.V Kd.string 9 w base o1 v1 p.keys) (h2 : Kd.V Kd.string 9 w base o2 v2 p.vals) (h3 : Kd.V (Kd.int .u64) 32 w base o3 v3 p.kids) :
    ∃ A1 c1 A2 c2 A3 c3, (Value.agg #[.bool p.leaf, v1, v2, v3]) = pgv A1 c1 A2 c2 A3 c3 p ∧ PgR w A1 c1 A2 c2 A3 c3 p := by
  obtain ⟨A1, c1, rfl⟩ := Kd.V_slice h1
  obtain ⟨A2, c2, rfl⟩ := Kd.V_slice h2
  obtain ⟨A3, c3, rfl⟩ := Kd.V_slice h3
  have k1 := Kd.V_reads' h1
  have k2 := Kd.V_reads' h2
  have k3 := Kd.V_reads' h3
  exact ⟨A1, c1, A2, c2, A3, c3, rfl, k1.2.2, k1.2.1, k2.2.2, k2.2.1, k3.2.2, k3.2.1⟩

section
variable {w : World} {A1 A2 A3 : Option Addr} {c1 c2 c3 : Nat} {p : Pg}

/-- What is asked of a page whose bytes are wanted. -/
structure Enc (p : Pg) : Prop where
  n : Nums p.kids
  k : p.kids.length ≤ 9223372036854775807
  b : (encP p).length ≤ 140737488355000
  s : p.keys.length ≤ 9223372036854775807

theorem encode_any (h : PgR w A1 c1 A2 c2 A3 c3 p) (hf : Enc p) : Calls Try.prog 42 #[pgv A1 c1 A2 c2 A3 c3 p] w fun e w' => Below w.heap.size w w' ∧ ∃ A c, e = .returned (.slice A (encP p).length c) ∧ Bts w' A (encP p).length c (encP p) := by
  obtain ⟨k, hk⟩ := enc_f p hf.n hf.k hf.b hf.s
  replace hk := hk k (Nat.le_refl _)
  dsimp only at hk
  refine (page_Encode.calls k p.leaf A1 c1 p.keys A2 c2 p.vals A3 c3 p.kids _ w h.k h.kc h.v h.vc h.n h.nc hk).mono ?_
  rintro e w' ⟨v, rfl, hr, hb⟩
  obtain ⟨A, c, rfl, hq⟩ := bts_of_R hr
  exact ⟨hb, A, c, rfl, hq⟩
theorem refencode_any (h : PgR w A1 c1 A2 c2 A3 c3 p) (hf : Enc p) : Calls Try.prog 43 #[pgv A1 c1 A2 c2 A3 c3 p] w fun e w' => Below w.heap.size w w' ∧ ∃ A c, e = .returned (.slice A (encP p).length c) ∧ Bts w' A (encP p).length c (encP p) := by
  obtain ⟨k, hk⟩ := refenc_f p hf.n hf.k hf.b hf.s
  replace hk := hk k (Nat.le_refl _)
  dsimp only at hk
  refine (publicanref4_Encode.calls k p.leaf A1 c1 p.keys A2 c2 p.vals A3 c3 p.kids _ w h.k h.kc h.v h.vc h.n h.nc hk).mono ?_
  rintro e w' ⟨v, rfl, hr, hb⟩
  obtain ⟨A, c, rfl, hq⟩ := bts_of_R hr
  exact ⟨hb, A, c, rfl, hq⟩
theorem bytes_any (h : PgR w A1 c1 A2 c2 A3 c3 p) (hf : Enc p) : Calls Try.prog 44 #[pgv A1 c1 A2 c2 A3 c3 p] w fun e w' => e = .returned (.int .i64 ((encP p).length : Nat)) ∧ Below w.heap.size w w' := by
  obtain ⟨k, hk⟩ := enc_f p hf.n hf.k hf.b hf.s
  replace hk := hk k (Nat.le_refl _)
  dsimp only at hk
  refine page_Bytes.calls k p.leaf A1 c1 p.keys A2 c2 p.vals A3 c3 p.kids _ w h.k h.kc h.v h.vc h.n h.nc ?_
  unfold page_Bytes.f
  rw [hk]
  simp [ints]

/-- What is asked of a page that is copied. -/
structure Few (p : Pg) : Prop where
  n : p.kids.length < 1000000
  k : p.keys.length < 1000000
  v : p.vals.length < 1000000
theorem great_any (h : PgR w A1 c1 A2 c2 A3 c3 p) : ∃ g, (g = false → Sixty p) ∧ Calls Try.prog 39 #[pgv A1 c1 A2 c2 A3 c3 p] w fun e w' => e = .returned (.bool g) ∧ Below w.heap.size w w' := by
  obtain ⟨g, ⟨k, hk⟩, hg⟩ := great_f p
  replace hk := hk k (Nat.le_refl _)
  dsimp only at hk
  exact ⟨g, hg, publicanlaw6_great.calls k p.leaf A1 c1 p.keys A2 c2 p.vals A3 c3 p.kids g w h.k h.kc h.v h.vc h.n h.nc hk⟩
theorem place_any (key : ByteArray) (h : PgR w A1 c1 A2 c2 A3 c3 p) (hf : Few p) : Calls Try.prog 89 #[pgv A1 c1 A2 c2 A3 c3 p, .string key] w fun e w' => e = .returned (.int .i64 (placeN p.keys key : Nat)) ∧ Below w.heap.size w w' := by
  obtain ⟨k, hk⟩ := place_f p key (by have := hf.k; omega)
  replace hk := hk k (Nat.le_refl _)
  dsimp only at hk
  exact publicanref4_place.calls k p.leaf A1 c1 p.keys A2 c2 p.vals A3 c3 p.kids key _ w h.k h.kc h.v h.vc h.n h.nc hk
end
end Go.Proofs.Ytlbikfamjogpnaa
end

/- pack.I, pack.S, and the reference's writers: what each hands back. Conditions: the slice can be read. -/
section
namespace Go.Proofs.Ytlbikfamjogpnaa
open Go.RowKit

end Go.Proofs.Ytlbikfamjogpnaa
end

/- The sum of bytes, pack's and the reference's. Conditions: the slice can be read. -/
section
namespace Go.Proofs.Ytlbikfamjogpnaa
open Go.RowKit

section
variable {w : World} {l : List UInt8} {A : Option Addr} {n c : Nat}

end
end Go.Proofs.Ytlbikfamjogpnaa
end

/- The law's own 'awake' over pack answers true. Conditions: none. -/
section
namespace Go.Proofs.Ytlbikfamjogpnaa
open Go.RowKit

theorem Put.bts {w w' : World} {r : List UInt8} {g c : Nat} (h : w'.ownsRow w.heap.size 5 1 (.slice (some ⟨g, 0, none⟩) r.length c) r.length (r.map byt)) : Bts w' (some ⟨g, 0, none⟩) r.length c r := own_bts h
theorem a1 : rdNum [172, 2, 1, 2, 97, 98] false = (300, [1, 2, 97, 98], false) := by kernel_rfl
theorem a2 : rdInt [1, 2, 97, 98] false = (-1, [2, 97, 98], false) := by kernel_rfl
theorem a3 : rdStr [2, 97, 98] false = ([97, 98], [], false) := by kernel_rfl
theorem a4 : sumOf [49, 50, 51, 52, 53, 54, 55, 56, 57] = 3421780262 := by kernel_rfl

end Go.Proofs.Ytlbikfamjogpnaa
end

/- Slices that came in, of integers, of strings and of bytes: opened to their cells. Conditions: none. -/
section
namespace Go.Proofs.Ytlbikfamjogpnaa
open Go.ChangeShapes Go.WideShapes Go.Deep Go.RowKit

/-- A slice of one cell each that can be read; nil let in. -/
def Vals (w : World) (A : Option Addr) (n c : Nat) (vs : List Value) : Prop :=
  (A = none → n = 0 ∧ c = 0) ∧ Reads w w.heap.size 1 A n vs ∧ n ≤ c ∧ c ≤ maxLen
def Ints (k : IntKind) (w : World) (A : Option Addr) (n c : Nat) (zs : List Int) : Prop :=
  Vals w A n c (zs.map (.int k)) ∧ zs.length = n ∧ ∀ z ∈ zs, (Lit.int k z).wf = true
def Strs (w : World) (A : Option Addr) (n c : Nat) (zs : List ByteArray) : Prop :=
  Vals w A n c (zs.map .string) ∧ zs.length = n ∧ ∀ z ∈ zs, z.size ≤ maxLen

theorem vals_of {w : World} {a : Addr} {n c : Nat} {vs : List Value} (hl : n ≤ c) (hm : c ≤ maxLen) (hlen : vs.length = n) (h : ∀ i, i < n → w.cell? (a.add i) = vs[i]?) : Vals w (some a) n c vs := by
  refine ⟨by simp, ⟨by omega, fun hn => ⟨a, rfl, ?_, fun j u hu => ?_⟩⟩, hl, hm⟩
  · have h0 := h 0 hn
    rw [List.getElem?_eq_getElem (by omega)] at h0
    have := World.block_lt_of_cell? _ _ h0
    rwa [block_of_add] at this
  · rw [h j (by have := (List.getElem?_eq_some_iff.1 hu).1; omega), hu]
theorem vals_nil (w : World) : Vals w none 0 0 [] := ⟨fun _ => ⟨rfl, rfl⟩, Reads.none_, Nat.le_refl _, Nat.zero_le _⟩

section
variable {H : Type} {enc : TypeId × Value → H} {P : Program} {W : World} {base : Nat} {spare : Nat → Bool} {held : Bool}

theorem open_ints_gen {k : IntKind} {t e : TypeId} (ht : P.underlying t = some (.slice e)) (he : P.underlying e = some (.int k)) (hc : P.cellsOf e = 1) {fuel : Nat} {v : Value} {x : DataW H × List MemPlace} (hs : ∀ b, spare b = true)
    (h : DataW.trod enc P W base spare held fuel t [v] = some x) : ∃ A n c zs, v = .slice A n c ∧ Ints k W A n c zs := by
  rcases open_ints ht he hc h with ⟨hcs, _⟩ | ⟨x, l, c, zs, hcs, _, hl, hm, hz, _, hcell, hwz⟩
  · obtain rfl : v = .slice none 0 0 := by simpa using hcs
    exact ⟨none, 0, 0, [], rfl, vals_nil W, rfl, by simp⟩
  · obtain rfl : v = .slice (some x) l c := by simpa using hcs
    rw [hs, if_pos rfl] at hz
    refine ⟨_, _, _, zs.take l, rfl, vals_of hl hm (by simp; omega) (fun i hi => ?_), by simp; omega, fun z hz' => hwz z (List.mem_of_mem_take hz')⟩
    rw [hcell i (by omega), List.getElem?_map, List.getElem?_take, if_pos hi, List.getElem?_eq_getElem (by omega), List.getD, List.getElem?_eq_getElem (by omega)]
    rfl

theorem open_strs_gen {t e : TypeId} (ht : P.underlying t = some (.slice e)) (he : P.underlying e = some .string) (hc : P.cellsOf e = 1) {fuel : Nat} {v : Value} {x : DataW H × List MemPlace} (hs : ∀ b, spare b = true)
    (h : DataW.trod enc P W base spare held fuel t [v] = some x) : ∃ A n c zs, v = .slice A n c ∧ Strs W A n c zs := by
  rcases open_strs ht he hc h with ⟨hcs, _⟩ | ⟨x, l, c, m, Sx, hcs, _, hl, hm, hz, _, hcell⟩
  · obtain rfl : v = .slice none 0 0 := by simpa using hcs
    exact ⟨none, 0, 0, [], rfl, vals_nil W, rfl, by simp⟩
  · obtain rfl : v = .slice (some x) l c := by simpa using hcs
    rw [hs, if_pos rfl] at hz
    refine ⟨_, _, _, (List.range l).map Sx, rfl, vals_of hl hm (by simp) (fun i hi => ?_), by simp, fun z hz' => ?_⟩
    · rw [(hcell i (by omega)).1, List.getElem?_map, List.getElem?_map, List.getElem?_range hi]
      rfl
    · obtain ⟨i, hi, rfl⟩ := List.mem_map.1 hz'
      exact (hcell i (by have := List.mem_range.1 hi; omega)).2

end

section
variable {w w' : World} {A : Option Addr} {n c B : Nat} {vs : List Value}
theorem Vals.below (h : Vals w A n c vs) (hb : Below w.heap.size w w') : Vals w' A n c vs := ⟨h.1, (h.2.1.below hb).more hb.size, h.2.2⟩
theorem Vals.at_ (h : Vals w A n c vs) {k : Nat} (hk : k < n) : ∃ ad u, A = some ad ∧ vs[k]? = some u ∧ w.cell? (ad.add k) = some u := by
  obtain ⟨ad, u, e, _, h1, h2⟩ := h.2.1.at_ hk
  exact ⟨ad, u, e, h1, h2⟩
end

section
variable {w wr : World} {A : Option Addr} {n c : Nat}
end

end Go.Proofs.Ytlbikfamjogpnaa
end

/- What PackBack writes and reads, as lists; elements of lists that came in. Conditions: none. -/
section
namespace Go.Proofs.Ytlbikfamjogpnaa
open Go.RowKit

section
variable {α : Type} (f : α → List UInt8)
end
section
variable {w : World} {p : Nat} {r : List UInt8}
theorem rdNum_put {u : Nat} (h : u < 18446744073709551616) (r : List UInt8) (bad : Bool) : rdNum (putU u ++ r) bad = (u, r, bad) := by
  unfold rdNum; rw [rd_put h]
end
end Go.Proofs.Ytlbikfamjogpnaa
end

/- What page's bytes tell, in plain Lean: they are read back as the page; there are few of them. No program here. Conditions: the page may be. -/
section
namespace Go.Proofs.Ytlbikfamjogpnaa
open Go.RowKit Go.Proofs.YtlbikfamjogpnaaW.PrintWords

theorem rdStr_put (s : ByteArray) (hs : s.size < 18446744073709551616) (r : List UInt8) : rdStr (putS s ++ r) false = (s.data.toList, r, false) := by
  unfold rdStr putS
  rw [List.append_assoc, rdNum_put hs]
  simp only [List.length_append, ba_len]
  rw [if_neg (by omega)]
  have e : s.size = s.data.toList.length := (ba_len s).symm
  rw [e, List.take_left, List.drop_left]
theorem readKV_put_leaf : ∀ (ks vs : List ByteArray) (r : List UInt8), vs.length = ks.length → (∀ s ∈ ks, s.size < 18446744073709551616) → (∀ s ∈ vs, s.size < 18446744073709551616) → readKV true ks.length (encKV ks vs ++ r) false = ⟨ks, vs, r, false⟩
  | [], [], r, _, _, _ => rfl
  | k :: ks, v :: vs, r, hl, h1, h2 => by
    have ih := readKV_put_leaf ks vs r (by simpa using hl) (fun s hs => h1 s (List.mem_cons_of_mem _ hs)) (fun s hs => h2 s (List.mem_cons_of_mem _ hs))
    have e1 : encKV (k :: ks) (v :: vs) ++ r = putS k ++ (putS v ++ (encKV ks vs ++ r)) := by simp [encKV]
    rw [List.length_cons, readKV, e1, rdStr_put k (h1 k (List.mem_cons_self ..))]
    simp only [if_true]
    rw [rdStr_put v (h2 v (List.mem_cons_self ..))]
    simp only [ih]
    rfl
theorem readKV_put_branch : ∀ (ks : List ByteArray) (r : List UInt8), (∀ s ∈ ks, s.size < 18446744073709551616) → readKV false ks.length (encK ks ++ r) false = ⟨ks, [], r, false⟩
  | [], r, _ => rfl
  | k :: ks, r, h1 => by
    have ih := readKV_put_branch ks r (fun s hs => h1 s (List.mem_cons_of_mem _ hs))
    have e1 : encK (k :: ks) ++ r = putS k ++ (encK ks ++ r) := by simp [encK]
    rw [List.length_cons, readKV, e1, rdStr_put k (h1 k (List.mem_cons_self ..))]
    simp only [Bool.false_eq_true, if_false, ih]
    rfl
theorem readN_put : ∀ (ns : List Int) (r : List UInt8), Nums ns → readN ns.length (encN ns ++ r) false = ⟨ns, r, false⟩
  | [], r, _ => rfl
  | n :: ns, r, h => by
    have ih := readN_put ns r (fun s hs => h s (List.mem_cons_of_mem _ hs))
    have e1 : encN (n :: ns) ++ r = putU n.toNat ++ (encN ns ++ r) := by simp [encN]
    have hn := h n (List.mem_cons_self ..)
    rw [List.length_cons, readN, e1, rdNum_put (by omega)]
    simp only [ih]
    rw [Int.toNat_of_nonneg hn.1]

theorem putS_pos (s : ByteArray) : 1 ≤ (putS s).length := by rw [putS_len]; have := putU_pos s.size; omega
theorem encKV_len : ∀ (ks vs : List ByteArray), ks.length ≤ (encKV ks vs).length
  | [], _ => Nat.zero_le _
  | k :: ks, [] => by
    have := encKV_len ks []
    have := putS_pos k
    simp only [encKV, List.length_cons, List.length_append]; omega
  | k :: ks, v :: vs => by
    have := encKV_len ks vs
    have := putS_pos k
    simp only [encKV, List.length_cons, List.length_append]; omega
theorem encK_len : ∀ (ks : List ByteArray), ks.length ≤ (encK ks).length
  | [] => Nat.zero_le _
  | k :: ks => by
    have := encK_len ks
    have := putS_pos k
    simp only [encK, List.flatMap_cons, List.length_cons, List.length_append] at this ⊢
    unfold encK at *
    omega
theorem encP_len (p : Pg) : p.keys.length ≤ (encP p).length := by
  unfold encP encB
  have h1 := encKV_len p.keys p.vals
  have h2 := encK_len p.keys
  cases p.leaf <;> simp only [List.length_cons, List.length_append, Bool.false_eq_true, if_false, if_true] <;> omega

/-- What a good page's parts are. -/
theorem good_shape {p : Pg} (h : goodB p = true) : (p.leaf = true ∧ p.vals.length = p.keys.length ∧ p.kids = []) ∨ (p.leaf = false ∧ p.vals = [] ∧ p.kids.length = p.keys.length + 1) := by
  unfold goodB shapeB at h
  simp only [Bool.and_eq_true] at h
  have hs := h.2.2.2
  cases hl : p.leaf
  · rw [hl] at hs
    simp only [Bool.false_eq_true, if_false, Bool.and_eq_true, decide_eq_true_eq] at hs
    exact .inr ⟨rfl, List.length_eq_zero_iff.1 hs.1, hs.2⟩
  · rw [hl] at hs
    simp only [if_true, Bool.and_eq_true, decide_eq_true_eq] at hs
    exact .inl ⟨rfl, hs.1, List.length_eq_zero_iff.1 hs.2⟩

/-- A page is read back. -/
theorem dec_enc {p : Pg} (h : goodB p = true) (hn : Nums p.kids) (hk : p.keys.length < 18446744073709551616) (h1 : ∀ s ∈ p.keys, s.size < 18446744073709551616) (h2 : ∀ s ∈ p.vals, s.size < 18446744073709551616) : decP (encP p) = some p := by
  have hlen := encP_len p
  have hh : (encP p).headD 0 = if p.leaf then 76 else 66 := rfl
  have ht : (encP p).drop 1 = putU p.keys.length ++ encB p := rfl
  have hnum : rdNum ((encP p).drop 1) false = (p.keys.length, encB p, false) := by rw [ht, rdNum_put hk]
  unfold decP
  rw [hnum]
  simp only
  rw [if_neg (show ¬ (encP p).length < p.keys.length by omega)]
  rcases good_shape h with ⟨hl, hv, hd⟩ | ⟨hl, hv, hd⟩
  · have e := readKV_put_leaf p.keys p.vals [] hv h1 h2
    have eb : encB p = encKV p.keys p.vals ++ [] := by simp [encB, hl]
    have hp : (⟨true, p.keys, p.vals, []⟩ : Pg) = p := by rw [← hl, ← hd]
    rw [hh, hl]
    simp only [if_true, beq_self_eq_true]
    rw [eb, e]
    simp [hp, h]
  · have e := readKV_put_branch p.keys (encN p.kids) h1
    have e2 := readN_put p.kids [] hn
    rw [List.append_nil, hd] at e2
    have eb : encB p = encK p.keys ++ encN p.kids := by simp [encB, hl]
    have hp : (⟨false, p.keys, [], p.kids⟩ : Pg) = p := by rw [← hl, ← hv]
    rw [hh, hl]
    simp only [Bool.false_eq_true, if_false]
    rw [show ((66 : UInt8) == 76) = false from rfl, eb, e]
    simp only [Bool.false_eq_true, if_false]
    rw [e2]
    simp [hp, h]

/-- How many bytes at most. -/
theorem putU_le {u : Nat} (h : u < 18446744073709551616) : (putU u).length ≤ 10 := putU_ten h
theorem putS_le {s : ByteArray} (h : s.size < 18446744073709551616) : (putS s).length ≤ 10 + s.size := by rw [putS_len]; have := putU_le h; omega
theorem encKV_le : ∀ (ks vs : List ByteArray), (∀ s ∈ ks, s.size < 18446744073709551616) → (∀ s ∈ vs, s.size < 18446744073709551616) → (encKV ks vs).length ≤ 10 * ks.length + 10 * vs.length + sizes ks + sizes vs
  | [], _, _, _ => by simp [encKV]
  | k :: ks, [], h1, h2 => by
    have := encKV_le ks [] (fun s hs => h1 s (List.mem_cons_of_mem _ hs)) h2
    have := putS_le (h1 k (List.mem_cons_self ..))
    simp only [encKV, List.length_cons, List.length_append, sizes, List.map_cons, List.sum_cons, List.length_nil] at *; omega
  | k :: ks, v :: vs, h1, h2 => by
    have := encKV_le ks vs (fun s hs => h1 s (List.mem_cons_of_mem _ hs)) (fun s hs => h2 s (List.mem_cons_of_mem _ hs))
    have := putS_le (h1 k (List.mem_cons_self ..))
    have := putS_le (h2 v (List.mem_cons_self ..))
    simp only [encKV, List.length_cons, List.length_append, sizes, List.map_cons, List.sum_cons] at *; omega
theorem encK_le : ∀ (ks : List ByteArray), (∀ s ∈ ks, s.size < 18446744073709551616) → (encK ks).length ≤ 10 * ks.length + sizes ks
  | [], _ => by simp [encK]
  | k :: ks, h1 => by
    have := encK_le ks (fun s hs => h1 s (List.mem_cons_of_mem _ hs))
    have := putS_le (h1 k (List.mem_cons_self ..))
    simp only [encK, List.flatMap_cons, List.length_cons, List.length_append, sizes, List.map_cons, List.sum_cons] at *; omega
theorem encN_le : ∀ (ns : List Int), Nums ns → (encN ns).length ≤ 10 * ns.length
  | [], _ => by simp [encN]
  | n :: ns, h => by
    have := encN_le ns (fun s hs => h s (List.mem_cons_of_mem _ hs))
    have hn := h n (List.mem_cons_self ..)
    have := putU_le (u := n.toNat) (by omega)
    simp only [encN, List.flatMap_cons, List.length_cons, List.length_append] at *; omega
theorem mem_sizes : ∀ (l : List ByteArray) (s : ByteArray), s ∈ l → s.size ≤ sizes l
  | a :: l, s, h => by
    rcases List.mem_cons.1 h with rfl | h
    · simp only [sizes, List.map_cons, List.sum_cons]; omega
    · have := mem_sizes l s h
      simp only [sizes, List.map_cons, List.sum_cons] at *; omega
theorem encP_le {p : Pg} (hs : Small p) (hn : Nums p.kids) : (encP p).length ≤ 50000 := by
  obtain ⟨h1, h2, h3, h4⟩ := hs
  have k1 : ∀ s ∈ p.keys, s.size < 18446744073709551616 := fun s hm => by have := mem_sizes _ s hm; omega
  have k2 : ∀ s ∈ p.vals, s.size < 18446744073709551616 := fun s hm => by have := mem_sizes _ s hm; omega
  have a1 := encKV_le p.keys p.vals k1 k2
  have a2 := encK_le p.keys k1
  have a3 := encN_le p.kids hn
  have a4 := putU_le (u := p.keys.length) (by omega)
  unfold encP encB
  cases p.leaf <;> simp only [List.length_cons, List.length_append, Bool.false_eq_true, if_false, if_true] <;> omega

theorem sizes_bound (b : Nat) : ∀ l : List ByteArray, (∀ s ∈ l, s.size ≤ b) → sizes l ≤ b * l.length
  | [], _ => by simp [sizes]
  | a :: l, h => by
    have h1 := sizes_bound b l (fun s hs => h s (List.mem_cons_of_mem _ hs))
    have h2 := h a (List.mem_cons_self ..)
    simp only [sizes, List.map_cons, List.sum_cons, List.length_cons] at *
    rw [Nat.mul_add]
    omega
theorem good_keys {p : Pg} (h : goodB p = true) : ∀ i, i < p.keys.length → okAt p.keys i = true := by
  unfold goodB keysFrom at h
  simp only [Bool.and_eq_true, List.all_eq_true] at h
  intro i hi
  exact h.1 i (List.mem_range'.2 ⟨i, by omega, by omega⟩)
theorem good_key_size {p : Pg} (h : goodB p = true) : ∀ s ∈ p.keys, 1 ≤ s.size ∧ s.size ≤ 40 := by
  intro s hs
  obtain ⟨i, hi, rfl⟩ := List.getElem_of_mem hs
  have := good_keys h i hi
  unfold okAt at this
  simp only [Bool.and_eq_true, decide_eq_true_eq] at this
  rw [List.getD_eq_getElem?_getD, List.getElem?_eq_getElem hi] at this
  exact ⟨this.1, this.2.1⟩
theorem good_val_size {p : Pg} (h : goodB p = true) : ∀ s ∈ p.vals, s.size ≤ 400 := by
  unfold goodB valsFrom at h
  simp only [Bool.and_eq_true, List.all_eq_true, decide_eq_true_eq] at h
  intro s hs
  obtain ⟨i, hi, rfl⟩ := List.getElem_of_mem hs
  have := h.2.1 i (List.mem_range'.2 ⟨i, by omega, by omega⟩)
  rw [List.getD_eq_getElem?_getD, List.getElem?_eq_getElem hi] at this
  exact this
/-- A good page with few keys is small. -/
theorem Sixty.small {p : Pg} (h : Sixty p) (hg : goodB p = true) : Small p := by
  have h1 := sizes_bound 40 p.keys (fun s hs => (good_key_size hg s hs).2)
  have h2 := sizes_bound 400 p.vals (good_val_size hg)
  obtain ⟨a, b, c⟩ := h
  exact ⟨a, b, c, by omega⟩
end Go.Proofs.Ytlbikfamjogpnaa
end

/- Pages in blocks behind a bound, and the place where a leaf is split. Conditions: none. -/
section
namespace Go.Proofs.Ytlbikfamjogpnaa
open Go.RowKit Go.Proofs.YtlbikfamjogpnaaW.PrintWords Go.Proofs.Ytlbikfamjogpnaa.QPage

/-- A page that lies in blocks from N on. -/
structure PgN (w : World) (N : Nat) (A1 : Option Addr) (c1 : Nat) (A2 : Option Addr) (c2 : Nat) (A3 : Option Addr) (c3 : Nat) (p : Pg) : Prop where
  k : Kd.V Kd.string 9 w N (fun k => N ≤ k) (.slice A1 p.keys.length c1) p.keys
  v : Kd.V Kd.string 9 w N (fun k => N ≤ k) (.slice A2 p.vals.length c2) p.vals
  n : Kd.V (Kd.int .u64) 32 w N (fun k => N ≤ k) (.slice A3 p.kids.length c3) p.kids
section
variable {w w' : World} {N : Nat} {A1 A2 A3 : Option Addr} {c1 c2 c3 : Nat} {p : Pg}
theorem PgN.pgr (h : PgN w N A1 c1 A2 c2 A3 c3 p) : PgR w A1 c1 A2 c2 A3 c3 p := by
  have k1 := Kd.V_reads' h.k
  have k2 := Kd.V_reads' h.v
  have k3 := Kd.V_reads' h.n
  exact ⟨k1.2.2, k1.2.1, k2.2.2, k2.2.1, k3.2.2, k3.2.1⟩
theorem PgN.below (h : PgN w N A1 c1 A2 c2 A3 c3 p) (hb : Below w.heap.size w w') : PgN w' N A1 c1 A2 c2 A3 c3 p := ⟨Kd.V_below h.k hb, Kd.V_below h.v hb, Kd.V_below h.n hb⟩
theorem PgN.far (h : PgN w N A1 c1 A2 c2 A3 c3 p) {a : Addr} (ha : a.block < N) (u : Value) : PgN (w.setCell a u) N A1 c1 A2 c2 A3 c3 p :=
  ⟨Kd.V_far h.k (fun k hk => by omega) u, Kd.V_far h.v (fun k hk => by omega) u, Kd.V_far h.n (fun k hk => by omega) u⟩
theorem PgN.far4 (h : PgN w N A1 c1 A2 c2 A3 c3 p) {g : Nat} (ha : g < N) (u0 u1 u2 u3 : Value) : PgN ((((w.setCell ⟨g, 0, none⟩ u0).setCell ⟨g, 1, none⟩ u1).setCell ⟨g, 2, none⟩ u2).setCell ⟨g, 3, none⟩ u3) N A1 c1 A2 c2 A3 c3 p :=
  (((h.far (a := ⟨g, 0, none⟩) ha u0).far (a := ⟨g, 1, none⟩) ha u1).far (a := ⟨g, 2, none⟩) ha u2).far (a := ⟨g, 3, none⟩) ha u3
theorem pgn_clone (h : PgR w A1 c1 A2 c2 A3 c3 p) (hf : Few p) : Calls Try.prog 76 #[pgv A1 c1 A2 c2 A3 c3 p] w fun e w' => Below w.heap.size w w' ∧ ∃ B1 d1 B2 d2 B3 d3, e = .returned (pgv B1 d1 B2 d2 B3 d3 p) ∧ PgN w' w.heap.size B1 d1 B2 d2 B3 d3 p := by
  have ho := clone_f p (by have := hf.n; omega) (by have := hf.k; omega) (by have := hf.v; omega)
  refine (page_clone.calls p.leaf A1 c1 p.keys A2 c2 p.vals A3 c3 p.kids _ _ _ _ w h.k h.kc h.v h.vc h.n h.nc ho).mono ?_
  rintro e w' ⟨v1, v2, v3, rfl, h1, h2, h3, hb⟩
  replace h1 := Kd.R_mono (Kd.R_bound h1) (ok' := fun k => w.heap.size ≤ k) (fun k hk => hk.2.1)
  replace h2 := Kd.R_mono (Kd.R_bound h2) (ok' := fun k => w.heap.size ≤ k) (fun k hk => hk.2.1)
  replace h3 := Kd.R_mono (Kd.R_bound h3) (ok' := fun k => w.heap.size ≤ k) (fun k hk => hk.2.1)
  obtain ⟨A1, c1, rfl, -, -⟩ := Kd.R_reads h1
  obtain ⟨A2, c2, rfl, -, -⟩ := Kd.R_reads h2
  obtain ⟨A3, c3, rfl, -, -⟩ := Kd.R_reads h3
  exact ⟨hb, A1, c1, A2, c2, A3, c3, rfl, Kd.R_V h1, Kd.R_V h2, Kd.R_V h3⟩

def partP (p : Pg) (i j : Nat) : Pg := ⟨true, (p.keys.take j).drop i, (p.vals.take j).drop i, []⟩
end

/-- Where a leaf is split: up while the second half is too big, then down while the first is. -/
def bigB (p : Pg) (i j : Nat) : Bool := decide (900 < (encP (partP p i j)).length)
def upN (p : Pg) : Nat → Nat → Nat
  | 0, h => h
  | d + 1, h => if bigB p h p.keys.length then upN p d (h + 1) else h
def downN (p : Pg) : Nat → Nat
  | 0 => 0
  | 1 => 1
  | h + 2 => if bigB p 0 (h + 2) then downN p (h + 1) else h + 2
def splitAt (p : Pg) : Nat := downN p (upN p (p.keys.length - 1 - p.keys.length / 2) (p.keys.length / 2))
theorem upN_le (p : Pg) (d : Nat) : ∀ h, h ≤ upN p d h ∧ upN p d h ≤ h + d := by
  induction d with
  | zero => intro h; simp [upN]
  | succ d ih =>
    intro h
    unfold upN
    have := ih (h + 1)
    split <;> omega
theorem downN_le (p : Pg) : ∀ h, downN p h ≤ h ∧ (1 ≤ h → 1 ≤ downN p h)
  | 0 => by simp [downN]
  | 1 => by simp [downN]
  | h + 2 => by
    unfold downN
    have := downN_le p (h + 1)
    split <;> omega
theorem sizes_app (a b : List ByteArray) : sizes (a ++ b) = sizes a + sizes b := by simp [sizes]
theorem sizes_take (l : List ByteArray) (n : Nat) : sizes (l.take n) ≤ sizes l := by
  have := sizes_app (l.take n) (l.drop n)
  rw [List.take_append_drop] at this
  omega
theorem sizes_drop (l : List ByteArray) (n : Nat) : sizes (l.drop n) ≤ sizes l := by
  have := sizes_app (l.take n) (l.drop n)
  rw [List.take_append_drop] at this
  omega
theorem small_part {p : Pg} (h : Small p) (i j : Nat) : Small (partP p i j) := by
  obtain ⟨h1, h2, h3, h4⟩ := h
  have a1 := sizes_take p.keys j
  have a2 := sizes_drop (p.keys.take j) i
  have a3 := sizes_take p.vals j
  have a4 := sizes_drop (p.vals.take j) i
  refine ⟨?_, ?_, ?_, ?_⟩ <;> simp only [partP, List.length_drop, List.length_take, List.length_nil] <;> omega
theorem Small.enc {p : Pg} (h : Small p) (hn : Nums p.kids) : Enc p := ⟨hn, by have := h.2.2.1; omega, by have := encP_le h hn; omega, by have := h.1; omega⟩
theorem Small.few {p : Pg} (h : Small p) : Few p := ⟨by have := h.2.2.1; omega, by have := h.1; omega, by have := h.2.1; omega⟩
theorem Small.fits {p : Pg} (h : Small p) : Fits p := ⟨by have := h.1; omega, by have := h.2.1; omega, by have := h.2.2.1; omega, fun s hs => by have := mem_sizes _ s hs; have := h.2.2.2; omega, fun s hs => by have := mem_sizes _ s hs; have := h.2.2.2; omega⟩
theorem nums_nil : Nums [] := fun n h => by cases h
theorem enc_part {p : Pg} (h : Small p) (i j : Nat) : Enc (partP p i j) := (small_part h i j).enc nums_nil
/-- A page's value in blocks from N on. -/
def PgVal (w : World) (N : Nat) (v : Value) (p : Pg) : Prop := ∃ A1 c1 A2 c2 A3 c3, v = pgv A1 c1 A2 c2 A3 c3 p ∧ PgN w N A1 c1 A2 c2 A3 c3 p
theorem PgVal.below {w w' : World} {N : Nat} {v : Value} {p : Pg} (h : PgVal w N v p) (hb : Below w.heap.size w w') : PgVal w' N v p := by
  obtain ⟨A1, c1, A2, c2, A3, c3, e, h⟩ := h
  exact ⟨A1, c1, A2, c2, A3, c3, e, h.below hb⟩
theorem PgVal.far {w : World} {N : Nat} {v : Value} {p : Pg} (h : PgVal w N v p) {a : Addr} (ha : a.block < N) (u : Value) : PgVal (w.setCell a u) N v p := by
  obtain ⟨A1, c1, A2, c2, A3, c3, e, h⟩ := h
  exact ⟨A1, c1, A2, c2, A3, c3, e, h.far ha u⟩
theorem PgVal.far4 {w : World} {N : Nat} {v : Value} {p : Pg} (h : PgVal w N v p) {g : Nat} (ha : g < N) (u0 u1 u2 u3 : Value) : PgVal ((((w.setCell ⟨g, 0, none⟩ u0).setCell ⟨g, 1, none⟩ u1).setCell ⟨g, 2, none⟩ u2).setCell ⟨g, 3, none⟩ u3) N v p := by
  obtain ⟨A1, c1, A2, c2, A3, c3, e, h⟩ := h
  exact ⟨A1, c1, A2, c2, A3, c3, e, h.far4 ha u0 u1 u2 u3⟩
theorem bytes_at {w : World} {N : Nat} {v : Value} {p : Pg} (h : PgVal w N v p) (hf : Enc p) : Calls Try.prog 44 #[v] w fun e w' => e = .returned (.int .i64 ((encP p).length : Nat)) ∧ Below w.heap.size w w' := by
  obtain ⟨A1, c1, A2, c2, A3, c3, rfl, h⟩ := h
  exact bytes_any h.pgr hf
theorem Sixty.few {p : Pg} (h : Sixty p) : Few p := ⟨by have := h.2.2; omega, by have := h.1; omega, by have := h.2.1; omega⟩
end Go.Proofs.Ytlbikfamjogpnaa
end
