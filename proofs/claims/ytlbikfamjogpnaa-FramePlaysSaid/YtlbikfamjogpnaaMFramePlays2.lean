/- The texts of this proof, joined: contracts of the functions that the law reaches, and what they come to in plain Lean. Conditions: those that each theorem names. -/
import Derived.Test.YtlbikfamjogpnaaMFramePlays1
import Derived.Deep.RegionLaw
import Derived.Deep.LoopGhost
import Derived.Test.YtlbikfamjogpnaaMFramePlays0
import Derived.Laws.IdiomStrings
import Derived.Laws.Strings3
import Derived.BigQuiet
import Derived.Deep.QuietTactic
import Derived.Deep.CutBlock
import Derived.Deep.DeepCutAuto
import Derived.StillTailTactics
import Derived.Deep.Slices
import Derived.Deep.Fields
import Derived.ChangeSame
import Derived.ProofKit

/- The reference's disk: its functions answer as the plain disk does. Conditions: the disk lies in memory as RDiskAt says. -/
section
namespace Go.Proofs.Ytlbikfamjogpnaa
open Go.RowKit

def str (l : List UInt8) : Value := .string ⟨l.toArray⟩

theorem info_str : (Try.prog.info? 9).map (fun i => (i.zero, i.size, i.bytes)) = some (some (.string ⟨#[]⟩), 1, 16) := by kernel_rfl

/-- The reference's disk: its struct lies in block b, its sectors' strings in block a. -/
def RDiskAt (w : World) (b a : Nat) (d : Dk) : Prop :=
  ∃ (c : Nat) (arr : Array Value) (how : Int),
    Blk w b 109 #[.slice (some ⟨a, 0, none⟩) d.S.length c, .bool d.off, .int .i64 d.cut, .int .i64 how, .int .i64 d.writes, .int .i64 d.lives] ∧
    (how.tmod 2 != 0) = d.odd ∧ Blk w a 9 arr ∧ arr.size = c ∧ d.S.length ≤ c ∧ c ≤ maxLen ∧ 1 ≤ d.S.length ∧ d.S.length ≤ 4096 ∧ 0 ≤ d.cut ∧ d.cut ≤ 9223372036854775807 ∧
    ∀ (i : Nat) (s : List UInt8), d.S[i]? = some s → arr[i]? = some (str s)

theorem RDiskAt.keep {w w' : World} {b a : Nat} {d : Dk} (h : RDiskAt w b a d) (hb : w'.heap[b]? = w.heap[b]?) (ha : w'.heap[a]? = w.heap[a]?) : RDiskAt w' b a d := by
  obtain ⟨c, arr, how, h1, h2, h3, r⟩ := h
  exact ⟨c, arr, how, hb.trans h1, h2, ha.trans h3, r⟩
theorem RDiskAt.ne {w : World} {b a : Nat} {d : Dk} (h : RDiskAt w b a d) : b ≠ a := by
  obtain ⟨c, arr, how, h1, _, h2, _⟩ := h
  exact h1.ne_ h2 (by decide)
theorem RDiskAt.ltb {w : World} {b a : Nat} {d : Dk} (h : RDiskAt w b a d) : b < w.heap.size := by
  obtain ⟨c, arr, how, h1, _⟩ := h
  exact h1.lt
theorem RDiskAt.lta {w : World} {b a : Nat} {d : Dk} (h : RDiskAt w b a d) : a < w.heap.size := by
  obtain ⟨c, arr, how, h1, _, h2, _⟩ := h
  exact h2.lt
theorem RDiskAt.below {w w' : World} {b a : Nat} {d : Dk} (h : RDiskAt w b a d) (hb : Below w.heap.size w w') : RDiskAt w' b a d := h.keep (hb.block b h.ltb) (hb.block a h.lta)

theorem rdisk_cells {b : Nat} {w : World} {v0 v1 v2 v3 v4 v5 : Value} (h : Blk w b 109 #[v0, v1, v2, v3, v4, v5]) :
    w.cell? ⟨b, 0, none⟩ = some v0 ∧ w.cell? ⟨b, 1, none⟩ = some v1 ∧ w.cell? ⟨b, 2, none⟩ = some v2 ∧ w.cell? ⟨b, 3, none⟩ = some v3 ∧ w.cell? ⟨b, 4, none⟩ = some v4 ∧ w.cell? ⟨b, 5, none⟩ = some v5 :=
  ⟨(h.cell 0).trans rfl, (h.cell 1).trans rfl, (h.cell 2).trans rfl, (h.cell 3).trans rfl, (h.cell 4).trans rfl, (h.cell 5).trans rfl⟩

set_option maxHeartbeats 400000 in
theorem zeros_any (n : Nat) (hn : n ≤ 140737488355328) (w : World) :
    Calls Try.prog 63 #[.int .i64 (n : Int)] w fun e w' => e = .returned (.string ⟨(zs n).toArray⟩) ∧ w.alloc (.cells (zsrow n) 5) = w' := by
  have hmk := make_zs n hn
  have cv := run_string_of (P := Try.prog) (w.alloc (.cells (zsrow n) 5)) 36 9 5 Try.underlying36 Try.underlying5 Try.underlying9 (c := n) (l := zs n) (B := w.heap.size + 1) (n := n) (A := some ⟨w.heap.size, 0, none⟩)
    ⟨by simp [zs], fun _ => ⟨_, rfl, by simp, fun j u hu => by
      rw [show (⟨w.heap.size, 0, none⟩ : Addr).add j = ⟨w.heap.size, j, none⟩ by unfold Addr.add; by_cases e : j = 0 <;> simp [e], (Blk.new w 5 (zsrow n)).cell j]
      simpa [zsrow] using hu⟩⟩
  go_enter Try.func63, Try.ntmps63
  go_wp2
  go_ret
  exact ⟨rfl, rfl⟩

theorem one_new2 (W : World) (o : Obj) (x : Value) (t : TypeId) : ∀ j u, [x][j]? = some u → ((W.alloc o).alloc (.cells #[x] t)).drew.cell? ((⟨W.heap.size + 1, 0, none⟩ : Addr).add j) = some u := by
  intro j u h
  have := cell_one_new (W.alloc o) x t j u h
  simpa using this

set_option maxHeartbeats 1000000 in
theorem newdisk_any (n : Nat) (h1 : 1 ≤ n) (h2 : n ≤ 64) (w : World) :
    Calls Try.prog 25 #[.int .i64 (n : Int)] w fun e w' => ∃ b a, e = .returned (.pointer (some ⟨b, 0, none⟩)) ∧ RDiskAt w' b a (Dk.new n) ∧ w.heap.size ≤ b ∧ w.heap.size ≤ a ∧ Below w.heap.size w w' := by
  obtain ⟨i0, hi0, hz0, hz1, hz2⟩ := info_parts info_str
  go_enter Try.func25, Try.ntmps25
  go_wp2_with fail
  go_loopg [4] n (fun k i wr => ∃ (j : Nat) (A : Option Addr) (c : Nat), j + k = n ∧ i = .int .i64 (j : Int) ∧
    Blk wr w.heap.size 109 #[.slice A j c, .bool false, .int .i64 0, .int .i64 0, .int .i64 0, .int .i64 1] ∧ wr.ownsRow w.heap.size 9 1 (.slice A j c) j (List.replicate j (str zeros64)) ∧ Below w.heap.size w wr)
  case atStart => exact ⟨0, none, 0, by omega, rfl, Blk.new _ _ _, World.ownsRow_nil _ _ _ _, (Below.refl _ _).alloc (Nat.le_refl _) _⟩
  case round =>
    obtain ⟨j, A, c, hj, rfl, hb, hown, hB⟩ := hrel
    by_cases hlt : j < n
    · have HJ := Lib.hid hj
      have HO := Lib.hid hown
      have HB := Lib.hid hb
      clear hj hown
      have c0 := (rdisk_cells hb).1
      have f0 := hb.frozen 0
      have hbl := hb.lt
      clear hb
      have hz := fun W => zeros_any 64 (by omega) W
      have HZ := Lib.hid hz
      clear hz
      go_wp2_with fail
      go_region_law (first
        | (go_simp; go_at_call 63; refine (HZ.out _).mono ?_; rintro e w2 ⟨rfl, rfl⟩)
        | (refine step_append_lies ((wr.alloc (.cells (zsrow 64) 5)).alloc (.cells #[.string ⟨(zs 64).toArray⟩] 9)).drew rfl (.tmp 16) (.tmp 18) _ rfl w.heap.size 9 i0 _ 1 16 Try.underlying64 hi0 hz0 hz1 hz2 rfl (by omega) (.slice A j c) j (List.replicate j (str zeros64)) rfl (show World.ownsRow ((wr.alloc (.cells (zsrow 64) 5)).alloc (.cells #[.string ⟨(zs 64).toArray⟩] 9)) _ _ _ _ _ _ from ((HO.out.alloc _).alloc _)) ⟨wr.heap.size + 1, 0, none⟩ 1 1 [.string ⟨(zs 64).toArray⟩] rfl rfl (one_new2 wr (.cells (zsrow 64) 5) (.string ⟨(zs 64).toArray⟩) 9) (by intro u hu; simp at hu; subst hu; rfl) (by omega) (by unfold maxLen; omega) (by omega) (by simp; omega) _ rfl ?_; intro g c' w1 hown1 hg1 hat1 hlt1
           have hb1 : Blk w1 w.heap.size 109 #[.slice A j c, .bool false, .int .i64 0, .int .i64 0, .int .i64 0, .int .i64 1] := Blk.grown (((HB.out.alloc _).alloc _).drew) hg1 (fun e => own_blk_ne HO.out HB.out (by decide) e.symm)
           have n0 := (rdisk_cells hb1).1
           have m0 := hb1.frozen 0
           have HB1 := Lib.hid hb1
           have HO1 := Lib.hid hown1
           have HG1 := Lib.hid hg1
           clear hb1 hown1 hg1 hat1))
      all_goals
        go_wp2
        go_roundg (n - (j + 1))
        case measure => have := HJ.out; omega
        case rel =>
          refine ⟨j + 1, some ⟨g, 0, none⟩, c', by have := HJ.out; omega, by go_num, ?_, ?_, ?_⟩
          · have := HB1.out.set_ 0 (.slice (some ⟨g, 0, none⟩) (j + 1) c')
            simpa using this
          · have h0 : w1.ownsRow w.heap.size 9 1 (.slice (some ⟨g, 0, none⟩) (j + 1) c') (j + 1) (List.replicate (j + 1) (str zeros64)) := by
              have := HO1.out
              rw [show List.replicate j (str zeros64) ++ [.string ⟨(zs 64).toArray⟩] = List.replicate (j + 1) (str zeros64) from by rw [List.replicate_succ']; rfl] at this
              exact this
            exact own_far h0 (own_blk_ne h0 HB1.out (by decide)) _
          · exact (((hB.alloc hB.size _).alloc (by have := hB.size; simp; omega) _).drew.grown HG1.out (by have := hB.size; simp; omega) (fun k hk => (HO.out.lt k hk).1)).setCell (Nat.le_refl _) _
    · obtain rfl : j = n := by omega
      clear hj
      go_wp2
      go_ret
      obtain ⟨g, cap, hv, hg, hlt⟩ := hown.form (by omega)
      simp only [Value.slice.injEq, true_and] at hv
      obtain ⟨rfl, rfl⟩ := hv
      refine ⟨w.heap.size, g, rfl, ?_, Nat.le_refl _, hg, hB⟩
      rcases hown.2 with ⟨h', _⟩ | ⟨g', cap', cur, h', hg1, hh, hnc, hcm', hcs, htake⟩
      · simp at h'
      · simp only [Value.slice.injEq, Option.some.injEq, Addr.mk.injEq, and_true, true_and] at h'
        obtain ⟨rfl, rfl⟩ := h'
        refine ⟨c, cur, 0, ?_, rfl, hh, by simpa using hcs, by simp [Dk.new]; omega, hcm', by simp [Dk.new]; omega, by simp [Dk.new]; omega, by simp [Dk.new], by simp [Dk.new], fun i s hs => ?_⟩
        · simpa [Dk.new] using hb
        · simp only [Dk.new] at hs
          obtain ⟨hi, rfl⟩ := List.getElem?_eq_some_iff.1 hs
          simp only [List.length_replicate] at hi
          have : (cur.toList.take (j * 1))[i]? = some (str zeros64) := by rw [htake]; simp [hi]
          rw [List.getElem?_take, if_pos (by omega)] at this
          simpa using this

/-- The struct alone is written. -/
theorem RDiskAt.upd {w w' : World} {b a : Nat} {d : Dk} (h : RDiskAt w b a d) (d' : Dk) (hS : d'.S = d.S) (h0 : 0 ≤ d'.cut) (h1 : d'.cut ≤ 9223372036854775807)
    (hb : ∀ (s0 : Value) (how : Int), (how.tmod 2 != 0) = d.odd → Blk w b 109 #[s0, .bool d.off, .int .i64 d.cut, .int .i64 how, .int .i64 d.writes, .int .i64 d.lives] →
      ∃ how' : Int, (how'.tmod 2 != 0) = d'.odd ∧ Blk w' b 109 #[s0, .bool d'.off, .int .i64 d'.cut, .int .i64 how', .int .i64 d'.writes, .int .i64 d'.lives]) (hk : DKept (fun k => k = b) w w') : RDiskAt w' b a d' := by
  have hne := h.ne
  obtain ⟨c, arr, how, hb0, ho, ha, h3, h4, h5, h6, h7, h8, h9, h10⟩ := h
  obtain ⟨how', ho', hb'⟩ := hb _ how ho hb0
  refine ⟨c, arr, how', by rw [hS]; exact hb', ho', hk.blk ha (fun e => hne e.symm), h3, by rw [hS]; exact h4, h5, by rw [hS]; exact h6, by rw [hS]; exact h7, h0, h1, fun i s hs => ?_⟩
  rw [hS] at hs
  exact h10 i s hs

/-- A sector is written, and the struct. -/
theorem RDiskAt.put {w w' : World} {b a : Nat} {d : Dk} (h : RDiskAt w b a d) (k : Nat) (s : List UInt8) (d' : Dk) (hS : d'.S = d.S.set k s) (h0 : 0 ≤ d'.cut) (h1 : d'.cut ≤ 9223372036854775807)
    (hb : ∀ (s0 : Value) (how : Int), (how.tmod 2 != 0) = d.odd → Blk w b 109 #[s0, .bool d.off, .int .i64 d.cut, .int .i64 how, .int .i64 d.writes, .int .i64 d.lives] →
      ∃ how' : Int, (how'.tmod 2 != 0) = d'.odd ∧ Blk w' b 109 #[s0, .bool d'.off, .int .i64 d'.cut, .int .i64 how', .int .i64 d'.writes, .int .i64 d'.lives])
    (ha : ∀ arr, Blk w a 9 arr → Blk w' a 9 (arr.setIfInBounds k (str s))) : RDiskAt w' b a d' := by
  obtain ⟨c, arr, how, hb0, ho, ha0, h3, h4, h5, h6, h7, h8, h9, h10⟩ := h
  obtain ⟨how', ho', hb'⟩ := hb _ how ho hb0
  have hl : d'.S.length = d.S.length := by rw [hS]; simp
  refine ⟨c, _, how', by rw [hl]; exact hb', ho', ha _ ha0, by simpa using h3, by rw [hl]; exact h4, h5, by rw [hl]; exact h6, by rw [hl]; exact h7, h0, h1, fun i s' hs' => ?_⟩
  by_cases e : k = i
  · subst e
    have hlt : k < d'.S.length := (List.getElem?_eq_some_iff.1 hs').1
    have e' : s' = s := by
      rw [hS, List.getElem?_set_self (by omega)] at hs'
      exact (Option.some.inj hs').symm
    subst e'
    rw [Array.getElem?_setIfInBounds_self_of_lt (by omega)]
  · rw [hS, List.getElem?_set_ne e] at hs'
    rw [Array.getElem?_setIfInBounds_ne e]
    exact h10 i s' hs'

section
variable {b a : Nat} {w : World}

theorem ron_any (d : Dk) (h : RDiskAt w b a d) :
    Calls Try.prog 33 #[.pointer (some ⟨b, 0, none⟩)] w fun e w' => e = .returned (.tuple #[]) ∧ RDiskAt w' b a d.on ∧ DKept (DS b a) w w' := by
  have H := h
  obtain ⟨c, arr, how, hb, -⟩ := h
  have f2 := hb.frozen 2
  have f1 := hb.frozen 1
  have f5 := hb.frozen 5
  obtain ⟨c0, c1, c2, c3, c4, c5⟩ := rdisk_cells hb
  clear hb
  go_enter Try.func33, Try.ntmps33
  go_wp2
  go_end0
  refine ⟨rfl, H.upd _ rfl (by simp [Dk.on]) (by simp [Dk.on]) (fun s0 how ho hb => ⟨how, ho, ?_⟩) (by repeat (first | exact DKept.refl | refine DKept.set ?_ (by first | exact rfl | exact Or.inl rfl))), (by repeat (first | exact DKept.refl | refine DKept.set ?_ (by first | exact rfl | exact Or.inl rfl)))⟩
  have := ((hb.set_ 1 (.bool false)).set_ 2 (.int .i64 0)).set_ 5 (.int .i64 (wrap64 (d.lives + 1)))
  simpa [Dk.on] using this

theorem arm_any (d : Dk) (n how : Int) (hn : n ≤ 9223372036854775807) (h : RDiskAt w b a d) :
    Calls Try.prog 29 #[.pointer (some ⟨b, 0, none⟩), .int .i64 n, .int .i64 how] w fun e w' => e = .returned (.tuple #[]) ∧ RDiskAt w' b a (d.armed n how) ∧ DKept (DS b a) w w' := by
  have H := h
  obtain ⟨c, arr, how0, hb, -⟩ := h
  have f2 := hb.frozen 2
  have f3 := hb.frozen 3
  obtain ⟨c0, c1, c2, c3, c4, c5⟩ := rdisk_cells hb
  clear hb
  by_cases h1 : n < 1
  · go_enter Try.func29, Try.ntmps29
    go_wp2
    go_end0
    refine ⟨rfl, H.upd _ rfl (by simp only [Dk.armed]; omega) (by simp only [Dk.armed]; omega) (fun s0 how1 ho hb => ⟨how, rfl, ?_⟩) (by repeat (first | exact DKept.refl | refine DKept.set ?_ (by first | exact rfl | exact Or.inl rfl))), (by repeat (first | exact DKept.refl | refine DKept.set ?_ (by first | exact rfl | exact Or.inl rfl)))⟩
    have := ((hb.set_ 2 (.int .i64 n)).set_ 2 (.int .i64 0)).set_ 3 (.int .i64 how)
    have e : max n 0 = 0 := by omega
    simpa [Dk.armed, e] using this
  · go_enter Try.func29, Try.ntmps29
    go_wp2
    go_end0
    refine ⟨rfl, H.upd _ rfl (by simp only [Dk.armed]; omega) (by simp only [Dk.armed]; omega) (fun s0 how1 ho hb => ⟨how, rfl, ?_⟩) (by repeat (first | exact DKept.refl | refine DKept.set ?_ (by first | exact rfl | exact Or.inl rfl))), (by repeat (first | exact DKept.refl | refine DKept.set ?_ (by first | exact rfl | exact Or.inl rfl)))⟩
    have := (hb.set_ 2 (.int .i64 n)).set_ 3 (.int .i64 how)
    have e : max n 0 = n := by omega
    simpa [Dk.armed, e] using this
end
end Go.Proofs.Ytlbikfamjogpnaa
end

/- The reference's Write answers as the plain disk does. Conditions: the disk lies in memory as RDiskAt says. -/
section
namespace Go.Proofs.Ytlbikfamjogpnaa
open Go.RowKit

theorem str_pad (l : List UInt8) : (.string (⟨l.toArray⟩ ++ ⟨(zs (64 - l.length)).toArray⟩) : Value) = str (pad l) := by
  unfold str
  have e : (⟨l.toArray⟩ ++ ⟨(zs (64 - l.length)).toArray⟩ : ByteArray) = ⟨(pad l).toArray⟩ := by
    apply ByteArray.ext
    simp [pad, zs]
  rw [e]

section
variable {b a : Nat} {w : World}

set_option maxHeartbeats 1000000 in
theorem rwrite_plain (d : Dk) (sector : Int) (l : List UInt8) (h : RDiskAt w b a d) (hm : d.may sector l.length = 0) (hc : d.cut = 0) :
    Calls Try.prog 32 #[.pointer (some ⟨b, 0, none⟩), .int .i64 sector, .string ⟨l.toArray⟩] w fun e w' => e = .returned (.int .i64 (d.write sector l).2) ∧ RDiskAt w' b a (d.write sector l).1 ∧ DKept (DS b a) w w' := by
  have hw : d.write sector l = ((d.put sector l).counted, 0) := by simp [Dk.write, hm, hc]
  rw [hw]
  obtain ⟨hs0, hs1, hm64, hoff⟩ := may_zero hm
  have H := h
  have hab := h.ne
  have hba : ¬ a = b := fun e => hab e.symm
  have hbl := h.ltb
  have hal := h.lta
  obtain ⟨c, arr, how, hb, -, ha, hsz, hlc, hcm, -, -, -, -, hsec⟩ := h
  obtain ⟨k, rfl⟩ := Int.eq_ofNat_of_zero_le hs0
  have hk : k < d.S.length := by omega
  have hvk := hsec k _ (List.getElem?_eq_getElem hk)
  rw [hc, hoff] at hb
  have hck := (ha.cell k).trans hvk
  have fk := ha.frozen k
  have f4 := hb.frozen 4
  obtain ⟨c0, c1, c2, c3, c4, c5⟩ := rdisk_cells hb
  have HCUT := Lib.hid hc
  have hzl : (zs (64 - l.length)).length = 64 - l.length := by simp [zs]
  have hsize : ByteArray.size ⟨l.toArray⟩ = l.length := rfl
  have HZ := Lib.hid (fun W => zeros_any (64 - l.length) (by omega) W)
  clear hw hm hoff hc hb ha hsec hvk hsz
  unfold maxLen at hcm
  go_enter Try.func32, Try.ntmps32
  go_wp2_with fail
  rw [show (64 - (l.length : Int)) = ((64 - l.length : Nat) : Int) from by omega]
  refine (HZ.out _).mono ?_
  rintro e w1 ⟨rfl, rfl⟩
  go_wp2
  go_ret
  refine ⟨rfl, H.put k (pad l) _ (by simp [Dk.put, Dk.counted]) (by have := HCUT.out; simp only [Dk.put, Dk.counted]; omega) (by have := HCUT.out; simp only [Dk.put, Dk.counted]; omega)
    (fun s0 how1 ho hb => ⟨how1, ho, ?_⟩) (fun arr ha => ?_), ?_⟩
  · have := ((hb.far (p := ⟨a, k, none⟩) hab (str (pad l))).set_ 4 (.int .i64 (wrap64 (d.writes + 1)))).alloc (.cells (zsrow (64 - l.length)) 5)
    rw [← str_pad] at this
    simpa [Dk.put, Dk.counted] using this
  · have := ((ha.set_ k (str (pad l))).far (p := ⟨b, 4, none⟩) hba (.int .i64 (wrap64 (d.writes + 1)))).alloc (.cells (zsrow (64 - l.length)) 5)
    rw [← str_pad] at this ⊢
    simpa using this
  · repeat (first | exact DKept.refl | refine DKept.alloc ?_ _ | refine DKept.set ?_ (by first | exact Or.inl rfl | exact Or.inr rfl))

set_option maxHeartbeats 1000000 in
theorem rwrite_counts (d : Dk) (sector : Int) (l : List UInt8) (h : RDiskAt w b a d) (hm : d.may sector l.length = 0) (hc : 2 ≤ d.cut) (hx : d.cut ≤ 9223372036854775807) :
    Calls Try.prog 32 #[.pointer (some ⟨b, 0, none⟩), .int .i64 sector, .string ⟨l.toArray⟩] w fun e w' => e = .returned (.int .i64 (d.write sector l).2) ∧ RDiskAt w' b a (d.write sector l).1 ∧ DKept (DS b a) w w' := by
  have hw : d.write sector l = ((d.less.put sector l).counted, 0) := by simp [Dk.write, hm, show 0 < d.cut by omega, show ¬ d.cut = 1 by omega]
  rw [hw]
  obtain ⟨hs0, hs1, hm64, hoff⟩ := may_zero hm
  have H := h
  have hab := h.ne
  have hba : ¬ a = b := fun e => hab e.symm
  have hbl := h.ltb
  have hal := h.lta
  obtain ⟨c, arr, how, hb, -, ha, hsz, hlc, hcm, -, -, -, -, hsec⟩ := h
  obtain ⟨k, rfl⟩ := Int.eq_ofNat_of_zero_le hs0
  have hk : k < d.S.length := by omega
  have hvk := hsec k _ (List.getElem?_eq_getElem hk)
  rw [hoff] at hb
  have hck := (ha.cell k).trans hvk
  have fk := ha.frozen k
  have f4 := hb.frozen 4
  have f2 := hb.frozen 2
  have f1 := hb.frozen 1
  obtain ⟨c0, c1, c2, c3, c4, c5⟩ := rdisk_cells hb
  have HCUT := Lib.hid hc
  have HX := Lib.hid hx
  have hzl : (zs (64 - l.length)).length = 64 - l.length := by simp [zs]
  have hsize : ByteArray.size ⟨l.toArray⟩ = l.length := rfl
  have HZ := Lib.hid (fun W => zeros_any (64 - l.length) (by omega) W)
  clear hw hm hoff hb ha hsec hvk hsz
  unfold maxLen at hcm
  go_enter Try.func32, Try.ntmps32
  go_wp2_with fail
  rw [show (64 - (l.length : Int)) = ((64 - l.length : Nat) : Int) from by omega]
  refine (HZ.out _).mono ?_
  rintro e w1 ⟨rfl, rfl⟩
  go_wp2
  go_ret
  refine ⟨rfl, H.put k (pad l) _ (by simp [Dk.put, Dk.counted, Dk.less]) (by have := HCUT.out; simp only [Dk.put, Dk.counted, Dk.less]; omega) (by have := HCUT.out; have := HX.out; simp only [Dk.put, Dk.counted, Dk.less]; omega)
    (fun s0 how1 ho hb => ⟨how1, ho, ?_⟩) (fun arr ha => ?_), ?_⟩
  · have := (((hb.set_ 2 (.int .i64 (d.cut - 1))).far (p := ⟨a, k, none⟩) hab (str (pad l))).set_ 4 (.int .i64 (wrap64 (d.writes + 1)))).alloc (.cells (zsrow (64 - l.length)) 5)
    rw [← str_pad] at this
    simpa [Dk.put, Dk.counted, Dk.less] using this
  · have := (((ha.far (p := ⟨b, 2, none⟩) hba (.int .i64 (d.cut - 1))).set_ k (str (pad l))).far (p := ⟨b, 4, none⟩) hba (.int .i64 (wrap64 (d.writes + 1)))).alloc (.cells (zsrow (64 - l.length)) 5)
    rw [← str_pad] at this ⊢
    simpa using this
  · repeat (first | exact DKept.refl | refine DKept.alloc ?_ _ | refine DKept.set ?_ (by first | exact Or.inl rfl | exact Or.inr rfl))

set_option maxHeartbeats 1000000 in
theorem rwrite_cut_odd (d : Dk) (sector : Int) (l : List UInt8) (h : RDiskAt w b a d) (hm : d.may sector l.length = 0) (hc : d.cut = 1) (ho1 : d.odd = true) :
    Calls Try.prog 32 #[.pointer (some ⟨b, 0, none⟩), .int .i64 sector, .string ⟨l.toArray⟩] w fun e w' => e = .returned (.int .i64 (d.write sector l).2) ∧ RDiskAt w' b a (d.write sector l).1 ∧ DKept (DS b a) w w' := by
  have hw : d.write sector l = (d.cutOff.put sector l, 4) := by simp [Dk.write, hm, hc, ho1]
  rw [hw]
  obtain ⟨hs0, hs1, hm64, hoff⟩ := may_zero hm
  have H := h
  have hab := h.ne
  have hba : ¬ a = b := fun e => hab e.symm
  have hbl := h.ltb
  have hal := h.lta
  obtain ⟨c, arr, how, hb, hodd, ha, hsz, hlc, hcm, -, -, -, -, hsec⟩ := h
  obtain ⟨k, rfl⟩ := Int.eq_ofNat_of_zero_le hs0
  have hk : k < d.S.length := by omega
  have hvk := hsec k _ (List.getElem?_eq_getElem hk)
  rw [hc, hoff] at hb
  rw [ho1] at hodd
  have hck := (ha.cell k).trans hvk
  have fk := ha.frozen k
  have f4 := hb.frozen 4
  have f2 := hb.frozen 2
  have f1 := hb.frozen 1
  obtain ⟨c0, c1, c2, c3, c4, c5⟩ := rdisk_cells hb
  have hzl : (zs (64 - l.length)).length = 64 - l.length := by simp [zs]
  have hsize : ByteArray.size ⟨l.toArray⟩ = l.length := rfl
  have HZ := Lib.hid (fun W => zeros_any (64 - l.length) (by omega) W)
  clear hw hm hoff hc ho1 hb ha hsec hvk hsz
  unfold maxLen at hcm
  go_enter Try.func32, Try.ntmps32
  go_wp2_with fail
  rw [show (64 - (l.length : Int)) = ((64 - l.length : Nat) : Int) from by omega]
  refine (HZ.out _).mono ?_
  rintro e w1 ⟨rfl, rfl⟩
  go_wp2
  go_ret
  refine ⟨rfl, H.put k (pad l) _ (by simp [Dk.put, Dk.cutOff]) (by simp [Dk.put, Dk.cutOff]) (by simp [Dk.put, Dk.cutOff])
    (fun s0 how1 ho hb => ⟨how1, ho, ?_⟩) (fun arr ha => ?_), ?_⟩
  · have := (((hb.set_ 2 (.int .i64 0)).set_ 1 (.bool true)).far (p := ⟨a, k, none⟩) hab (str (pad l))).alloc (.cells (zsrow (64 - l.length)) 5)
    rw [← str_pad] at this
    simpa [Dk.put, Dk.cutOff] using this
  · have := (((ha.far (p := ⟨b, 2, none⟩) hba (.int .i64 0)).far (p := ⟨b, 1, none⟩) hba (.bool true)).set_ k (str (pad l))).alloc (.cells (zsrow (64 - l.length)) 5)
    rw [← str_pad] at this ⊢
    simpa using this
  · repeat (first | exact DKept.refl | refine DKept.alloc ?_ _ | refine DKept.set ?_ (by first | exact Or.inl rfl | exact Or.inr rfl))

set_option maxHeartbeats 1000000 in
theorem rwrite_cut_even (d : Dk) (sector : Int) (l : List UInt8) (h : RDiskAt w b a d) (hm : d.may sector l.length = 0) (hc : d.cut = 1) (ho1 : d.odd = false) :
    Calls Try.prog 32 #[.pointer (some ⟨b, 0, none⟩), .int .i64 sector, .string ⟨l.toArray⟩] w fun e w' => e = .returned (.int .i64 (d.write sector l).2) ∧ RDiskAt w' b a (d.write sector l).1 ∧ DKept (DS b a) w w' := by
  have hw : d.write sector l = (d.cutOff, 4) := by simp [Dk.write, hm, hc, ho1]
  rw [hw]
  obtain ⟨hs0, hs1, hm64, hoff⟩ := may_zero hm
  have H := h
  have hab := h.ne
  have hba : ¬ a = b := fun e => hab e.symm
  have hbl := h.ltb
  have hal := h.lta
  obtain ⟨c, arr, how, hb, hodd, ha, hsz, hlc, hcm, -, -, -, -, hsec⟩ := h
  obtain ⟨k, rfl⟩ := Int.eq_ofNat_of_zero_le hs0
  have hk : k < d.S.length := by omega
  have hvk := hsec k _ (List.getElem?_eq_getElem hk)
  rw [hc, hoff] at hb
  rw [ho1] at hodd
  have hck := (ha.cell k).trans hvk
  have fk := ha.frozen k
  have f4 := hb.frozen 4
  have f2 := hb.frozen 2
  have f1 := hb.frozen 1
  obtain ⟨c0, c1, c2, c3, c4, c5⟩ := rdisk_cells hb
  have hzl : (zs (64 - l.length)).length = 64 - l.length := by simp [zs]
  have hsize : ByteArray.size ⟨l.toArray⟩ = l.length := rfl
  have HZ := Lib.hid (fun W => zeros_any (64 - l.length) (by omega) W)
  clear hw hm hoff hc ho1 hb ha hsec hvk hsz
  unfold maxLen at hcm
  go_enter Try.func32, Try.ntmps32
  go_wp2_with fail
  rw [show (64 - (l.length : Int)) = ((64 - l.length : Nat) : Int) from by omega]
  refine (HZ.out _).mono ?_
  rintro e w1 ⟨rfl, rfl⟩
  go_wp2
  go_ret
  refine ⟨rfl, H.upd _ (by simp [Dk.cutOff]) (by simp [Dk.cutOff]) (by simp [Dk.cutOff])
    (fun s0 how1 ho hb => ⟨how1, ho, ?_⟩) ?_, ?_⟩
  · have := ((hb.set_ 2 (.int .i64 0)).set_ 1 (.bool true)).alloc (.cells (zsrow (64 - l.length)) 5)
    simpa [Dk.cutOff] using this
  · exact (DKept.set (DKept.set DKept.refl (by exact rfl)) (by exact rfl)).alloc _
  · repeat (first | exact DKept.refl | refine DKept.alloc ?_ _ | refine DKept.set ?_ (by first | exact Or.inl rfl | exact Or.inr rfl))

set_option maxHeartbeats 1000000 in
theorem rwrite_no (d : Dk) (sector : Int) (l : List UInt8) (h : RDiskAt w b a d) (hl : l.length ≤ 9223372036854775807) (hm : d.may sector l.length ≠ 0) :
    Calls Try.prog 32 #[.pointer (some ⟨b, 0, none⟩), .int .i64 sector, .string ⟨l.toArray⟩] w fun e w' => e = .returned (.int .i64 (d.write sector l).2) ∧ RDiskAt w' b a (d.write sector l).1 ∧ DKept (DS b a) w w' := by
  have hw : d.write sector l = (d, d.may sector l.length) := by simp [Dk.write, hm]
  rw [hw]
  have H := h
  obtain ⟨c, arr, how, hb, -, -, -, hlc, hcm, -, h4, -⟩ := h
  have hsize : ByteArray.size ⟨l.toArray⟩ = l.length := rfl
  unfold maxLen at hcm
  by_cases e1 : sector < 0
  · have hv : d.may sector l.length = 1 := by simp [Dk.may, e1]
    rw [hv]
    obtain ⟨c0, c1, -, -, -, -⟩ := rdisk_cells hb
    clear hb hw hm hv
    go_enter Try.func32, Try.ntmps32
    go_wp2
    go_ret
    exact ⟨rfl, H, DKept.refl⟩
  by_cases e2 : (d.S.length : Int) ≤ sector
  · have hv : d.may sector l.length = 1 := by simp [Dk.may, e2]
    rw [hv]
    obtain ⟨c0, c1, -, -, -, -⟩ := rdisk_cells hb
    clear hb hw hm hv
    go_enter Try.func32, Try.ntmps32
    go_wp2
    go_ret
    exact ⟨rfl, H, DKept.refl⟩
  by_cases e3 : 64 < (l.length : Int)
  · have hv : d.may sector l.length = 1 := by simp only [Dk.may]; rw [if_pos (by omega)]
    rw [hv]
    obtain ⟨c0, c1, -, -, -, -⟩ := rdisk_cells hb
    clear hb hw hm hv
    go_enter Try.func32, Try.ntmps32
    go_wp2
    go_ret
    exact ⟨rfl, H, DKept.refl⟩
  · have hoff : d.off = true := by
      rcases Bool.eq_false_or_eq_true d.off with h | h
      · exact h
      · exact absurd (by simp only [Dk.may]; rw [if_neg (by omega), if_neg (by simp [h])]) hm
    have hv : d.may sector l.length = 4 := by simp only [Dk.may]; rw [if_neg (by omega), if_pos hoff]
    rw [hv]
    rw [hoff] at hb
    obtain ⟨c0, c1, -, -, -, -⟩ := rdisk_cells hb
    clear hb hw hm hv hoff
    go_enter Try.func32, Try.ntmps32
    go_wp2
    go_ret
    exact ⟨rfl, H, DKept.refl⟩

/-- Write, whatever comes. -/
theorem rwrite_any (d : Dk) (sector : Int) (l : List UInt8) (h : RDiskAt w b a d) (hl : l.length ≤ 9223372036854775807) :
    Calls Try.prog 32 #[.pointer (some ⟨b, 0, none⟩), .int .i64 sector, .string ⟨l.toArray⟩] w fun e w' => e = .returned (.int .i64 (d.write sector l).2) ∧ RDiskAt w' b a (d.write sector l).1 ∧ DKept (DS b a) w w' := by
  by_cases hm : d.may sector l.length = 0
  · obtain ⟨h0, h1⟩ : 0 ≤ d.cut ∧ d.cut ≤ 9223372036854775807 := by
      obtain ⟨c, arr, how, _, _, _, _, _, _, _, _, h8, h9, _⟩ := h
      exact ⟨h8, h9⟩
    by_cases e0 : d.cut = 0
    · exact rwrite_plain d sector l h hm e0
    by_cases e1 : d.cut = 1
    · rcases Bool.eq_false_or_eq_true d.odd with ho | ho
      · exact rwrite_cut_odd d sector l h hm e1 ho
      · exact rwrite_cut_even d sector l h hm e1 ho
    · exact rwrite_counts d sector l h hm (by omega) h1
  · exact rwrite_no d sector l h hl hm
end
end Go.Proofs.Ytlbikfamjogpnaa
end

/- The reference's small functions over frames: Size, up, low, sum. Conditions: strings of the sizes told. -/
section
namespace Go.Proofs.Ytlbikfamjogpnaa
open Go.RowKit
set_option linter.unusedVariables false
set_option linter.unusedSimpArgs false

theorem str_cat (l m : List UInt8) : (⟨l.toArray⟩ : ByteArray) ++ ⟨m.toArray⟩ = ⟨(l ++ m).toArray⟩ := by
  apply ByteArray.ext
  simp
theorem str_slice (V : World) (l : List UInt8) (i j : Nat) (h1 : i ≤ j) (h2 : j ≤ l.length) :
    (Instr.slice 9 (.string ⟨l.toArray⟩) (some (.int .i64 (i : Int))) (some (.int .i64 (j : Int))) none).run Try.prog V = .ok (.string ⟨((l.drop i).take (j - i)).toArray⟩) V := by
  have := run_slice_string (P := Try.prog) V 9 ⟨l.toArray⟩ .i64 .i64 i j Try.underlying9 (by omega) (by omega) (by show (j : Int) ≤ (l.length : Int); omega)
  rw [ByteArray.extract_mk] at this
  exact this
theorem str_from (V : World) (l : List UInt8) (i : Nat) (h1 : i ≤ l.length) :
    (Instr.slice 9 (.string ⟨l.toArray⟩) (some (.int .i64 (i : Int))) none none).run Try.prog V = .ok (.string ⟨(l.drop i).toArray⟩) V := by
  have := run_slice_string_from_if (P := Try.prog) V 9 ⟨l.toArray⟩ .i64 i Try.underlying9
  rw [if_pos ⟨by omega, by show (i : Int) ≤ (l.length : Int); omega⟩, ByteArray.extract_mk] at this
  rw [this]
  show Result.ok (Value.string ⟨((l.drop i).take (l.length - i)).toArray⟩) V = _
  rw [List.take_of_length_le (by rw [List.length_drop]; exact Nat.le_refl _)]
theorem str_to (V : World) (l : List UInt8) (j : Nat) (h1 : j ≤ l.length) :
    (Instr.slice 9 (.string ⟨l.toArray⟩) none (some (.int .i64 (j : Int))) none).run Try.prog V = .ok (.string ⟨(l.take j).toArray⟩) V := by
  have := run_slice_string_to_if (P := Try.prog) V 9 ⟨l.toArray⟩ .i64 j Try.underlying9
  rw [if_pos ⟨by omega, by show (j : Int) ≤ (l.length : Int); omega⟩, ByteArray.extract_mk] at this
  exact this
theorem str_index (V : World) (l : List UInt8) (i : Nat) (x : UInt8) (h : l[i]? = some x) :
    (Instr.index 9 (.string ⟨l.toArray⟩) (.int .i64 (i : Int))).run Try.prog V = .ok (.int .u8 (x.toNat : Int)) V := by
  obtain ⟨hi, hx⟩ := List.getElem?_eq_some_iff.1 h
  have := run_index_string (P := Try.prog) V 9 ⟨l.toArray⟩ .i64 i Try.underlying9
  rw [dif_pos ⟨by omega, by show (i : Int) < (l.length : Int); omega⟩] at this
  rw [this, ← hx]
  rfl
theorem conv_bytes (V : World) (l : List UInt8) (h : l.length ≤ 100000000) : ∃ c V', (convert 9 36 (.string ⟨l.toArray⟩)).run Try.prog V = .ok (.slice (some ⟨V.heap.size, 0, none⟩) l.length c) V' ∧ Bts V' (some ⟨V.heap.size, 0, none⟩) l.length c l ∧ Below V.heap.size V V' := by
  have hr := run_bytes_of_string (P := Try.prog) V 9 36 5 ⟨l.toArray⟩ Try.underlying9 Try.underlying36 Try.underlying5
  have h1 := grownCap_ge V l.length 0 5
  have h2 := grownCap_le_maxLen V l.length 0 5 (by unfold maxLen; omega)
  have hs : (⟨l.toArray⟩ : ByteArray).size = l.length := rfl
  rw [hs] at hr
  generalize grownCap V l.length 0 5 = c at hr h1 h2
  refine ⟨c, _, hr, ?_, ((Below.refl _ _).drew).alloc (Nat.le_refl _) _⟩
  refine ⟨by simp, ⟨by simp, fun hn => ⟨_, rfl, by simp, fun j u hu => ?_⟩⟩, h1, h2, rfl⟩
  have hj : j < l.length := by
    have := (List.getElem?_eq_some_iff.1 hu).1
    simpa using this
  rw [add_zero_off]
  have e := cell_of_row _ V.heap.size j _ _ _ (heap_alloc_new V.drew (.cells (bytesRow ⟨l.toArray⟩ c) 5 ((bytesRow ⟨l.toArray⟩ c).size, (bytesRow ⟨l.toArray⟩ c).size + 1)))
  refine e.trans ?_
  unfold bytesRow
  rw [Array.getElem?_append_left (by simpa using hj)]
  simp only [List.getElem?_map, List.getElem?_eq_getElem hj] at hu
  simp only [Array.getElem?_map]
  simpa [byt, hj] using hu

theorem rsize_any (w : World) (n : Int) (h1 : -9223372036854775808 ≤ n) (h2 : n ≤ 9223372036854775807) :
    Calls Try.prog 65 #[.int .i64 n] w fun e w' => e = .returned (.int .i64 (fsize n)) ∧ w = w' := by
  by_cases a1 : n < 0 ∨ 1000 < n
  · have e : fsize n = 0 := by unfold fsize; rw [if_pos a1]
    rw [e]
    rcases a1 with a1 | a1
    · have b1 : decide (n < 0) = true := decide_eq_true a1
      go_enter Try.func65, Try.ntmps65
      go_wp2
      go_ret
      exact ⟨rfl, rfl⟩
    · have b1 : decide (n < 0) = false := decide_eq_false (by omega)
      have b2 : decide (1000 < n) = true := decide_eq_true a1
      go_enter Try.func65, Try.ntmps65
      go_wp2
      go_ret
      exact ⟨rfl, rfl⟩
  · have b1 : decide (n < 0) = false := decide_eq_false (by omega)
    have b2 : decide (1000 < n) = false := decide_eq_false (by omega)
    by_cases a3 : n ≤ 44
    · have e : fsize n = 1 := by unfold fsize; rw [if_neg a1, if_pos a3]
      have b3 : decide (n ≤ 44) = true := decide_eq_true a3
      rw [e]
      go_enter Try.func65, Try.ntmps65
      go_wp2
      go_ret
      exact ⟨rfl, rfl⟩
    · have b3 : decide (n ≤ 44) = false := decide_eq_false a3
      have e : fsize n = 1 + (n - 44 + 62).tdiv 63 := by
        unfold fsize
        rw [if_neg a1, if_neg a3, Int.tdiv_eq_ediv_of_nonneg (by omega), show n - 44 + 62 = n + 18 by omega]
      have b5 : (n - 44 + 62).tdiv 63 = (n + 18) / 63 := by rw [Int.tdiv_eq_ediv_of_nonneg (by omega), show n - 44 + 62 = n + 18 by omega]
      rw [e]
      go_enter Try.func65, Try.ntmps65
      go_wp2
      go_ret
      exact ⟨ret_int (by omega), rfl⟩

theorem up_step (v x : Nat) (hv : v < 2 ^ 56) (hx : x < 256) : bits .or .u64 (IntKind.u64.wrap ((v : Int) * 256)) (x : Int) = ((x + 256 * v : Nat) : Int) := by
  have e : IntKind.u64.wrap ((v : Int) * 256) = ((v * 2 ^ 8 : Nat) : Int) := by
    rw [IntKind.wrap_u64]
    omega
  rw [e, bits_or_u64_nat _ _ (by omega) (by omega)]
  congr 1
  rw [nat_join 8 _ _ (by rw [Nat.mul_mod_left]) (by omega)]
  omega
theorem upB_drop {l : List UInt8} {i : Nat} {x : UInt8} (h : l[i]? = some x) : upB (l.drop i) = x.toNat + 256 * upB (l.drop (i + 1)) := by
  have : l.drop i = x :: l.drop (i + 1) := List.drop_eq_getElem?_toList_append.trans (by rw [h]; rfl)
  rw [this]
  rfl
set_option maxRecDepth 100000 in
set_option maxHeartbeats 1000000 in
theorem up_any (w : World) (l : List UInt8) (h : l.length ≤ 8) : Calls Try.prog 100 #[.string ⟨l.toArray⟩] w fun e w' => e = .returned (.int .u64 (upB l : Nat)) ∧ w = w' := by
  have hsz : (⟨l.toArray⟩ : ByteArray).size = l.length := rfl
  have ew : IntKind.i64.wrap ((l.length : Int) - 1) = (l.length : Int) - 1 := IntWalk.i64_in _ (by omega)
  go_enter Try.func100, Try.ntmps100
  go_wp2_with fail
  go_loopg [3, 4] l.length (fun m v i wr => ∃ k : Nat, k = m ∧ k ≤ l.length ∧ i = .int .i64 ((k : Int) - 1) ∧ v = .int .u64 (upB (l.drop k) : Nat) ∧ wr = w)
  case atStart => exact ⟨l.length, rfl, Nat.le_refl _, rfl, by rw [List.drop_length]; rfl, rfl⟩
  case round =>
    obtain ⟨k, hk, hkl, rfl, rfl, rfl⟩ := hrel
    have HK := Lib.hid hk
    clear hk ew
    by_cases hp : 0 < k
    · obtain ⟨i, rfl⟩ : ∃ i, k = i + 1 := ⟨k - 1, by omega⟩
      have ei : (((i + 1 : Nat) : Int) - 1) = (i : Int) := by omega
      rw [ei]
      obtain ⟨x, hx⟩ : ∃ x, l[i]? = some x := ⟨_, List.getElem?_eq_getElem (by omega)⟩
      have hi := str_index wr l i x hx
      have hd := upB_drop hx
      have hu := upB_lt (l.drop (i + 1))
      have hlt : upB (l.drop (i + 1)) < 2 ^ 56 := Nat.lt_of_lt_of_le hu (Nat.pow_le_pow_right (by omega) (by rw [List.length_drop]; omega))
      have hs := up_step (upB (l.drop (i + 1))) x.toNat hlt x.toNat_lt
      have HD := Lib.hid hd
      have es : IntKind.i64.wrap ((i : Int) - 1) = (i : Int) - 1 := IntWalk.i64_in _ (by omega)
      have h256 := x.toNat_lt
      generalize upB (l.drop (i + 1)) = v at *
      clear hd hu hlt hx
      go_wp2
      go_roundg i
      case measure => have := HK.out; omega
      case rel => exact ⟨i, rfl, by omega, rfl, by rw [HD.out]; simp, rfl⟩
    · obtain rfl : k = 0 := by omega
      go_wp2
      go_ret
      exact ⟨rfl, rfl⟩
theorem low_set (x j k : Nat) (h : j < k) : (((leB x j ++ zs (k - j)).map byt).toArray.setIfInBounds j (.int .u8 ((x : Int) / 2 ^ (8 * j) % 256))) = ((leB x (j + 1) ++ zs (k - (j + 1))).map byt).toArray := by
  have hz : zs (k - j) = 0 :: zs (k - (j + 1)) := by
    rw [show k - j = (k - (j + 1)) + 1 by omega]
    rfl
  have hv : byt (UInt8.ofNat (x / 2 ^ (8 * j) % 256)) = .int .u8 ((x : Int) / 2 ^ (8 * j) % 256) := by
    unfold byt
    congr 1
    simp
  rw [List.setIfInBounds_toArray, hz, leB, ← hv, List.map_append, List.map_cons, List.set_append_right _ _ (by rw [List.length_map, leB_len]; exact Nat.le_refl _)]
  congr 1
  rw [List.length_map, leB_len, Nat.sub_self, List.set_cons_zero]
  simp
set_option maxRecDepth 100000 in
set_option maxHeartbeats 2000000 in
theorem rlow_any (w : World) (x k : Nat) (hk : k ≤ 8) : Calls Try.prog 67 #[.int .u64 (x : Int), .int .i64 (k : Int)] w fun e w' => e = .returned (.string ⟨(leB x k).toArray⟩) ∧ Below w.heap.size w w' := by
  have hmk := make_zs k (by omega)
  have HW : Hid (∀ j : Nat, j ≤ k → ((leB x j ++ zs (k - j)).map byt).toArray.size = k) := Lib.hid (fun j hj => by simp [leB_len, zs]; omega)
  go_enter Try.func67, Try.ntmps67
  go_wp2_with fail
  go_loopg [6] k (fun m i wr => ∃ j : Nat, j + m = k ∧ i = .int .i64 (j : Int) ∧ Hid (Blk wr w.heap.size 5 ((leB x j ++ zs (k - j)).map byt).toArray) ∧ Hid (Below w.heap.size w wr))
  case atStart => exact ⟨0, by omega, rfl, Lib.hid (Blk.new w 5 (zsrow k)), Lib.hid ((Below.refl _ _).alloc (Nat.le_refl _) _)⟩
  case round =>
    obtain ⟨j, hj, rfl, HB, HBW⟩ := hrel
    clear hmk
    have HJ := Lib.hid hj
    by_cases hlt : j < k
    · have hf := HB.out.frozen j
      have hc : wr.cell? ⟨w.heap.size, j, none⟩ = some (.int .u8 0) := by
        rw [HB.out.cell j]
        simp [List.getElem?_append_right, leB_len, zs, byt, List.getElem?_replicate]
        omega
      have e8 : IntKind.i64.wrap (8 * (j : Int)) = 8 * (j : Int) := IntWalk.i64_in _ (by omega)
      have en : (8 * (j : Int)).toNat = 8 * j := by omega
      have e0 : (0 : Int) ≤ 8 * (j : Int) := by omega
      clear hj
      go_wp2
      go_roundg (k - (j + 1))
      case measure => have := HJ.out; omega
      case rel =>
        have := HJ.out
        refine ⟨j + 1, by omega, by go_num, Lib.hid ?_, Lib.hid (HBW.out.setCell (p := ⟨w.heap.size, j, none⟩) (Nat.le_refl _) _)⟩
        have h1 := HB.out.set_ j (.int .u8 ((x : Int) / 2 ^ (8 * j) % 256))
        rw [low_set x j k hlt] at h1
        exact h1
    · obtain rfl : j = k := by omega
      have e : (leB x j ++ zs (j - j)) = leB x j := by simp [zs]
      have hb : Bts wr (some ⟨w.heap.size, 0, none⟩) j j (leB x j) := bts_blk (by rw [← e]; exact HB.out) (leB_len _ _) (by unfold maxLen; omega)
      have cv := run_string_of wr 36 9 5 Try.underlying36 Try.underlying5 Try.underlying9 (c := j) hb.2.1
      clear hb e hj
      go_wp2
      go_ret
      exact ⟨rfl, HBW.out⟩
set_option maxRecDepth 100000 in
theorem rsum_any (w : World) (h b : List UInt8) (hh : h.length ≤ 100) (hb : b.length ≤ 2000) : Calls Try.prog 68 #[.string ⟨h.toArray⟩, .string ⟨b.toArray⟩] w fun e w' => e = .returned (.string ⟨(leB (sumOf (h ++ b)) 4).toArray⟩) ∧ Below w.heap.size w w' := by
  have e1 := str_cat h b
  have hl : (h ++ b).length ≤ 100000000 := by rw [List.length_append]; omega
  generalize h ++ b = m at *
  obtain ⟨c, V, hr, hbt, hbl⟩ := conv_bytes w m hl
  have CS := Lib.hid (sum_ref hbt)
  have hs : sumOf m ≤ 4294967295 := Nat.sub_le _ _
  generalize sumOf m = s at *
  have CL := Lib.hid (rlow_any V s 4 (by omega))
  have HB := Lib.hid hbl
  have eu : IntKind.u64.wrap ((s : Nat) : Int) = ((s : Nat) : Int) := by
    rw [IntKind.wrap_u64]
    omega
  clear hbt hbl
  go_enter Try.func68, Try.ntmps68
  go_wp2_with fail
  refine CS.out.mono ?_
  rintro e w' ⟨rfl, rfl⟩
  go_wp2_with fail
  refine CL.out.mono ?_
  rintro e w2 ⟨rfl, hb2⟩
  go_wp2_with fail
  go_ret
  exact ⟨rfl, HB.out.trans (hb2.mono HB.out.size)⟩
end Go.Proofs.Ytlbikfamjogpnaa
end

/- frame's Fits; Add, Get, Open and All where a life's frames stand one right behind the other. Conditions: an area and its disk lie in memory; the power is on, no cut waits. -/
section
namespace Go.Proofs.Ytlbikfamjogpnaa
open Go.RowKit
set_option linter.unusedVariables false
set_option linter.unusedSimpArgs false

/-- Have frames of so many bytes room? -/
def fitsL : Int → List Int → Bool
  | s, [] => decide (0 ≤ s)
  | s, n :: l => if fsize n = 0 ∨ s < fsize n then false else fitsL (s - fsize n) l
theorem wf_i64b {n : Int} (h : (Lit.int .i64 n).wf = true) : -9223372036854775808 ≤ n ∧ n ≤ 9223372036854775807 := by
  simp only [Lit.wf, Bool.and_eq_true, decide_eq_true_eq] at h
  have e1 : IntKind.i64.min = -9223372036854775808 := by decide
  have e2 : IntKind.i64.max = 9223372036854775807 := by decide
  omega
theorem fsize_lo (n : Int) : 0 ≤ fsize n ∧ fsize n ≤ 17 := by
  unfold fsize
  split
  · omega
  · split <;> omega
set_option maxRecDepth 100000 in
set_option maxHeartbeats 1000000 in
theorem fits_any {w : World} {A : Option Addr} {n c : Nat} {L : List Int} (s : Int) (h : Ints .i64 w A n c L) (hn : n ≤ 1000000) (h1 : -9223372036854775808 ≤ s) (h2 : s ≤ 9223372036854775807) :
    Calls Try.prog 20 #[.int .i64 s, .slice A n c] w fun e w' => e = .returned (.bool (fitsL s L)) ∧ w = w' := by
  obtain ⟨hv, hln, hwf⟩ := h
  have HV := Lib.hid hv
  have HLN := Lib.hid hln
  have HW := Lib.hid hwf
  have CZ := Lib.hid (fun V x h1 h2 => size_any V x h1 h2)
  clear hv hln hwf
  go_enter Try.func20, Try.ntmps20
  go_wp2_with fail
  go_loopg [0, 6, 7, 10] n (fun m sv _ _ iv wr => ∃ (j : Nat) (t : Int), j + m = n ∧ iv = .int .i64 (j : Int) ∧ sv = .int .i64 t ∧ -9223372036854775808 ≤ t ∧ t ≤ 9223372036854775807 ∧ wr = w ∧ Hid (fitsL s L = fitsL t (L.drop j)))
  case atStart => exact ⟨0, s, by omega, rfl, rfl, h1, h2, rfl, Lib.hid rfl⟩
  case round =>
    obtain ⟨j, t, hj, rfl, rfl, ht1, ht2, rfl, HF⟩ := hrel
    by_cases hlt : j < n
    · obtain ⟨ab, ao, u, rfl, hu, hcell⟩ := vals_at HV.out hlt
      have hcell := hcell wr (Below.refl _ _)
      rw [List.getElem?_map] at hu
      obtain ⟨z, hz, rfl⟩ := Option.map_eq_some_iff.1 hu
      have hw := wf_i64b (HW.out z (List.mem_of_getElem? hz))
      have hd : L.drop j = z :: L.drop (j + 1) := List.drop_eq_getElem?_toList_append.trans (by rw [hz]; rfl)
      have HF2 : Hid (fitsL s L = if fsize z = 0 ∨ t < fsize z then false else fitsL (t - fsize z) (L.drop (j + 1))) := Lib.hid (by rw [HF.out, hd, fitsL])
      have CZ0 := Lib.hid (CZ.out wr z hw.1 hw.2)
      have hsz := fsize_lo z
      obtain ⟨q, hq⟩ : ∃ q, q = fsize z := ⟨_, rfl⟩
      rw [← hq] at CZ0 HF2 hsz
      have HJ := Lib.hid hj
      clear hu hz hd HF hq hj
      by_cases hq0 : q = 0
      · subst hq0
        have HR : Hid (fitsL s L = false) := Lib.hid (by rw [HF2.out, if_pos (.inl rfl)])
        clear HF2
        go_wp2_with (go_at_call 17; refine CZ0.out.mono ?_; rintro e w' ⟨rfl, rfl⟩)
        go_ret
        exact ⟨(congrArg (fun x => Ending.returned (Value.bool x)) HR.out).symm, rfl⟩
      · have b0 : (q == 0) = false := by simpa using hq0
        by_cases hlt2 : t < q
        · have b1 : decide (t < q) = true := decide_eq_true hlt2
          have HR : Hid (fitsL s L = false) := Lib.hid (by rw [HF2.out, if_pos (.inr hlt2)])
          clear HF2
          go_wp2_with (go_at_call 17; refine CZ0.out.mono ?_; rintro e w' ⟨rfl, rfl⟩)
          go_ret
          exact ⟨(congrArg (fun x => Ending.returned (Value.bool x)) HR.out).symm, rfl⟩
        · have b1 : decide (t < q) = false := decide_eq_false hlt2
          have es : IntKind.i64.wrap (t - q) = t - q := IntWalk.i64_in _ (by omega)
          have HN2 := Lib.hid (show ¬ (q = 0 ∨ t < q) by omega)
          clear hq0 hlt2
          go_wp2_with (go_at_call 17; refine CZ0.out.mono ?_; rintro e w' ⟨rfl, rfl⟩)
          go_roundg (n - (j + 1))
          case measure => have := HJ.out; omega
          case rel =>
            have := HJ.out
            have := HN2.out
            exact ⟨j + 1, t - q, by omega, by go_num, rfl, by omega, by omega, rfl, Lib.hid (by rw [HF2.out, if_neg HN2.out])⟩
    · obtain rfl : j = n := by omega
      have e : L.drop j = [] := List.drop_of_length_le (by rw [HLN.out]; exact Nat.le_refl _)
      have HF2 : Hid (fitsL s L = decide (0 ≤ t)) := Lib.hid (by rw [HF.out, e, fitsL])
      clear HF e
      go_wp2
      go_ret
      exact ⟨(congrArg (fun x => Ending.returned (Value.bool x)) HF2.out).symm, rfl⟩

/-- An area in plain Lean over a disk that is on, its frames one right behind the other. -/
structure Plain (A : Ar) (d : Dk) (fs : List (UInt8 × List UInt8)) : Prop where
  chain : Chain d.S A.first A.sectors A.life fs
  ats : A.ats = offsL fs
  used : A.used = offs fs fs.length
  lives : A.lives = d.lives
  off : d.off = false
  cut : d.cut = 0
  life : A.life < 18446744073709551616
theorem offs_lt (fs : List (UInt8 × List UInt8)) {i j : Nat} (h : i < j) (hj : j ≤ fs.length) : offs fs i < offs fs j := by
  have h1 := offs_succ (List.getElem?_eq_getElem (show i < fs.length by omega))
  have h2 := offs_mono fs (i + 1) j h
  have := fsz_pos fs[i].2.length
  omega
theorem offs_ge (fs : List (UInt8 × List UInt8)) (i : Nat) (h : i ≤ fs.length) : i ≤ offs fs i := by
  induction i with
  | zero => exact Nat.zero_le _
  | succ i ih => have := offs_lt fs (i := i) (j := i + 1) (by omega) h; have := ih (by omega); omega
theorem offs_find (fs : List (UInt8 × List UInt8)) (i : Nat) (h : i < fs.length) : posN (offsL fs) (offs fs i : Nat) = i ∧ hasN (offsL fs) (offs fs i : Nat) = true := by
  have e : posN (offsL fs) (offs fs i : Nat) = i := by
    unfold posN
    rw [offsL_len]
    refine bs_first _ i fs.length (fun j hj => ?_) (fun j hj hjl => ?_) fs.length 0 fs.length (by omega) (by omega) (by omega) (Nat.le_refl _)
    · rw [offsL_at fs (by omega)]
      have := offs_lt fs hj (Nat.le_of_lt h)
      simp; omega
    · rw [offsL_at fs hjl]
      have := offs_mono fs i j hj
      simp; omega
  refine ⟨e, ?_⟩
  unfold hasN
  rw [e, offsL_len, offsL_at fs h]
  simp [h]
theorem Plain.mem {A : Ar} {d : Dk} {fs : List (UInt8 × List UInt8)} (h : Plain A d fs) : ∀ x ∈ A.ats, x < A.sectors := by
  intro x hx
  rw [h.ats] at hx
  obtain ⟨i, hi, rfl⟩ := List.mem_map.1 hx
  have hi := List.mem_range.1 hi
  have := offs_lt fs hi (Nat.le_refl _)
  have := h.chain.room
  omega
theorem Plain.le {A : Ar} {d : Dk} {fs : List (UInt8 × List UInt8)} (h : Plain A d fs) : A.used ≤ A.sectors ∧ A.ats.length ≤ A.used := by
  rw [h.used, h.ats, offsL_len]
  exact ⟨h.chain.room, offs_ge fs _ (Nat.le_refl _)⟩

section
variable {w : World} {B p b a : Nat} {A : Ar} {fs : List (UInt8 × List UInt8)}
/-- Add of a frame that has room. -/
theorem add_ok (d : Dk) (kind : UInt8) {Ab : Option Addr} {n c : Nat} {bs : List UInt8} (h : AreaAt w B p b A) (hd : DiskAt w b a d) (hp : Plain A d fs) (hb : Bts w Ab n c bs) (hn : n ≤ 1000) (hroom : A.used + fsz n ≤ A.sectors) :
    Calls Try.prog 18 #[.pointer (some ⟨p, 0, none⟩), .int .u8 (kind.toNat : Int), .slice Ab n c] w fun e w' => ∃ d', e = .returned (.tuple #[.int .i64 (A.used : Int), .int .i64 0]) ∧ AreaAt w' B p b { A with ats := A.ats ++ [A.used], used := A.used + fsz bs.length } ∧ DiskAt w' b a d' ∧
      Plain { A with ats := A.ats ++ [A.used], used := A.used + fsz bs.length } d' (fs ++ [(kind, bs)]) ∧ written d.S d'.S (A.first + A.used) (fsz bs.length) (fsz bs.length) (layB kind A.life A.ats.length bs (fsz bs.length - 1)) ∧ d'.lives = d.lives ∧ DKept (fun k => DS b a k ∨ AB w p k) w w' := by
  obtain ⟨hu, hats⟩ := hp.le
  have hln : bs.length = n := hb.2.2.2.2
  have hl := (disk_len hd).1
  have hfit := hp.chain.fit
  refine (add_any d kind h hd hfit hu hats hb (by omega)).mono ?_
  intro e w' hpost
  unfold AddPost at hpost
  rw [if_neg (by omega), if_neg (fun hh => hh hp.lives), if_neg (by rw [hln]; omega)] at hpost
  obtain ⟨hl2, r, hr, he, hd', ha', hk⟩ := hpost
  obtain ⟨⟨m, hm, hw, hmk⟩, hlv, hcase⟩ := wrun_shape (A.first + A.used) (layB kind A.life A.ats.length bs (fsz bs.length - 1)) d (fsz bs.length) hl2 hp.off (by rw [hln]; omega) (layB_rows _ _ _ _ _) (by rw [hp.cut]; exact Int.le_refl _) (fsz bs.length) (Nat.le_refl _)
  rw [← hr] at hw hmk hlv hcase
  rcases hcase with ⟨h0, hoff, _, hcut⟩ | ⟨_, _, hx, _⟩
  · obtain rfl := hmk h0
    rw [if_pos h0] at ha'
    refine ⟨r.1, by rw [he, if_pos h0, h0], ha', hd', ⟨?_, ?_, ?_, ?_, hoff, ?_, hp.life⟩, hw, hlv, hk⟩
    · refine hp.chain.more (by omega) hp.life (by have := hats; rw [hp.ats, offsL_len] at this; omega) (by rw [← hp.used, hln]; exact hroom) ?_
      have hw2 := hw
      rw [hp.used, hp.ats, offsL_len] at hw2
      exact hw2
    · show A.ats ++ [A.used] = _
      rw [offsL_more, hp.ats, hp.used]
    · show A.used + _ = _
      rw [offs_more, hp.used]
    · show A.lives = _
      rw [hlv, hp.lives]
    · rcases hcut with ⟨_, e2⟩ | ⟨e1, _⟩
      · exact e2
      · rw [hp.cut] at e1; omega
  · rw [hp.cut] at hx; omega
/-- Get of a frame that stands. -/
theorem get_ok (d : Dk) (i : Nat) {kind : UInt8} {bs : List UInt8} (h : AreaAt w B p b A) (hd : DiskAt w b a d) (hp : Plain A d fs) (hi : fs[i]? = some (kind, bs)) :
    Calls Try.prog 23 #[.pointer (some ⟨p, 0, none⟩), .int .i64 (offs fs i : Nat)] w fun e w' => ∃ g c, e = .returned (.tuple #[.int .u8 (kind.toNat : Int), .slice (some ⟨g, 0, none⟩) bs.length c, .int .i64 0]) ∧ w.heap.size ≤ g ∧ Bts w' (some ⟨g, 0, none⟩) bs.length c bs ∧ Below w.heap.size w w' := by
  have hil := (List.getElem?_eq_some_iff.1 hi).1
  obtain ⟨h1, h2⟩ := offs_find fs i hil
  obtain ⟨hu, hats⟩ := hp.le
  have hl := (disk_len hd).1
  have hfit := hp.chain.fit
  refine (get_any d _ h hd hfit hp.mem (by omega)).mono ?_
  intro e w' ⟨hb, hg⟩
  rw [hp.ats, if_neg (by rw [h2]; decide), if_neg (by rintro (e | e); exact e hp.lives; rw [hp.off] at e; cases e), h1] at hg
  have hf := hp.chain.there i kind bs hi
  rw [show ((offs fs i : Nat) : Int).toNat = offs fs i from rfl, hf] at hg
  unfold Gets at hg
  simp only [and_self, if_true] at hg
  obtain ⟨g, c, he, hg1, hg2⟩ := hg
  exact ⟨g, c, he, hg1, hg2, hb⟩
/-- Open where frames stand. -/
theorem open_ok (d : Dk) (first sectors life : Nat) (hd : DiskAt w b a d) (h1 : 1 ≤ sectors) (hc : Chain d.S first sectors life fs) (hoff : d.off = false) (hcut : d.cut = 0) (hlife : life < 18446744073709551616)
    (hend : ∀ f, frameAt d.S first sectors (offs fs fs.length) = some f → f.n ≠ fs.length ∨ (0 < fs.length ∧ f.life ≠ life)) :
    Calls Try.prog 15 #[.pointer (some ⟨b, 0, none⟩), .int .i64 (first : Int), .int .i64 (sectors : Int)] w fun e w' => ∃ p A, e = .returned (.tuple #[.pointer (some ⟨p, 0, none⟩), .int .i64 0]) ∧ AreaAt w' w.heap.size p b A ∧
      A = ⟨d.lives, first, sectors, if fs.length = 0 then 0 else life, offsL fs, offs fs fs.length⟩ ∧ Plain A d fs ∧ Below w.heap.size w w' := by
  refine (open_any d first sectors hd h1 hc.fit hoff).mono ?_
  rintro e w' ⟨p, he, ha, hb⟩
  rw [scan_chain hc d.lives hend] at ha
  refine ⟨p, _, he, ha, rfl, ⟨?_, rfl, rfl, rfl, hoff, hcut, ?_⟩, hb⟩
  · refine ⟨hc.len, hc.fit, hc.room, fun i k x hx => ?_⟩
    have := (List.getElem?_eq_some_iff.1 hx).1
    show frameAt _ _ _ _ = some ⟨k, if fs.length = 0 then 0 else life, i, x⟩
    rw [if_neg (by omega)]
    exact hc.there i k x hx
  · show (if fs.length = 0 then 0 else life) < _
    split <;> omega
theorem AB_ge (h : AreaAt w B p b A) : ∀ k, AB w p k → B ≤ k := by
  obtain ⟨h0, At, c, hk, ho⟩ := h
  rintro k (rfl | ⟨n, c', e⟩)
  · exact h0
  · obtain ⟨-, -, -, -, -, c5, -⟩ := area_cells hk
    rw [c5] at e
    injection e with e
    injection e with e
    subst e
    exact (ho.lt k rfl).1
/-- What an area and its disk write is theirs. -/
theorem kept_low {w0 w' : World} (hB : Below w0.heap.size w0 w) (h : AreaAt w B p b A) (hp : w0.heap.size ≤ B) (hb : w0.heap.size ≤ b) (ha : w0.heap.size ≤ a) (hk : DKept (fun k => DS b a k ∨ AB w p k) w w') : Below w0.heap.size w0 w' :=
  DKept.low hB (Nat.le_refl _) (by
    rintro i ((rfl | rfl) | hi)
    · exact hb
    · exact ha
    · exact Nat.le_trans hp (AB_ge h i hi)) hk
end
end Go.Proofs.Ytlbikfamjogpnaa
end

/- The reference's area in memory; Used. Conditions: the area lies in memory as RAreaAt says. -/
section
namespace Go.Proofs.Ytlbikfamjogpnaa
open Go.RowKit
set_option linter.unusedVariables false
set_option linter.unusedSimpArgs false

/-- The cells of the reference's list of frames. -/
def recF : Nat → List (UInt8 × List UInt8) → List Value
  | _, [] => []
  | o, (k, b) :: l => .int .i64 (o : Int) :: .int .u8 (k.toNat : Int) :: str b :: recF (o + fsz b.length) l
theorem offs_cons (x : UInt8 × List UInt8) (l : List (UInt8 × List UInt8)) (i : Nat) : offs (x :: l) (i + 1) = fsz x.2.length + offs l i := by
  unfold offs
  rw [List.take_succ_cons, List.map_cons, List.sum_cons]
theorem recF_len (fs : List (UInt8 × List UInt8)) : ∀ o, (recF o fs).length = fs.length * 3 := by
  induction fs with
  | nil => intro o; rfl
  | cons x l ih => intro o; obtain ⟨k, b⟩ := x; simp only [recF, List.length_cons, ih]; omega
theorem recF_at (fs : List (UInt8 × List UInt8)) : ∀ (o i : Nat) (k : UInt8) (b : List UInt8), fs[i]? = some (k, b) →
    (recF o fs)[i * 3]? = some (.int .i64 ((o + offs fs i : Nat) : Int)) ∧ (recF o fs)[i * 3 + 1]? = some (.int .u8 (k.toNat : Int)) ∧ (recF o fs)[i * 3 + 2]? = some (str b) := by
  induction fs with
  | nil => intro o i k b h; simp at h
  | cons x l ih =>
    intro o i k b h
    obtain ⟨k0, b0⟩ := x
    cases i with
    | zero =>
      obtain ⟨rfl, rfl⟩ : k0 = k ∧ b0 = b := by simpa using h
      exact ⟨rfl, rfl, rfl⟩
    | succ i =>
      rw [List.getElem?_cons_succ] at h
      obtain ⟨h1, h2, h3⟩ := ih (o + fsz b0.length) i k b h
      rw [offs_cons, show (i + 1) * 3 = (i * 3) + 1 + 1 + 1 by omega, recF, ← Nat.add_assoc]
      exact ⟨h1, h2, h3⟩
theorem recF_app (fs : List (UInt8 × List UInt8)) (k : UInt8) (b : List UInt8) : ∀ o, recF o (fs ++ [(k, b)]) = recF o fs ++ [.int .i64 ((o + offs fs fs.length : Nat) : Int), .int .u8 (k.toNat : Int), str b] := by
  induction fs with
  | nil => intro o; rfl
  | cons x l ih =>
    intro o
    obtain ⟨k0, b0⟩ := x
    rw [List.cons_append, recF, recF, ih, List.length_cons, offs_cons, ← Nat.add_assoc]
    rfl

/-- No payload is longer than it may be. -/
def Short (fs : List (UInt8 × List UInt8)) : Prop := ∀ (i : Nat) (k : UInt8) (b : List UInt8), fs[i]? = some (k, b) → b.length ≤ 1000
/-- Where the reference's area lies. -/
def RAreaAt (w : World) (B q rb : Nat) (A : Ar) (fs : List (UInt8 × List UInt8)) : Prop :=
  B ≤ q ∧ ∃ Lt c, Blk w q 55 #[.pointer (some ⟨rb, 0, none⟩), .int .i64 A.first, .int .i64 A.sectors, .int .u64 A.life, .slice Lt fs.length c, .int .i64 A.lives] ∧
    w.ownsRow B 112 3 (.slice Lt fs.length c) fs.length (recF 0 fs)
theorem rarea_cells {w : World} {p : Nat} {t : TypeId} {v0 v1 v2 v3 v4 v5 : Value} (h : Blk w p t #[v0, v1, v2, v3, v4, v5]) :
    w.cell? ⟨p, 0, none⟩ = some v0 ∧ w.cell? ⟨p, 1, none⟩ = some v1 ∧ w.cell? ⟨p, 2, none⟩ = some v2 ∧ w.cell? ⟨p, 3, none⟩ = some v3 ∧ w.cell? ⟨p, 4, none⟩ = some v4 ∧ w.cell? ⟨p, 5, none⟩ = some v5 :=
  ⟨(h.cell 0).trans rfl, (h.cell 1).trans rfl, (h.cell 2).trans rfl, (h.cell 3).trans rfl, (h.cell 4).trans rfl, (h.cell 5).trans rfl⟩
theorem RAreaAt.below {w w' : World} {B q rb : Nat} {A : Ar} {fs : List (UInt8 × List UInt8)} (h : RAreaAt w B q rb A fs) (hb : Below w.heap.size w w') : RAreaAt w' B q rb A fs := by
  obtain ⟨h0, Lt, c, hk, ho⟩ := h
  exact ⟨h0, Lt, c, hk.below hb hk.lt, own_keep ho fun g hg => hb.block g (ho.lt g hg).2⟩
theorem rec_at {w : World} {B n c i : Nat} {A : Option Addr} {fs : List (UInt8 × List UInt8)} {k : UInt8} {b : List UInt8} (h : w.ownsRow B 112 3 (.slice A n c) n (recF 0 fs)) (hi : fs[i]? = some (k, b)) :
    ∃ g, A = some ⟨g, 0, none⟩ ∧ ∀ w', Below w.heap.size w w' → w'.cell? ⟨g, i * 3, none⟩ = some (.int .i64 (offs fs i : Nat)) ∧ w'.cell? ⟨g, i * 3 + 1, none⟩ = some (.int .u8 (k.toNat : Int)) ∧ w'.cell? ⟨g, i * 3 + 2, none⟩ = some (.string ⟨b.toArray⟩) := by
  have hl := h.1
  rw [recF_len] at hl
  have hlt := (List.getElem?_eq_some_iff.1 hi).1
  obtain ⟨h1, h2, h3⟩ := recF_at fs 0 i k b hi
  rcases h.2 with ⟨e, hn⟩ | ⟨g, cap, cur, e, hg, hh, hnc, r⟩
  · omega
  · injection e with e1 e2 e3
    subst e1
    refine ⟨g, rfl, fun w' hb => ?_⟩
    have hc := h.cells (g := g) rfl
    have k1 := hc _ _ h1
    have k2 := hc _ _ h2
    have k3 := hc _ _ h3
    rw [add_zero_off] at k1 k2 k3
    rw [Nat.zero_add] at k1
    exact ⟨(hb.cell (p := ⟨g, i * 3, none⟩) (World.block_lt_of_cell? _ _ k1)).trans k1, (hb.cell (p := ⟨g, i * 3 + 1, none⟩) (World.block_lt_of_cell? _ _ k2)).trans k2, (hb.cell (p := ⟨g, i * 3 + 2, none⟩) (World.block_lt_of_cell? _ _ k3)).trans k3⟩

section
variable {w : World} {B q rb : Nat} {A : Ar} {fs : List (UInt8 × List UInt8)}
set_option maxRecDepth 100000 in
set_option maxHeartbeats 1000000 in
theorem used_any (h : RAreaAt w B q rb A fs) (hs : Short fs) (hn : offs fs fs.length ≤ 100000) : Calls Try.prog 66 #[.pointer (some ⟨q, 0, none⟩)] w fun e w' => e = .returned (.int .i64 (offs fs fs.length : Nat)) ∧ w = w' := by
  obtain ⟨h0, Lt, c, hk, ho⟩ := h
  obtain ⟨c0, c1, c2, c3, c4, c5⟩ := rarea_cells hk
  have HO := Lib.hid ho
  have HN := Lib.hid hn
  have HS := Lib.hid hs
  have hge : fs.length ≤ 100000 := Nat.le_trans (offs_ge fs fs.length (Nat.le_refl _)) hn
  have CZ := Lib.hid (fun V x h1 h2 => rsize_any V x h1 h2)
  obtain ⟨n, hn'⟩ : ∃ n, n = fs.length := ⟨_, rfl⟩
  rw [← hn'] at c4 hge HO
  have HNL := Lib.hid hn'
  have HGE := Lib.hid hge
  clear hk ho hn hs hn' hge
  go_enter Try.func66, Try.ntmps66
  go_wp2_with fail
  go_loopg [3, 4] n (fun m v i wr => ∃ k : Nat, k + m = n ∧ i = .int .i64 (k : Int) ∧ v = .int .i64 (offs fs k : Nat) ∧ wr = w)
  case atStart => exact ⟨0, by omega, rfl, rfl, rfl⟩
  case round =>
    obtain ⟨k, hk, rfl, rfl, rfl⟩ := hrel
    have HK := Lib.hid hk
    have := HGE.out
    by_cases hlt : k < n
    · obtain ⟨⟨kd, b⟩, hx⟩ : ∃ x, fs[k]? = some x := ⟨_, List.getElem?_eq_getElem (by rw [← HNL.out]; exact hlt)⟩
      obtain ⟨g, rfl, hcell⟩ := rec_at HO.out hx
      obtain ⟨-, -, hc2⟩ := hcell wr (Below.refl _ _)
      have hbl := HS.out k kd b hx
      have CZ0 : Hid (Calls Try.prog 65 #[.int .i64 (b.length : Int)] wr fun e w' => e = .returned (.int .i64 (fsz b.length : Nat)) ∧ wr = w') := Lib.hid (by rw [← fsize_nat hbl]; exact CZ.out wr _ (by omega) (by omega))
      have hsz : (⟨b.toArray⟩ : ByteArray).size = b.length := rfl
      have hoff := offs_succ hx
      have hmx := offs_mono fs (k + 1) fs.length (by rw [← HNL.out]; omega)
      have := HN.out
      have es : IntKind.i64.wrap ((offs fs k : Nat) + (fsz b.length : Nat) : Int) = ((offs fs (k + 1) : Nat) : Int) := by
        rw [hoff]
        exact (IntWalk.i64_in _ (by simp only at hoff; omega)).trans (by simp)
      clear hcell hx hoff hmx hk
      go_wp2_with fail
      refine CZ0.out.mono ?_
      rintro e w' ⟨rfl, rfl⟩
      go_wp2_with fail
      go_roundg (n - (k + 1))
      case measure => have := HK.out; omega
      case rel => have := HK.out; exact ⟨k + 1, by omega, by go_num, rfl, rfl⟩
    · obtain rfl : k = n := by omega
      go_wp2
      go_ret
      exact ⟨by rw [HNL.out]; rfl, rfl⟩
end
end Go.Proofs.Ytlbikfamjogpnaa
end

/- The reference's read of a frame. Conditions: an area and its disk lie in memory; the area lies on the disk, whose sectors have 64 bytes. -/
section
namespace Go.Proofs.Ytlbikfamjogpnaa
open Go.RowKit
set_option linter.unusedVariables false
set_option linter.unusedSimpArgs false

theorem results_cttt {P : Program} {fn : Func} {p u v z : Tmp} {ty : TypeId} (h : fn.results = #[.cell p ty, .tmp u, .tmp v, .tmp z]) (tmps : Array Value) (w : World) (g : Nat) (t : TypeId) (cs : Array Value) (fr : Nat × Nat) (d : TypeDesc)
    (hp : tmps.getD p undef = .pointer (some ⟨g, 0, none⟩)) (hg : w.heap[g]? = some (.cells cs t fr))
    (hu : P.underlying ty = some d) (hd : (match d with | .struct _ | .array _ _ => true | _ => false) = true) (hi : (P.info? ty).map (·.size) = some cs.size) :
    (results fn tmps).run P w = .ok (.tuple #[.agg cs, tmps.getD u undef, tmps.getD v undef, tmps.getD z undef]) w := by
  have hp' : tmps[p]?.getD undef = .pointer (some ⟨g, 0, none⟩) := by simpa using hp
  simp [results, h, hp', asAddr, run_loadVar_row w g t ty cs fr d hg hu hd hi]

/-- What the reference's read answers. -/
def rstand (k : Nat) : Option Fr → Value
  | none => .tuple #[.agg #[.int .i64 0, .int .u8 0, .string ⟨#[]⟩], .int .u64 0, .int .u64 0, .bool false]
  | some x => .tuple #[.agg #[.int .i64 (k : Int), .int .u8 (x.kind.toNat : Int), .string ⟨x.b.toArray⟩], .int .u64 (x.life : Int), .int .u64 (x.n : Int), .bool true]
def RRead (w : World) (k : Nat) (f : Option Fr) (e : Ending) (w' : World) : Prop := e = .returned (rstand k f) ∧ Below w.heap.size w w'

theorem leB_up {l : List UInt8} (h : l.length = 4) : leB (upB l) 4 = l := by
  match l, h with
  | [a, b, c, d], _ =>
    have ha := a.toNat_lt
    have hb := b.toNat_lt
    have hc := c.toNat_lt
    have hd := d.toNat_lt
    have e : upB [a, b, c, d] = a.toNat + 256 * (b.toNat + 256 * (c.toNat + 256 * d.toNat)) := by simp [upB]
    rw [e]
    have ofn : ∀ (x : UInt8) (m : Nat), m = x.toNat → UInt8.ofNat m = x := fun x m h => by rw [h]; exact UInt8.ofNat_toNat
    show [] ++ [_] ++ [_] ++ [_] ++ [_] = _
    rw [ofn a _ (by show _ / 2 ^ 0 % 256 = _; omega), ofn b _ (by show _ / 2 ^ 8 % 256 = _; omega), ofn c _ (by show _ / 2 ^ 16 % 256 = _; omega), ofn d _ (by show _ / 2 ^ 24 % 256 = _; omega)]
    rfl
theorem leB_iff {l : List UInt8} (h : l.length = 4) {v : Nat} (hv : v < 4294967296) : leB v 4 = l ↔ v = upB l := by
  constructor
  · intro e
    rw [← e, upB_leB]
    exact (Nat.mod_eq_of_lt hv).symm
  · intro e
    rw [e]
    exact leB_up h
theorem fr_none {w W : World} (hb : Below w.heap.size w W) (hk : Blk W w.heap.size 112 #[.int .i64 0, .int .u8 0, .string ⟨#[]⟩]) :
    Blk (((W.setCell ⟨w.heap.size, 0, none⟩ (.int .i64 0)).setCell ⟨w.heap.size, 1, none⟩ (.int .u8 0)).setCell ⟨w.heap.size, 2, none⟩ (.string ⟨#[]⟩)) w.heap.size 112 #[.int .i64 0, .int .u8 0, .string ⟨#[]⟩] ∧
    Below w.heap.size w (((W.setCell ⟨w.heap.size, 0, none⟩ (.int .i64 0)).setCell ⟨w.heap.size, 1, none⟩ (.int .u8 0)).setCell ⟨w.heap.size, 2, none⟩ (.string ⟨#[]⟩)) :=
  ⟨((hk.set_ 0 (.int .i64 0)).set_ 1 (.int .u8 0)).set_ 2 (.string ⟨#[]⟩), ((hb.setCell (p := ⟨w.heap.size, 0, none⟩) (Nat.le_refl _) _).setCell (p := ⟨w.heap.size, 1, none⟩) (Nat.le_refl _) _).setCell (p := ⟨w.heap.size, 2, none⟩) (Nat.le_refl _) _⟩
section
variable {w : World} {B q rb ra : Nat} {A : Ar} {fs : List (UInt8 × List UInt8)}
set_option maxRecDepth 100000 in
set_option maxHeartbeats 4000000 in
theorem rread_any (d : Dk) (k : Nat) (h : RAreaAt w B q rb A fs) (hd : RDiskAt w rb ra d) (hfit : A.first + A.sectors ≤ d.S.length) (h64 : ∀ s ∈ d.S, s.length = 64) (hkk : k ≤ 100000) :
    Calls Try.prog 64 #[.pointer (some ⟨q, 0, none⟩), .int .i64 (k : Int)] w (RRead w k (frameAt d.S A.first A.sectors k)) := by
  obtain ⟨h0, Lt, cl, hk, ho⟩ := h
  have hlt := hk.lt
  have hd' := hd
  obtain ⟨cd, arr, how, hb, -, ha, hac, hdc, hcm, h1, h4096, -, -, harr⟩ := hd
  have HLT : Hid (q < w.heap.size ∧ rb < w.heap.size ∧ ra < w.heap.size) := Lib.hid ⟨hlt, hb.lt, ha.lt⟩
  have HK := Lib.hid hk
  have HB := Lib.hid hb
  have HA := Lib.hid ha
  have HARR := Lib.hid harr
  have H64 := Lib.hid h64
  have FACT : Hid (∀ V, Later w V → V.cell? ⟨q, 0, none⟩ = some (.pointer (some ⟨rb, 0, none⟩)) ∧ V.cell? ⟨q, 1, none⟩ = some (.int .i64 A.first) ∧ V.cell? ⟨q, 2, none⟩ = some (.int .i64 A.sectors) ∧ V.cell? ⟨rb, 0, none⟩ = some (.slice (some ⟨ra, 0, none⟩) d.S.length cd) ∧
      ∀ (i : Nat) (s : List UInt8), d.S[i]? = some s → V.cell? ⟨ra, i, none⟩ = some (.string ⟨s.toArray⟩)) := Lib.hid fun V hV => by
    obtain ⟨c0, c1, c2, -, -, -⟩ := rarea_cells (HK.out.below hV HK.out.lt)
    obtain ⟨e0, -, -, -, -, -⟩ := rdisk_cells (HB.out.below hV HB.out.lt)
    refine ⟨c0, c1, c2, e0, fun i s hs => ?_⟩
    have := (HA.out.below hV HA.out.lt).cell i
    rw [this]
    exact HARR.out i s hs
  have CZ := Lib.hid (fun V x h1 h2 => rsize_any V x h1 h2)
  clear hk ho hlt hb ha harr h64 hac hcm hd'
  obtain ⟨c0, c1, c2, e0, carr⟩ := FACT.out (w.alloc (.cells #[.int .i64 0, .int .u8 0, .string ⟨#[]⟩] 112)) ((Later.refl w).alloc _)
  have hk4 := Blk.new w 112 #[.int .i64 0, .int .u8 0, .string ⟨#[]⟩]
  have HK4 := Lib.hid hk4
  have z0 : (w.alloc (.cells #[.int .i64 0, .int .u8 0, .string ⟨#[]⟩] 112)).cell? ⟨w.heap.size, 0, none⟩ = some (.int .i64 0) := (hk4.cell 0).trans rfl
  have z1 : (w.alloc (.cells #[.int .i64 0, .int .u8 0, .string ⟨#[]⟩] 112)).cell? ⟨w.heap.size, 1, none⟩ = some (.int .u8 0) := (hk4.cell 1).trans rfl
  have z2 : (w.alloc (.cells #[.int .i64 0, .int .u8 0, .string ⟨#[]⟩] 112)).cell? ⟨w.heap.size, 2, none⟩ = some (.string ⟨#[]⟩) := (hk4.cell 2).trans rfl
  clear hk4 carr
  by_cases hks : A.sectors ≤ k
  · have hf : frameAt d.S A.first A.sectors k = none := by unfold frameAt; simp only []; rw [if_pos hks]
    rw [hf]
    have g0 : decide (A.sectors ≤ k) = true := decide_eq_true hks
    clear hf
    go_enter Try.func64, Try.ntmps64
    go_wp2_with fail
    exact bodyPost_ret_by (results_cttt rfl _ _ w.heap.size 112 #[.int .i64 0, .int .u8 0, .string ⟨#[]⟩] (0, 0) _ rfl HK4.out Try.underlying112 rfl (by kernel_rfl)) rfl ⟨rfl, (Below.refl _ _).alloc (Nat.le_refl _) _⟩
  · have g0 : decide (A.sectors ≤ k) = false := decide_eq_false hks
    obtain ⟨s, hs⟩ : ∃ s, d.S[A.first + k]? = some s := ⟨_, List.getElem?_eq_getElem (by omega)⟩
    have hl : s.length = 64 := H64.out s (List.mem_of_getElem? hs)
    have HS := Lib.hid hs
    have HL := Lib.hid hl
    have cs : (w.alloc (.cells #[.int .i64 0, .int .u8 0, .string ⟨#[]⟩] 112)).cell? ⟨ra, A.first + k, none⟩ = some (.string ⟨s.toArray⟩) := (FACT.out _ ((Later.refl w).alloc _)).2.2.2.2 _ s hs
    have i0 : (0 : Int) ≤ ((A.first + k : Nat) : Int) := by omega
    have i1 : ((A.first + k : Nat) : Int) < (d.S.length : Int) := by omega
    have e1 : IntKind.i64.wrap ((A.first : Int) + (k : Int)) = ((A.first + k : Nat) : Int) := (IntWalk.i64_in _ (by omega)).trans (by simp)
    clear hs hl
    go_enter Try.func64, Try.ntmps64
    go_wp2_with fail
    go_quiet (fail)
    generalize hW : World.drewN (World.alloc w _) _ = W
    have HLW : Hid (Later w W) := Lib.hid (by rw [← hW]; exact below_drewN ((Later.refl w).alloc _) _)
    have HKW : Hid (Blk W w.heap.size 112 #[.int .i64 0, .int .u8 0, .string ⟨#[]⟩]) := Lib.hid (by rw [← hW]; exact HK4.out)
    clear hW HK4 z0 z1 z2 c0 c1 c2 e0 cs i0 i1 e1
    have sl1 : (Instr.slice 9 (.string ⟨s.toArray⟩) (some (.int .i64 14)) (some (.int .i64 16)) none).run Try.prog W = .ok (.string ⟨((s.drop 14).take 2).toArray⟩) W := str_slice W s 14 16 (by omega) (by rw [HL.out]; omega)
    have hu2 := upB_two s
    have CU := Lib.hid (up_any W ((s.drop 14).take 2) (by rw [List.length_take]; omega))
    obtain ⟨n, hn⟩ : ∃ n, n = upB ((s.drop 14).take 2) := ⟨_, rfl⟩
    rw [← hn] at hu2 CU
    have HN := Lib.hid hn
    have ew : IntKind.i64.wrap (n : Int) = (n : Int) := IntWalk.i64_in _ (by omega)
    clear hn
    go_wp2_with fail
    refine CU.out.mono ?_
    rintro e w' ⟨rfl, rfl⟩
    clear sl1 CU ew
    obtain ⟨x0, hx0⟩ : ∃ x0, s[0]? = some x0 := ⟨_, List.getElem?_eq_getElem (by rw [HL.out]; omega)⟩
    have hhd : s.headD 0 = x0 := by
      cases s with
      | nil => simp at hx0
      | cons y l => simpa using hx0
    have HHD := Lib.hid hhd
    have si0 : ∀ V, (Instr.index 9 (.string ⟨s.toArray⟩) (.int .i64 0)).run Try.prog V = .ok (.int .u8 (x0.toNat : Int)) V := fun V => str_index V s 0 x0 hx0
    obtain ⟨c0, c1, c2, e0, -⟩ := FACT.out W HLW.out
    have x256 := x0.toNat_lt
    clear hx0 hhd c1 e0 g0
    have es : IntKind.i64.wrap ((A.sectors : Int) - (k : Int)) = (A.sectors : Int) - (k : Int) := IntWalk.i64_in _ (by omega)
    by_cases hno : x0 ≠ 72 ∨ 1000 < n ∨ A.sectors - k < fsz n
    · have hf : frameAt d.S A.first A.sectors k = none := frameAt_none HS.out (by rw [HHD.out, ← HN.out]; exact hno)
      have HF := Lib.hid hf
      clear hf
      obtain ⟨z0, z1, z2⟩ : W.cell? ⟨w.heap.size, 0, none⟩ = some (.int .i64 0) ∧ W.cell? ⟨w.heap.size, 1, none⟩ = some (.int .u8 0) ∧ W.cell? ⟨w.heap.size, 2, none⟩ = some (.string ⟨#[]⟩) := ⟨(HKW.out.cell 0).trans rfl, (HKW.out.cell 1).trans rfl, (HKW.out.cell 2).trans rfl⟩
      have f0 := HKW.out.frozen 0
      have f1 := HKW.out.frozen 1
      have f2 := HKW.out.frozen 2
      by_cases a1 : x0 = 72
      · have b1 : ((x0.toNat : Int) != 72) = false := by rw [a1]; rfl
        by_cases a2 : 1000 < n
        · have b2 : decide (1000 < n) = true := decide_eq_true a2
          have b2' : decide ((1000 : Int) < (n : Int)) = true := decide_eq_true (by omega)
          generalize ((x0.toNat : Int)) = hx0 at *
          clear a1 hno
          go_wp2_with fail
          go_quiet (fail)
          go_wp2_with fail
          have hz := fr_none (w := w) (W := W) (show Below _ _ _ from HLW.out) HKW.out
          exact bodyPost_ret_by (results_cttt rfl _ _ w.heap.size 112 #[.int .i64 0, .int .u8 0, .string ⟨#[]⟩] (0, 0) _ rfl hz.1 Try.underlying112 rfl (by kernel_rfl)) rfl ⟨by rw [HF.out]; rfl, below_drewN hz.2 _⟩
        · have b2 : decide (1000 < n) = false := decide_eq_false a2
          have b2' : decide ((1000 : Int) < (n : Int)) = false := decide_eq_false (by omega)
          have b3 : decide ((A.sectors : Int) - (k : Int) < (fsz n : Int)) = true := decide_eq_true (by
            rcases hno with h | h | h
            · exact absurd a1 h
            · exact absurd h a2
            · omega)
          have CZ5 : Hid (∀ m, Calls Try.prog 65 #[.int .i64 (n : Int)] (W.drewN m) fun e w' => e = .returned (.int .i64 (fsz n : Nat)) ∧ W.drewN m = w') := Lib.hid (fun m => by rw [← fsize_nat (show n ≤ 1000 by omega)]; exact CZ.out _ _ (by omega) (by omega))
          generalize fsz n = fz at *
          generalize ((x0.toNat : Int)) = hx0 at *
          clear a1 hno
          go_wp2_with fail
          go_quiet ((go_at_call 65; exact (CZ5.out _).mono (fun _ _ ⟨he, hm⟩ => ⟨he, _, hm.symm⟩)))
          go_wp2_with fail
          have hz := fr_none (w := w) (W := W) (show Below _ _ _ from HLW.out) HKW.out
          exact bodyPost_ret_by (results_cttt rfl _ _ w.heap.size 112 #[.int .i64 0, .int .u8 0, .string ⟨#[]⟩] (0, 0) _ rfl hz.1 Try.underlying112 rfl (by kernel_rfl)) rfl ⟨by rw [HF.out]; rfl, below_drewN hz.2 _⟩
      · have b1 : ((x0.toNat : Int) != 72) = true := by
          rw [bne_iff_ne]
          intro e
          exact a1 (UInt8.toNat_inj.1 (by have : x0.toNat = 72 := by omega
                                          rw [this]; rfl))
        generalize ((x0.toNat : Int)) = hx0 at *
        clear a1 hno
        go_wp2_with fail
        go_quiet (fail)
        go_wp2_with fail
        have hz := fr_none (w := w) (W := W) (show Below _ _ _ from HLW.out) HKW.out
        exact bodyPost_ret_by (results_cttt rfl _ _ w.heap.size 112 #[.int .i64 0, .int .u8 0, .string ⟨#[]⟩] (0, 0) _ rfl hz.1 Try.underlying112 rfl (by kernel_rfl)) rfl ⟨by rw [HF.out]; rfl, below_drewN hz.2 _⟩
    · have a1 : x0 = 72 := Classical.byContradiction fun h => hno (.inl h)
      have hn1 : n ≤ 1000 := by omega
      have hroom : fsz n ≤ A.sectors - k := by omega
      have hfr : frameAt d.S A.first A.sectors k = standing d.S s (A.first + k) := frameAt_eq (by omega) HS.out (by rw [HHD.out]; exact a1) (by rw [← HN.out]; exact hn1) (by rw [← HN.out]; exact hroom)
      have HFR := Lib.hid hfr
      have b1 : ((x0.toNat : Int) != 72) = false := by rw [a1]; rfl
      have b2 : decide (1000 < n) = false := decide_eq_false (by omega)
      have b2' : decide ((1000 : Int) < (n : Int)) = false := decide_eq_false (by omega)
      have b3 : decide ((A.sectors : Int) - (k : Int) < (fsz n : Int)) = false := decide_eq_false (by omega)
      have CZ4 : Hid (∀ V, Calls Try.prog 65 #[.int .i64 (n : Int)] V fun e w' => e = .returned (.int .i64 (fsz n : Nat)) ∧ V = w') := Lib.hid (fun V => by rw [← fsize_nat (show n ≤ 1000 by omega)]; exact CZ.out _ _ (by omega) (by omega))
      have hfp := fsz_pos n
      have hf17 := fsz_le hn1
      have hfzr := @fsz_room n
      obtain ⟨fz, hfz⟩ : ∃ fz, fz = fsz n := ⟨_, rfl⟩
      rw [← hfz] at hroom b3 CZ4 hfp hf17 hfzr
      have HFZ := Lib.hid hfz
      have HX72 := Lib.hid a1
      clear hfr hno hfz a1
      generalize ((x0.toNat : Int)) = hx0 at *
      have sl3 : ∀ V, (Instr.slice 9 (.string ⟨s.toArray⟩) (some (.int .i64 20)) none none).run Try.prog V = .ok (.string ⟨(s.drop 20).toArray⟩) V := fun V => str_from V s 20 (by rw [HL.out]; omega)
      have CZ5 : Hid (∀ m, Calls Try.prog 65 #[.int .i64 (n : Int)] (W.drewN m) fun e w' => e = .returned (.int .i64 (fz : Nat)) ∧ W.drewN m = w') := Lib.hid (fun m => CZ4.out _)
      go_wp2_with fail
      go_quiet ((go_at_call 65; exact (CZ5.out _).mono (fun _ _ ⟨he, hm⟩ => ⟨he, _, hm.symm⟩)))
      go_wp2_with fail
      generalize hW5 : World.drewN W _ = W5
      have HL5 : Hid (Later w W5) := Lib.hid (by rw [← hW5]; exact below_drewN HLW.out _)
      have HK5 : Hid (Blk W5 w.heap.size 112 #[.int .i64 0, .int .u8 0, .string ⟨#[]⟩]) := Lib.hid (by rw [← hW5]; exact HKW.out)
      clear hW5 sl3 si0 c0 c2 b1 b2 b2' b3 CZ5
      go_loopg [10, 11, 12] (fz - 1) (fun m bv kv _ wr => ∃ (j : Nat) (r : List UInt8), j + m = fz ∧ 1 ≤ j ∧ kv = .int .i64 (j : Int) ∧ bv = .string ⟨(s.drop 20 ++ r).toArray⟩ ∧ Hid (r.length = 63 * (j - 1)) ∧ Hid (Later W5 wr) ∧
        Hid (rest d.S (A.first + k + 1) (fz - 1) = (rest d.S (A.first + k + j) (fz - j)).map (r ++ ·)))
      case atStart => exact ⟨1, [], by omega, by omega, rfl, by rw [List.append_nil], Lib.hid rfl, Lib.hid (Later.refl _), Lib.hid (by simp)⟩
      case round =>
        obtain ⟨j, r, hj, hj1, rfl, rfl, HRL, HLR, HR⟩ := hrel
        have HJ := Lib.hid hj
        have HLR2 := Lib.hid (HL5.out.trans HLR.out)
        by_cases hlt : j < fz
        · obtain ⟨t, ht⟩ : ∃ t, d.S[A.first + k + j]? = some t := ⟨_, List.getElem?_eq_getElem (by omega)⟩
          have htl : t.length = 64 := H64.out t (List.mem_of_getElem? ht)
          obtain ⟨c0, c1, -, e0, carr⟩ := FACT.out wr HLR2.out
          have ct := carr _ t ht
          obtain ⟨y0, hy0⟩ : ∃ y0, t[0]? = some y0 := ⟨_, List.getElem?_eq_getElem (by omega)⟩
          have hyd : t.headD 0 = y0 := by
            cases t with
            | nil => simp at hy0
            | cons y l => simpa using hy0
          have si : ∀ V, (Instr.index 9 (.string ⟨t.toArray⟩) (.int .i64 0)).run Try.prog V = .ok (.int .u8 (y0.toNat : Int)) V := fun V => str_index V t 0 y0 hy0
          have sl : ∀ V, (Instr.slice 9 (.string ⟨t.toArray⟩) (some (.int .i64 1)) none none).run Try.prog V = .ok (.string ⟨(t.drop 1).toArray⟩) V := fun V => str_from V t 1 (by omega)
          have sc := str_cat (s.drop 20 ++ r) (t.drop 1)
          have e1 : IntKind.i64.wrap ((A.first : Int) + (k : Int)) = ((A.first + k : Nat) : Int) := (IntWalk.i64_in _ (by omega)).trans (by simp)
          have e2 : IntKind.i64.wrap (((A.first + k : Nat) : Int) + (j : Int)) = ((A.first + k + j : Nat) : Int) := (IntWalk.i64_in _ (by omega)).trans (by simp)
          have i0 : (0 : Int) ≤ ((A.first + k + j : Nat) : Int) := by omega
          have i1 : ((A.first + k + j : Nat) : Int) < (d.S.length : Int) := by omega
          have HT := Lib.hid ht
          have HTL := Lib.hid htl
          have HYD := Lib.hid hyd
          have y256 := y0.toNat_lt
          have HKR := Lib.hid (HK5.out.below HLR.out HK5.out.lt)
          have hbvl : (s.drop 20 ++ r).length ≤ 2000 := by rw [List.length_append, List.length_drop, HL.out, HRL.out]; omega
          have htl' : t.length ≤ 64 := by omega
          generalize hbv : s.drop 20 ++ r = bv at *
          have HBV := Lib.hid hbv
          clear carr hy0 hyd ht htl hbv hj
          by_cases a1 : y0 = 67
          · have b1 : ((y0.toNat : Int) != 67) = false := by rw [a1]; rfl
            have HA1 := Lib.hid a1
            generalize ((y0.toNat : Int)) = hy0 at *
            clear a1
            go_wp2_with fail
            refine (CZ4.out _).mono ?_
            rintro e w' ⟨rfl, rfl⟩
            go_wp2_with fail
            go_quiet (fail)
            go_wp2_with fail
            go_roundg (fz - (j + 1))
            case measure => have := HJ.out; omega
            case rel =>
              have := HJ.out
              refine ⟨j + 1, r ++ t.drop 1, by omega, by omega, by go_num, ?_, Lib.hid ?_, Lib.hid (below_drewN HLR.out _), Lib.hid ?_⟩
              · rw [← List.append_assoc, HBV.out, List.drop_one, str_cat]
              · rw [List.length_append, List.length_drop, HRL.out, HTL.out]; omega
              · rw [HR.out, show fz - j = (fz - (j + 1)) + 1 by omega, rest_step HT.out (by rw [HYD.out]; exact HA1.out), ← Nat.add_assoc]
                simp [Option.map_map, Function.comp_def, List.append_assoc]
          · have b1 : ((y0.toNat : Int) != 67) = true := by
              rw [bne_iff_ne]
              intro e
              exact a1 (UInt8.toNat_inj.1 (by have : y0.toNat = 67 := by omega
                                              rw [this]; rfl))
            have HA1 := Lib.hid a1
            generalize ((y0.toNat : Int)) = hy0 at *
            obtain ⟨z0, z1, z2⟩ : wr.cell? ⟨w.heap.size, 0, none⟩ = some (.int .i64 0) ∧ wr.cell? ⟨w.heap.size, 1, none⟩ = some (.int .u8 0) ∧ wr.cell? ⟨w.heap.size, 2, none⟩ = some (.string ⟨#[]⟩) := ⟨(HKR.out.cell 0).trans rfl, (HKR.out.cell 1).trans rfl, (HKR.out.cell 2).trans rfl⟩
            have f0 := HKR.out.frozen 0
            have f1 := HKR.out.frozen 1
            have f2 := HKR.out.frozen 2
            clear a1
            go_wp2_with fail
            refine (CZ4.out _).mono ?_
            rintro e w' ⟨rfl, rfl⟩
            go_wp2_with fail
            go_quiet (fail)
            go_wp2_with fail
            have hz := fr_none (w := w) (W := wr) (show Below _ _ _ from HLR2.out) HKR.out
            refine bodyPost_ret_by (results_cttt rfl _ _ w.heap.size 112 #[.int .i64 0, .int .u8 0, .string ⟨#[]⟩] (0, 0) _ rfl hz.1 Try.underlying112 rfl (by kernel_rfl)) rfl ⟨?_, below_drewN hz.2 _⟩
            have e9 : rest d.S (A.first + k + 1) (fz - 1) = none := by
              rw [HR.out, show fz - j = (fz - (j + 1)) + 1 by omega, rest_stop HT.out (by rw [HYD.out]; exact HA1.out)]
              rfl
            have e8 : frameAt d.S A.first A.sectors k = none := by
              rw [HFR.out]
              unfold standing
              rw [← HN.out, ← HFZ.out, e9]
            rw [e8]
            rfl
        · obtain rfl : j = fz := by omega
          have HRR : Hid (rest d.S (A.first + k + 1) (j - 1) = some r) := Lib.hid (by rw [HR.out, Nat.sub_self]; simp [rest])
          have hbl : (s.drop 20 ++ r).length = 44 + 63 * (j - 1) := by rw [List.length_append, List.length_drop, HL.out, HRL.out]
          have st : ∀ V, (Instr.slice 9 (.string ⟨(s.drop 20 ++ r).toArray⟩) none (some (.int .i64 (n : Int))) none).run Try.prog V = .ok (.string ⟨((s.drop 20 ++ r).take n).toArray⟩) V := fun V => str_to V _ n (by rw [hbl]; exact hfzr)
          obtain ⟨bb, hbb⟩ : ∃ bb, bb = (s.drop 20 ++ r).take n := ⟨_, rfl⟩
          have hbbl : bb.length = n := by rw [hbb, List.length_take, hbl]; omega
          rw [← hbb] at st
          have HBB := Lib.hid hbb
          have HBBL := Lib.hid hbbl
          have sA : ∀ V, (Instr.slice 9 (.string ⟨s.toArray⟩) none (some (.int .i64 16)) none).run Try.prog V = .ok (.string ⟨(s.take 16).toArray⟩) V := fun V => str_to V s 16 (by rw [HL.out]; omega)
          have sB : ∀ V, (Instr.slice 9 (.string ⟨s.toArray⟩) (some (.int .i64 16)) (some (.int .i64 20)) none).run Try.prog V = .ok (.string ⟨((s.drop 16).take 4).toArray⟩) V := fun V => str_slice V s 16 20 (by omega) (by rw [HL.out]; omega)
          have hs32 : sumOf (s.take 16 ++ bb) ≤ 4294967295 := Nat.sub_le _ _
          have CSUM : Hid (∀ V : World, Calls Try.prog 68 #[.string ⟨(s.take 16).toArray⟩, .string ⟨bb.toArray⟩] V fun e w' => e = .returned (.string ⟨(leB (sumOf (s.take 16 ++ bb)) 4).toArray⟩) ∧ Below V.heap.size V w') := Lib.hid (fun V => rsum_any V _ _ (by rw [List.length_take]; omega) (by rw [hbbl]; omega))
          have hl4 : ((s.drop 16).take 4).length = 4 := by rw [List.length_take, List.length_drop, HL.out]; omega
          have hiff := leB_iff hl4 (v := sumOf (s.take 16 ++ bb)) (by omega)
          obtain ⟨sv, hsv⟩ : ∃ sv, sv = sumOf (s.take 16 ++ bb) := ⟨_, rfl⟩
          obtain ⟨s4, hs4⟩ : ∃ s4, s4 = (s.drop 16).take 4 := ⟨_, rfl⟩
          obtain ⟨l4, hl4'⟩ : ∃ l4, l4 = leB sv 4 := ⟨_, rfl⟩
          rw [← hsv] at CSUM hiff
          rw [← hs4] at sB hiff
          rw [← hl4'] at CSUM hiff
          have HSV := Lib.hid hsv
          have HS4 := Lib.hid hs4
          have HIF := Lib.hid hiff
          have HFIN : Hid (frameAt d.S A.first A.sectors k = if sv = upB s4 then some ⟨s.getD 1 0, upB ((s.drop 2).take 8), upB ((s.drop 10).take 4), bb⟩ else none) := Lib.hid (by
            rw [HFR.out]
            unfold standing
            rw [← HN.out, ← HFZ.out, HRR.out, hsv, hs4, hbb])
          have HKR := Lib.hid (HK5.out.below HLR.out HK5.out.lt)
          clear hbl hbb hbbl hs32 hl4 hiff hsv hs4 hl4' HR HRR hj hlt
          by_cases hq : l4 = s4
          · subst hq
            go_wp2_with fail
            refine (CZ4.out _).mono ?_
            rintro e w' ⟨rfl, rfl⟩
            go_wp2_with fail
            go_upto_region 16 with fail
            have HL0 := Lib.hid (Later.refl wr)
            have ZF0 : Hid (∀ s, wr.heap.size ≤ s → wr.heap.size ≤ s) := Lib.hid (fun _ h => h)
            have ZS0 : Hid (∀ V, Later wr V → (Later wr) V) := Lib.hid (fun _ h => h)
            refine walk_start 7 (S := Later wr) (T := Later wr) (by kernel_rfl) (fun r => wr.heap.size ≤ r) (fun _ h => h.size) ZS0.out (closed_later _) (Later.refl _).drew ?_
            refine wt 0 94 ?_ (fun V hV => ?_) ?_
            rotate_left 1
            · (clear hV; go_simp; (try with_reducible rfl))
            try simp only [pa, List.set]
            refine wt 1 95 ?_ (fun V hV => ?_) ?_
            rotate_left 1
            · (clear hV; go_simp; (try with_reducible rfl))
            try simp only [pa, List.set]
            refine wt 2 96 ?_ (fun V hV => ?_) ?_
            rotate_left 1
            · (clear hV; go_simp; (try with_reducible rfl))
            try simp only [pa, List.set]
            refine wt 4 98 ?_ (fun V hV => ?_) ?_
            rotate_left 1
            · (clear hV; go_simp; (try with_reducible rfl))
            try simp only [pa, List.set]
            refine wt 5 99 ?_ (fun V hV => ?_) ?_
            rotate_left 1
            · (clear hV; go_simp; (try with_reducible rfl))
            try simp only [pa, List.set]
            refine walk_core 3 rfl (by kernel_rfl) (fun _ _ _ _ _ h => h) (fun V hV K hK => ?_)
            have hV0 := HL0.out.trans hV
            go_simp
            go_at_call 68
            go_must (refine (CSUM.out V).mono ?_)
            rintro e x3 ⟨rfl, hb⟩
            have HT3 := Lib.hid (hV.of hb)
            have HL1 := Lib.hid (hV0.of hb)
            have hsize := hb.size
            have hkeep := fun (r : Nat) (_ : True) (h : r < V.heap.size) => hb.block r h
            have ZF1 : Hid (∀ s, x3.heap.size ≤ s → _) := Lib.hid (fun s h => ZF0.out s (Nat.le_trans hV.size (Nat.le_trans hsize h)))
            refine hK.out _ _ (Later x3) (Later x3) _ (fun r _ h => hkeep r trivial h) (fun _ h _ => h) (fun V' h => (hV.of hb).trans h) (fun _ h => h) (fun V' h => ZF1.out _ h.size) (Later.refl _) (closed_later _) ?_
            clear hK K hV hsize hkeep hV0 hb
            try simp only [pa, List.set]
            refine wt 6 100 ?_ (fun V hV => ?_) ?_
            rotate_left 1
            · (clear hV; go_simp; (try with_reducible rfl))
            try simp only [pa, List.set]
            refine walk_exit (fun V hV => wpAnyJ_done (by kernel_rfl) ?_ _)
            have hV0 := HL1.out.trans hV
            have HV := Lib.hid hV0
            clear hV hV0 sA sB st
            have HKV := Lib.hid (HKR.out.below HV.out HKR.out.lt)
            have HLV := Lib.hid (HLR2.out.trans HV.out)
            obtain ⟨x1, hx1⟩ : ∃ x1, s[1]? = some x1 := ⟨_, List.getElem?_eq_getElem (by rw [HL.out]; omega)⟩
            have hx1d : s.getD 1 0 = x1 := by rw [List.getD_eq_getElem?_getD, hx1]; rfl
            have si1 : ∀ V, (Instr.index 9 (.string ⟨s.toArray⟩) (.int .i64 1)).run Try.prog V = .ok (.int .u8 (x1.toNat : Int)) V := fun V => str_index V s 1 x1 hx1
            have sC : ∀ V, (Instr.slice 9 (.string ⟨s.toArray⟩) (some (.int .i64 2)) (some (.int .i64 10)) none).run Try.prog V = .ok (.string ⟨((s.drop 2).take 8).toArray⟩) V := fun V => str_slice V s 2 10 (by omega) (by rw [HL.out]; omega)
            have sD : ∀ V, (Instr.slice 9 (.string ⟨s.toArray⟩) (some (.int .i64 10)) (some (.int .i64 14)) none).run Try.prog V = .ok (.string ⟨((s.drop 10).take 4).toArray⟩) V := fun V => str_slice V s 10 14 (by omega) (by rw [HL.out]; omega)
            have HX1 := Lib.hid hx1d
            have CL8 : Hid (∀ V : World, Calls Try.prog 100 #[.string ⟨((s.drop 2).take 8).toArray⟩] V fun e w' => e = .returned (.int .u64 (upB ((s.drop 2).take 8) : Nat)) ∧ Below V.heap.size V w') := Lib.hid (fun V => (up_any V _ (by rw [List.length_take]; omega)).mono fun e w' h => ⟨h.1, by rw [← h.2]; exact Below.refl _ _⟩)
            have CL4 : Hid (∀ V : World, Calls Try.prog 100 #[.string ⟨((s.drop 10).take 4).toArray⟩] V fun e w' => e = .returned (.int .u64 (upB ((s.drop 10).take 4) : Nat)) ∧ Below V.heap.size V w') := Lib.hid (fun V => (up_any V _ (by rw [List.length_take]; omega)).mono fun e w' h => ⟨h.1, by rw [← h.2]; exact Below.refl _ _⟩)
            generalize hlv : upB ((s.drop 2).take 8) = lv at *
            generalize hnv : upB ((s.drop 10).take 4) = nv at *
            clear hx1 hx1d hlv hnv
            go_wp2_with fail
            go_upto_region 18 with fail
            obtain ⟨W9, hW9⟩ : ∃ W9 : World, W9 = V := ⟨_, rfl⟩
            rw [← hW9] at HKV HLV ⊢
            clear hW9
            have HL0 := Lib.hid (Later.refl W9)
            have ZF0 : Hid (∀ s, W9.heap.size ≤ s → W9.heap.size ≤ s) := Lib.hid (fun _ h => h)
            have ZS0 : Hid (∀ V, Later W9 V → (Later W9) V) := Lib.hid (fun _ h => h)
            refine walk_start 11 (S := Later W9) (T := Later W9) (by kernel_rfl) (fun r => W9.heap.size ≤ r) (fun _ h => h.size) ZS0.out (closed_later _) (Later.refl _).drew ?_
            refine wt 0 102 ?_ (fun V hV => ?_) ?_
            rotate_left 1
            · (clear hV; go_simp; (try with_reducible rfl))
            try simp only [pa, List.set]
            refine wt 1 103 ?_ (fun V hV => ?_) ?_
            rotate_left 1
            · (clear hV; go_simp; (try with_reducible rfl))
            try simp only [pa, List.set]
            refine wt 2 104 ?_ (fun V hV => ?_) ?_
            rotate_left 1
            · (clear hV; go_simp; (try with_reducible rfl))
            try simp only [pa, List.set]
            refine wt 3 105 ?_ (fun V hV => ?_) ?_
            rotate_left 1
            · (clear hV; go_simp; (try with_reducible rfl))
            try simp only [pa, List.set]
            refine wt 4 106 ?_ (fun V hV => ?_) ?_
            rotate_left 1
            · (clear hV; go_simp; (try with_reducible rfl))
            try simp only [pa, List.set]
            refine wt 5 107 ?_ (fun V hV => ?_) ?_
            rotate_left 1
            · (clear hV; go_simp; (try with_reducible rfl))
            try simp only [pa, List.set]
            refine wt 6 108 ?_ (fun V hV => ?_) ?_
            rotate_left 1
            · (clear hV; go_simp; (try with_reducible rfl))
            try simp only [pa, List.set]
            refine wt 8 110 ?_ (fun V hV => ?_) ?_
            rotate_left 1
            · (clear hV; go_simp; (try with_reducible rfl))
            try simp only [pa, List.set]
            refine wt 9 111 ?_ (fun V hV => ?_) ?_
            rotate_left 1
            · (clear hV; go_simp; (try with_reducible rfl))
            try simp only [pa, List.set]
            refine walk_core 7 rfl (by kernel_rfl) (fun _ _ _ _ _ h => h) (fun V hV K hK => ?_)
            have hV0 := HL0.out.trans hV
            go_simp
            go_at_call 100
            refine (CL8.out _).mono ?_
            rintro e x7 ⟨rfl, hb⟩
            have HT7 := Lib.hid (hV.of hb)
            have HL1 := Lib.hid (hV0.of hb)
            have hsize := hb.size
            have hkeep := fun (r : Nat) (_ : True) (h : r < V.heap.size) => hb.block r h
            have ZF1 : Hid (∀ s, x7.heap.size ≤ s → _) := Lib.hid (fun s h => ZF0.out s (Nat.le_trans hV.size (Nat.le_trans hsize h)))
            refine hK.out _ _ (Later x7) (Later x7) _ (fun r _ h => hkeep r trivial h) (fun _ h _ => h) (fun V' h => (hV.of hb).trans h) (fun _ h => h) (fun V' h => ZF1.out _ h.size) (Later.refl _) (closed_later _) ?_
            clear hK K hV hsize hkeep hV0 hb
            try simp only [pa, List.set]
            refine walk_core 10 rfl (by kernel_rfl) (fun _ _ _ _ _ h => h) (fun V hV K hK => ?_)
            have hV0 := HL1.out.trans hV
            go_simp
            go_at_call 100
            refine (CL4.out _).mono ?_
            rintro e x10 ⟨rfl, hb⟩
            have HT10 := Lib.hid (hV.of hb)
            have HL2 := Lib.hid (hV0.of hb)
            have hsize := hb.size
            have hkeep := fun (r : Nat) (_ : True) (h : r < V.heap.size) => hb.block r h
            have ZF2 : Hid (∀ s, x10.heap.size ≤ s → _) := Lib.hid (fun s h => ZF1.out s (Nat.le_trans hV.size (Nat.le_trans hsize h)))
            refine hK.out _ _ (Later x10) (Later x10) _ (fun r _ h => hkeep r trivial h) (fun _ h _ => h) (fun V' h => (hV.of hb).trans h) (fun _ h => h) (fun V' h => ZF2.out _ h.size) (Later.refl _) (closed_later _) ?_
            clear hK K hV hsize hkeep hV0 hb
            try simp only [pa, List.set]
            refine walk_exit (fun V hV => ?_)
            have hV0 := HL2.out.trans hV
            try simp only [pa, List.set]
            have hb9 : Below w.heap.size w V := (show Below _ _ _ from HLV.out.trans hV0)
            have kz := HKV.out.below hV0 HKV.out.lt
            obtain ⟨z0, z1, z2⟩ : V.cell? ⟨w.heap.size, 0, none⟩ = some (.int .i64 0) ∧ V.cell? ⟨w.heap.size, 1, none⟩ = some (.int .u8 0) ∧ V.cell? ⟨w.heap.size, 2, none⟩ = some (.string ⟨#[]⟩) := ⟨(kz.cell 0).trans rfl, (kz.cell 1).trans rfl, (kz.cell 2).trans rfl⟩
            have f0 := kz.frozen 0
            have f1 := kz.frozen 1
            have f2 := kz.frozen 2
            have KZ := Lib.hid kz
            have HB9 := Lib.hid hb9
            clear kz hb9 hV hV0
            refine wpAnyJ_one (i := 11) (by kernel_rfl) rfl (fun K hK => ?_)
            simp only [List.getElem_toArray, List.getElem_cons_succ, List.getElem_cons_zero]
            go_simp
            obtain ⟨W8, hW8⟩ : ∃ W8, W8 = ((V.setCell ⟨w.heap.size, 0, none⟩ (.int .i64 (k : Int))).setCell ⟨w.heap.size, 1, none⟩ (.int .u8 (x1.toNat : Int))).setCell ⟨w.heap.size, 2, none⟩ (.string ⟨bb.toArray⟩) := ⟨_, rfl⟩
            refine hK.out _ _ (fun h _ => absurd rfl h) ?_
            clear hK K
            try simp only [pa, List.set]
            rw [← hW8]
            have hk8 : Blk W8 w.heap.size 112 #[.int .i64 (k : Int), .int .u8 (x1.toNat : Int), .string ⟨bb.toArray⟩] := by
              have := ((KZ.out.set_ 0 (.int .i64 (k : Int))).set_ 1 (.int .u8 (x1.toNat : Int))).set_ 2 (.string ⟨bb.toArray⟩)
              rw [hW8]
              exact this
            have hb8 : Below w.heap.size w W8 := by
              rw [hW8]
              exact ((HB9.out.setCell (p := ⟨w.heap.size, 0, none⟩) (Nat.le_refl _) _).setCell (p := ⟨w.heap.size, 1, none⟩) (Nat.le_refl _) _).setCell (p := ⟨w.heap.size, 2, none⟩) (Nat.le_refl _) _
            have HK8 := Lib.hid hk8
            have HB8 := Lib.hid hb8
            clear hW8 hk8 hb8 z0 z1 z2 f0 f1 f2 KZ HB9
            refine wpAnyJ_pure (i := 12) (d := some 5) (v := ?_) (by kernel_rfl) rfl rfl (Or.inl ⟨by rfl, ?_⟩) (fun _ h => absurd ((show _ = true by kernel_rfl).symm.trans h) (by decide)) ?_
            rotate_left 1
            · (intro V; go_simp; (try with_reducible rfl))
            try simp only [pa, List.set]
            refine wpAnyJ_pure (i := 13) (d := some 6) (v := ?_) (by kernel_rfl) rfl rfl (Or.inl ⟨by rfl, ?_⟩) (fun _ h => absurd ((show _ = true by kernel_rfl).symm.trans h) (by decide)) ?_
            rotate_left 1
            · (intro V; go_simp; (try with_reducible rfl))
            try simp only [pa, List.set]
            refine wpAnyJ_pure (i := 14) (d := some 7) (v := ?_) (by kernel_rfl) rfl rfl (Or.inl ⟨by rfl, ?_⟩) (fun _ h => absurd ((show _ = true by kernel_rfl).symm.trans h) (by decide)) ?_
            rotate_left 1
            · (intro V; go_simp; (try with_reducible rfl))
            try simp only [pa, List.set]
            refine wpAnyJ_done (by kernel_rfl) ?_ _
            go_wp2_with fail
            refine bodyPost_ret_by (results_cttt rfl _ _ w.heap.size 112 #[.int .i64 (k : Int), .int .u8 (x1.toNat : Int), .string ⟨bb.toArray⟩] (0, 0) _ rfl HK8.out Try.underlying112 rfl (by kernel_rfl)) rfl ⟨?_, HB8.out⟩
            rw [HFIN.out, if_pos (HIF.out.1 (by simp)), HX1.out]
            rfl
          · have hne : (l4 == s4) = false := beq_eq_false_iff_ne.2 hq
            go_wp2_with fail
            refine (CZ4.out _).mono ?_
            rintro e w' ⟨rfl, rfl⟩
            go_wp2_with fail
            go_upto_region 16 with fail
            have HL0 := Lib.hid (Later.refl wr)
            have ZF0 : Hid (∀ s, wr.heap.size ≤ s → wr.heap.size ≤ s) := Lib.hid (fun _ h => h)
            have ZS0 : Hid (∀ V, Later wr V → (Later wr) V) := Lib.hid (fun _ h => h)
            refine walk_start 7 (S := Later wr) (T := Later wr) (by kernel_rfl) (fun r => wr.heap.size ≤ r) (fun _ h => h.size) ZS0.out (closed_later _) (Later.refl _).drew ?_
            refine wt 0 94 ?_ (fun V hV => ?_) ?_
            rotate_left 1
            · (clear hV; go_simp; (try with_reducible rfl))
            try simp only [pa, List.set]
            refine wt 1 95 ?_ (fun V hV => ?_) ?_
            rotate_left 1
            · (clear hV; go_simp; (try with_reducible rfl))
            try simp only [pa, List.set]
            refine wt 2 96 ?_ (fun V hV => ?_) ?_
            rotate_left 1
            · (clear hV; go_simp; (try with_reducible rfl))
            try simp only [pa, List.set]
            refine wt 4 98 ?_ (fun V hV => ?_) ?_
            rotate_left 1
            · (clear hV; go_simp; (try with_reducible rfl))
            try simp only [pa, List.set]
            refine wt 5 99 ?_ (fun V hV => ?_) ?_
            rotate_left 1
            · (clear hV; go_simp; (try with_reducible rfl))
            try simp only [pa, List.set]
            refine walk_core 3 rfl (by kernel_rfl) (fun _ _ _ _ _ h => h) (fun V hV K hK => ?_)
            have hV0 := HL0.out.trans hV
            go_simp
            go_at_call 68
            go_must (refine (CSUM.out V).mono ?_)
            rintro e x3 ⟨rfl, hb⟩
            have HT3 := Lib.hid (hV.of hb)
            have HL1 := Lib.hid (hV0.of hb)
            have hsize := hb.size
            have hkeep := fun (r : Nat) (_ : True) (h : r < V.heap.size) => hb.block r h
            have ZF1 : Hid (∀ s, x3.heap.size ≤ s → _) := Lib.hid (fun s h => ZF0.out s (Nat.le_trans hV.size (Nat.le_trans hsize h)))
            refine hK.out _ _ (Later x3) (Later x3) _ (fun r _ h => hkeep r trivial h) (fun _ h _ => h) (fun V' h => (hV.of hb).trans h) (fun _ h => h) (fun V' h => ZF1.out _ h.size) (Later.refl _) (closed_later _) ?_
            clear hK K hV hsize hkeep hV0 hb
            try simp only [pa, List.set]
            refine wt 6 100 ?_ (fun V hV => ?_) ?_
            rotate_left 1
            · (clear hV; go_simp; (try with_reducible rfl))
            try simp only [pa, List.set]
            refine walk_exit (fun V hV => wpAnyJ_done (by kernel_rfl) ?_ _)
            have hV0 := HL1.out.trans hV
            have HV := Lib.hid hV0
            clear hV hV0 sA sB st
            have HKV := Lib.hid (HKR.out.below HV.out HKR.out.lt)
            obtain ⟨z0, z1, z2⟩ : V.cell? ⟨w.heap.size, 0, none⟩ = some (.int .i64 0) ∧ V.cell? ⟨w.heap.size, 1, none⟩ = some (.int .u8 0) ∧ V.cell? ⟨w.heap.size, 2, none⟩ = some (.string ⟨#[]⟩) := ⟨(HKV.out.cell 0).trans rfl, (HKV.out.cell 1).trans rfl, (HKV.out.cell 2).trans rfl⟩
            have f0 := HKV.out.frozen 0
            have f1 := HKV.out.frozen 1
            have f2 := HKV.out.frozen 2
            go_wp2_with fail
            have hz := fr_none (w := w) (W := V) (show Below _ _ _ from HLR2.out.trans HV.out) HKV.out
            refine bodyPost_ret_by (results_cttt rfl _ _ w.heap.size 112 #[.int .i64 0, .int .u8 0, .string ⟨#[]⟩] (0, 0) _ rfl hz.1 Try.underlying112 rfl (by kernel_rfl)) rfl ⟨?_, hz.2⟩
            rw [HFIN.out, if_neg (fun e => hq (HIF.out.2 e))]
            rfl
end
end Go.Proofs.Ytlbikfamjogpnaa
end

/- The reference's OpenArea. Conditions: the disk lies in memory, its sectors have 64 bytes. -/
section
namespace Go.Proofs.Ytlbikfamjogpnaa
open Go.RowKit
set_option linter.unusedVariables false
set_option linter.unusedSimpArgs false

/-- An area's frames, told as the reference keeps them. -/
def Same (A : Ar) (fs : List (UInt8 × List UInt8)) : Prop := A.ats = offsL fs ∧ A.used = offs fs fs.length ∧ Short fs
theorem Same.more {A : Ar} {fs : List (UInt8 × List UInt8)} (h : Same A fs) {x : Fr} (hx : x.b.length ≤ 1000) : Same (A.more x) (fs ++ [(x.kind, x.b)]) := by
  refine ⟨?_, ?_, ?_⟩
  · show A.ats ++ [A.used] = _
    rw [offsL_more, h.1, h.2.1]
  · show A.used + _ = _
    rw [offs_more, h.2.1]
  · intro i k b hi
    by_cases hl : i < fs.length
    · rw [List.getElem?_append_left hl] at hi
      exact h.2.2 i k b hi
    · rw [List.getElem?_append_right (by omega)] at hi
      obtain ⟨h1, h2⟩ := List.getElem?_eq_some_iff.1 hi
      have h0 : i - fs.length = 0 := by simp at h1; omega
      simp only [h0, List.getElem_cons_zero] at h2
      cases h2
      exact hx
theorem info_frame : (Try.prog.info? 112).map (fun i => (i.zero, i.size, i.bytes)) = some (some (.agg #[.int .i64 0, .int .u8 0, .string ⟨#[]⟩]), 3, 32) := by kernel_rfl
theorem fr_reads (W : World) (x y z : Value) (t : TypeId) : Reads (W.alloc (.cells #[x, y, z] t)) (W.heap.size + 1) 3 (some ⟨W.heap.size, 0, none⟩) 1 [x, y, z] := by
  refine ⟨rfl, fun _ => ⟨_, rfl, Nat.lt_succ_self _, fun j v hv => ?_⟩⟩
  rw [add_zero_off, (Blk.new W t #[x, y, z]).cell j]
  simpa using hv
theorem RDiskAt.keep2 {w w' : World} {b a : Nat} {d : Dk} {S : Nat → Prop} (h : RDiskAt w b a d) (hk : DKept S w w') (hS : ∀ k, S k → k ≠ b ∧ k ≠ a) : RDiskAt w' b a d :=
  h.keep (hk.block b h.ltb (fun e => (hS b e).1 rfl)) (hk.block a h.lta (fun e => (hS a e).2 rfl))

section
variable {w : World} {rb ra : Nat}
set_option maxRecDepth 100000 in
set_option maxHeartbeats 8000000 in
theorem ropen_any (d : Dk) (first sectors : Nat) (hd : RDiskAt w rb ra d) (h64 : ∀ s ∈ d.S, s.length = 64) (h1 : 1 ≤ sectors) (hfit : first + sectors ≤ d.S.length) (hoff : d.off = false) :
    Calls Try.prog 26 #[.pointer (some ⟨rb, 0, none⟩), .int .i64 (first : Int), .int .i64 (sectors : Int)] w fun e w' => ∃ q fs, e = .returned (.tuple #[.pointer (some ⟨q, 0, none⟩), .int .i64 0]) ∧ RAreaAt w' w.heap.size q rb (scanA d.S ⟨d.lives, first, sectors, 0, [], 0⟩) fs ∧
      Same (scanA d.S ⟨d.lives, first, sectors, 0, [], 0⟩) fs ∧ Below w.heap.size w w' := by
  have hd' := hd
  obtain ⟨cd, arr, how, hb, -, ha, hac, hdc, hcm, h1', h4096, -, -, harr⟩ := hd
  obtain ⟨e0, e1, -, -, -, e5⟩ := rdisk_cells hb
  rw [hoff] at e1
  have HD := Lib.hid hd'
  have H64 := Lib.hid h64
  have HFIT := Lib.hid hfit
  have HL := Lib.hid h4096
  have g1 : decide ((first : Int) < 0) = false := decide_eq_false (by omega)
  have g2 : decide ((sectors : Int) < 1) = false := decide_eq_false (by omega)
  have g3 : decide (d.S.length < sectors) = false := decide_eq_false (by omega)
  have g3' : decide ((d.S.length : Int) < (sectors : Int)) = false := decide_eq_false (by omega)
  have ew1 : IntKind.i64.wrap ((d.S.length : Int) - (sectors : Int)) = (d.S.length : Int) - (sectors : Int) := IntWalk.i64_in _ (by omega)
  have g4 : decide ((d.S.length : Int) - (sectors : Int) < (first : Int)) = false := decide_eq_false (by omega)
  clear hd' h64 hb ha harr hac hcm
  go_enter Try.func26, Try.ntmps26
  go_upto_block 1 with fail
  obtain ⟨W1, hW1⟩ : ∃ W1, W1 = w.alloc (.cells #[.pointer (some ⟨rb, 0, none⟩), .int .i64 first, .int .i64 sectors, .int .u64 0, .slice none 0 0, .int .i64 d.lives] 55) := ⟨_, rfl⟩
  have hb1 : Below w.heap.size w W1 := by rw [hW1]; exact (Below.refl _ _).alloc (Nat.le_refl _) _
  have ha1 : RAreaAt W1 w.heap.size w.heap.size rb ⟨d.lives, first, sectors, 0, [], 0⟩ [] := ⟨Nat.le_refl _, none, 0, by rw [hW1]; exact Blk.new _ _ _, rfl, .inl ⟨rfl, rfl⟩⟩
  rw [← hW1]
  have HB1 := Lib.hid hb1
  have HA1 := Lib.hid ha1
  have HD1 := Lib.hid (HD.out.below hb1)
  clear hW1 hb1 ha1 g1 g2 g3 g3' g4 ew1 e0 e1 e5
  generalize hFIN : scanA d.S ⟨d.lives, first, sectors, 0, [], 0⟩ = FIN
  have HFIN := Lib.hid hFIN
  clear hFIN
  go_wp2_with fail
  go_loopg [9, 10, 11, 12, 13] (sectors + 1) (fun m atv _ _ _ _ wr => ∃ (A : Ar) (fs : List (UInt8 × List UInt8)), m = sectors + 1 - A.used ∧ atv = .int .i64 (A.used : Int) ∧ A.used ≤ sectors ∧ Hid (A.first = first ∧ A.sectors = sectors ∧ A.lives = d.lives) ∧ Hid (RAreaAt wr w.heap.size w.heap.size rb A fs) ∧ Hid (Same A fs) ∧ Hid (RDiskAt wr rb ra d) ∧ Hid (Below w.heap.size w wr) ∧ Hid (scanA d.S A = FIN))
  case atStart => exact ⟨⟨d.lives, first, sectors, 0, [], 0⟩, [], rfl, rfl, Nat.zero_le _, Lib.hid ⟨rfl, rfl, rfl⟩, HA1, Lib.hid ⟨rfl, rfl, fun i k b h => by simp at h⟩, HD1, HB1, HFIN⟩
  case round =>
    obtain ⟨A, fs, hm, rfl, hu, HE, HA, HSM, HDR, HB, HSC⟩ := hrel
    clear HA1 HD1 HB1
    have CR := Lib.hid (rread_any d A.used HA.out HDR.out (by rw [HE.out.1, HE.out.2.1]; exact HFIT.out) H64.out (by have := HL.out; have := HFIT.out; omega))
    obtain ⟨h0, Lt, c, hk, ho⟩ := HA.out
    have HM := Lib.hid hm
    have HO := Lib.hid ho
    have HK := Lib.hid hk
    clear hk ho h0 hm
    go_wp2_with fail
    refine CR.out.mono ?_
    rintro e w5 ⟨rfl, hb5⟩
    have HB5 := Lib.hid hb5
    clear hb5
    cases hfx : frameAt d.S A.first A.sectors A.used with
    | none =>
      have HFN := Lib.hid hfx
      clear hfx
      unfold rstand
      go_wp2_with fail
      have hbz : Below w.heap.size w (w5.alloc (.cells #[.int .i64 0, .int .u8 0, .string ⟨#[]⟩] 112)) := (HB.out.trans (HB5.out.mono HB.out.size)).alloc (by have := HB.out.size; have := HB5.out.size; omega) _
      refine bodyPost_ret (v := .tuple #[.pointer (some ⟨w.heap.size, 0, none⟩), .int .i64 0]) (by simp [results, Try.results26, go_sem]) rfl ⟨w.heap.size, fs, rfl, ?_, ?_, hbz⟩
      · rw [HFIN.out, ← HSC.out, scanA_none HFN.out]
        exact HA.out.below (HB5.out.alloc HB5.out.size _)
      · rw [HFIN.out, ← HSC.out, scanA_none HFN.out]
        exact HSM.out
    | some x =>
      have HFX := Lib.hid hfx
      have hxl := frameAt_len hfx H64.out (by rw [HE.out.1, HE.out.2.1]; exact HFIT.out)
      have HXL := Lib.hid hxl
      clear hfx hxl
      unfold rstand
      obtain ⟨W6, hW6⟩ : ∃ W6, W6 = w5.alloc (.cells #[.int .i64 (A.used : Int), .int .u8 (x.kind.toNat : Int), .string ⟨x.b.toArray⟩] 112) := ⟨_, rfl⟩
      have hb6 : Below wr.heap.size wr W6 := by rw [hW6]; exact HB5.out.alloc HB5.out.size _
      have hk6 : Blk W6 w5.heap.size 112 #[.int .i64 (A.used : Int), .int .u8 (x.kind.toNat : Int), .string ⟨x.b.toArray⟩] := by rw [hW6]; exact Blk.new _ _ _
      have HA6 := Lib.hid (HA.out.below hb6)
      have hka := HK.out.below hb6 HK.out.lt
      have HK6 := Lib.hid hka
      have HO6 : Hid (W6.ownsRow w.heap.size 112 3 (.slice Lt fs.length c) fs.length (recF 0 fs)) := Lib.hid (own_keep HO.out fun g hg => hb6.block g (HO.out.lt g hg).2)
      have HD6 := Lib.hid (HDR.out.below hb6)
      have HB6 : Hid (Below w.heap.size w W6) := Lib.hid (HB.out.trans (hb6.mono HB.out.size))
      have HF6 := Lib.hid hk6
      have HNE : Hid (w.heap.size < w5.heap.size) := Lib.hid (Nat.lt_of_lt_of_le HK.out.lt HB5.out.size)
      obtain ⟨-, -, -, c3, c4, -⟩ := rarea_cells hka
      have HW6 := Lib.hid hW6
      clear hb6 hk6 hka
      go_upto_region 8 with fail
      rw [← HW6.out]
      clear hW6 HW6
      have hnn : fs.length = A.ats.length := by rw [HSM.out.1, offsL_len]
      have hnu : fs.length ≤ A.used := by rw [HSM.out.2.1]; exact offs_ge fs _ (Nat.le_refl _)
      obtain ⟨n, hn⟩ : ∃ n, n = fs.length := ⟨_, rfl⟩
      rw [← hn] at hnn hnu c4 HO6 HK6
      have HN := Lib.hid hn
      have HNN := Lib.hid hnn
      have ew : IntKind.u64.wrap (n : Int) = (n : Int) := by rw [IntKind.wrap_u64]; have := HL.out; have := HFIT.out; omega
      have hlen : n ≤ 4096 := by have := HL.out; have := HFIT.out; omega
      clear hn hnn hnu
      by_cases hE : A.ends x
      · have HNX := Lib.hid hE
        unfold Ar.ends at hE
        rw [← HNN.out] at hE
        by_cases hn : x.n = n
        · have hE2 : 0 < n ∧ x.life ≠ A.life := by
            rcases hE with h | h
            · exact absurd hn h
            · exact h
          have q1 : ((x.n : Int) != (n : Int)) = false := by rw [hn]; simp
          have q2 : decide ((0 : Int) < (n : Int)) = true := decide_eq_true (by omega)
          have q3 : decide (0 < n) = true := decide_eq_true (by omega)
          have q4 : ((x.life : Int) != (A.life : Int)) = true := by rw [bne_iff_ne]; have := hE2.2; omega
          clear hn hE hE2
          go_wp2_with fail
          refine bodyPost_ret (v := .tuple #[.pointer (some ⟨w.heap.size, 0, none⟩), .int .i64 0]) (by simp [results, Try.results26, go_sem]) rfl ⟨w.heap.size, fs, rfl, ?_, ?_, HB6.out⟩
          · rw [HFIN.out, ← HSC.out, scanA_ends HFX.out HNX.out]
            exact HA6.out
          · rw [HFIN.out, ← HSC.out, scanA_ends HFX.out HNX.out]
            exact HSM.out
        · have q1 : ((x.n : Int) != (n : Int)) = true := by rw [bne_iff_ne]; omega
          clear hn hE
          go_wp2_with fail
          refine bodyPost_ret (v := .tuple #[.pointer (some ⟨w.heap.size, 0, none⟩), .int .i64 0]) (by simp [results, Try.results26, go_sem]) rfl ⟨w.heap.size, fs, rfl, ?_, ?_, HB6.out⟩
          · rw [HFIN.out, ← HSC.out, scanA_ends HFX.out HNX.out]
            exact HA6.out
          · rw [HFIN.out, ← HSC.out, scanA_ends HFX.out HNX.out]
            exact HSM.out
      · have HNX := Lib.hid hE
        unfold Ar.ends at hE
        rw [← HNN.out] at hE
        have hn : x.n = n := Classical.byContradiction fun h => hE (.inl h)
        have q1 : ((x.n : Int) != (n : Int)) = false := by rw [hn]; simp
        go_cut [88] (fun cv wx => cv = .bool false ∧ Hid (wx = W6))
        case first =>
          by_cases hl0 : n = 0
          · have q2 : decide ((0 : Int) < (n : Int)) = false := decide_eq_false (by omega)
            have q3 : decide (0 < n) = false := decide_eq_false (by omega)
            clear hn hl0 hE
            go_wp2_with fail
            go_meet
            exact ⟨rfl, Lib.hid rfl⟩
          · have q2 : decide ((0 : Int) < (n : Int)) = true := decide_eq_true (by omega)
            have q3 : decide (0 < n) = true := decide_eq_true (by omega)
            have hlf : x.life = A.life := Classical.byContradiction fun h => hE (.inr ⟨by omega, h⟩)
            have q4 : ((x.life : Int) != (A.life : Int)) = false := by rw [hlf]; simp
            clear hn hl0 hE hlf
            go_wp2_with fail
            go_meet
            exact ⟨rfl, Lib.hid rfl⟩
        case rest =>
        obtain ⟨rfl, H7⟩ := hcut
        obtain rfl := H7.out
        clear hn q1 hE ew H7
        obtain ⟨W6, hWW⟩ : ∃ W6 : World, W6 = wc := ⟨_, rfl⟩
        rw [← hWW] at HA6 HK6 HO6 HD6 HB6 HF6 c3 c4 ⊢
        clear hWW
        have fz3 := HK6.out.frozen 3
        obtain ⟨W8, hW8⟩ : ∃ W8, W8 = W6.setCell ⟨w.heap.size, 3, none⟩ (.int .u64 (x.life : Int)) := ⟨_, rfl⟩
        have hk8 : Blk W8 w.heap.size 55 #[.pointer (some ⟨rb, 0, none⟩), .int .i64 A.first, .int .i64 A.sectors, .int .u64 x.life, .slice Lt n c, .int .i64 A.lives] := by
          have := HK6.out.set_ 3 (.int .u64 (x.life : Int))
          rw [hW8]
          exact this
        have ho8 : W8.ownsRow w.heap.size 112 3 (.slice Lt n c) n (recF 0 fs) := by rw [hW8]; exact own_far (p := ⟨w.heap.size, 3, none⟩) HO6.out (own_blk_ne HO6.out HK6.out (by decide)) _
        have hb8 : Below w.heap.size w W8 := by rw [hW8]; exact HB6.out.setCell (p := ⟨w.heap.size, 3, none⟩) (Nat.le_refl _) _
        have hf8 : Blk W8 w5.heap.size 112 #[.int .i64 (A.used : Int), .int .u8 (x.kind.toNat : Int), .string ⟨x.b.toArray⟩] := by rw [hW8]; exact HF6.out.far (p := ⟨w.heap.size, 3, none⟩) (by have := HNE.out; show w5.heap.size ≠ w.heap.size; omega) _
        have hd8 : RDiskAt W8 rb ra d := by
          rw [hW8]
          have hlt := (HD.out.ltb)
          have hlt2 := (HD.out.lta)
          exact HD6.out.keep2 (S := fun k => k = w.heap.size) (DKept.set DKept.refl rfl) (by rintro k rfl; omega)
        go_upto_region 11 with fail
        rw [← hW8]
        obtain ⟨-, -, -, -, c4, -⟩ := rarea_cells hk8
        have fz4 := hk8.frozen 4
        have c4a : (W8.alloc (.cells #[.int .i64 (A.used : Int), .int .u8 (x.kind.toNat : Int), .string ⟨x.b.toArray⟩] 112)).cell? ⟨w.heap.size, 4, none⟩ = some (.slice Lt n c) := (World.cell?_alloc_lt W8 _ ⟨w.heap.size, 4, none⟩ (World.block_lt_of_cell? _ _ c4)).trans c4
        have y0 : W8.cell? ⟨w5.heap.size, 0, none⟩ = some (.int .i64 (A.used : Int)) := (hf8.cell 0).trans rfl
        have y1 : W8.cell? ⟨w5.heap.size, 1, none⟩ = some (.int .u8 (x.kind.toNat : Int)) := (hf8.cell 1).trans rfl
        have y2 : W8.cell? ⟨w5.heap.size, 2, none⟩ = some (.string ⟨x.b.toArray⟩) := (hf8.cell 2).trans rfl
        obtain ⟨i0, hi0, hz0, hz1, hz2⟩ := info_parts info_frame
        have HK8 := Lib.hid hk8
        have HO8 := Lib.hid ho8
        have HB8 := Lib.hid hb8
        have HF8 := Lib.hid hf8
        have HD8 := Lib.hid hd8
        have hsz8 : w.heap.size ≤ (W8.drew.alloc (.cells #[.int .i64 (A.used : Int), .int .u8 (x.kind.toNat : Int), .string ⟨x.b.toArray⟩] 112)).heap.size := by have := hb8.size; simp; omega
        clear hW8 fz3 hk8 ho8 hb8 hf8 hd8 c3
        have HROW : Hid (∀ g, (Value.slice Lt n c).ownBlock = some g → g < w5.heap.size) := Lib.hid (fun g hg => by have := (HO.out.lt g (by rw [← HN.out]; exact hg)).2; have := HB5.out.size; omega)
        go_cut [] (fun wx => ∃ A10 c10, Hid (Blk wx w.heap.size 55 #[.pointer (some ⟨rb, 0, none⟩), .int .i64 A.first, .int .i64 A.sectors, .int .u64 x.life, .slice A10 (n + 1) c10, .int .i64 A.lives]) ∧ Hid (wx.ownsRow w.heap.size 112 3 (.slice A10 (n + 1) c10) (n + 1) (recF 0 fs ++ [.int .i64 (A.used : Int), .int .u8 (x.kind.toNat : Int), .string ⟨x.b.toArray⟩])) ∧ Hid (Below w.heap.size w wx) ∧ Hid (Blk wx w5.heap.size 112 #[.int .i64 (A.used : Int), .int .u8 (x.kind.toNat : Int), .string ⟨x.b.toArray⟩]) ∧ Hid (RDiskAt wx rb ra d))
        case first =>
          go_region_law
            (first
              | (refine step_append_any (W8.drew.alloc (.cells #[.int .i64 (A.used : Int), .int .u8 (x.kind.toNat : Int), .string ⟨x.b.toArray⟩] 112)) (by rfl) (.tmp 98) (.tmp 100) _ (by rfl) w.heap.size 112 i0 _ 3 32 Try.underlying53 hi0 hz0 hz1 hz2 rfl (by omega) (.slice Lt n c) n _ (by rfl) ((show W8.drew.ownsRow w.heap.size 112 3 (.slice Lt n c) n (recF 0 fs) from HO8.out).alloc _) (W8.heap.size + 1) (some ⟨W8.heap.size, 0, none⟩) 1 1 [.int .i64 (A.used : Int), .int .u8 (x.kind.toNat : Int), .string ⟨x.b.toArray⟩] (by rfl) (fr_reads W8.drew _ _ _ _) (by simp [Value.oneCell']) (by unfold maxLen; omega) (by omega) hsz8 ?_; intro v10 w10 hown10 hg10 hat10
                 obtain ⟨A10, c10, rfl⟩ := own_shape hown10
                 have ho9 : (W8.drew.alloc (.cells #[.int .i64 (A.used : Int), .int .u8 (x.kind.toNat : Int), .string ⟨x.b.toArray⟩] 112)).ownsRow w.heap.size 112 3 (.slice Lt n c) n (recF 0 fs) := (show W8.drew.ownsRow w.heap.size 112 3 (.slice Lt n c) n (recF 0 fs) from HO8.out).alloc _
                 have hk9 := HK8.out.drew.alloc (.cells #[.int .i64 (A.used : Int), .int .u8 (x.kind.toNat : Int), .string ⟨x.b.toArray⟩] 112)
                 have hk10 := hk9.grown hg10 (fun e => own_blk_ne ho9 hk9 (by decide) e.symm)
                 have hb10 : Below w.heap.size w w10 := (HB8.out.drew.alloc HB8.out.size _).grown hg10 (by have := HB8.out.size; simp; omega) (fun k hk => (ho9.lt k hk).1)
                 have c4' : w10.cell? ⟨w.heap.size, 4, none⟩ = some (.slice Lt n c) := (hk10.cell 4).trans rfl
                 have f4' := hk10.frozen 4
                 have HK10 := Lib.hid hk10
                 have HB10 := Lib.hid hb10
                 have HO10 := Lib.hid hown10
                 have hf10 : Blk w10 w5.heap.size 112 #[.int .i64 (A.used : Int), .int .u8 (x.kind.toNat : Int), .string ⟨x.b.toArray⟩] := (HF8.out.drew.alloc (.cells #[.int .i64 (A.used : Int), .int .u8 (x.kind.toNat : Int), .string ⟨x.b.toArray⟩] 112)).grown hg10 (fun e => Nat.lt_irrefl _ (HROW.out _ e.symm))
                 have hd10 : RDiskAt w10 rb ra d := by
                   have h9 : RDiskAt (W8.drew.alloc (.cells #[.int .i64 (A.used : Int), .int .u8 (x.kind.toNat : Int), .string ⟨x.b.toArray⟩] 112)) rb ra d := HD8.out.below ((Below.refl _ _).drew.alloc (Nat.le_refl _) _)
                   obtain ⟨cd9, arr9, how9, hb9, _, ha9, _⟩ := id h9
                   exact h9.keep (hg10.block rb hb9.lt (fun e => own_blk_ne ho9 hb9 (by decide) e.symm)) (hg10.block ra ha9.lt (fun e => own_blk_ne ho9 ha9 (by decide) e.symm))
                 have HF10 := Lib.hid hf10
                 have HD10 := Lib.hid hd10
                 clear hown10 hg10 hat10 ho9 hk9 hk10 hb10 hf10 hd10))
          all_goals
            go_wp2_with fail
            go_meet
            refine ⟨A10, c10, Lib.hid ?_, Lib.hid ?_, Lib.hid (HB10.out.setCell (p := ⟨w.heap.size, 4, none⟩) (Nat.le_refl _) _), Lib.hid (HF10.out.far (p := ⟨w.heap.size, 4, none⟩) (by have := HNE.out; show w5.heap.size ≠ w.heap.size; omega) _), Lib.hid ?_⟩
            · have := HK10.out.set_ 4 (.slice A10 (n + 1) c10)
              exact this
            · exact own_far (p := ⟨w.heap.size, 4, none⟩) HO10.out (own_blk_ne HO10.out HK10.out (by decide)) (.slice A10 (n + 1) c10)
            · have hlt := (HD.out.ltb)
              have hlt2 := (HD.out.lta)
              exact HD10.out.keep2 (S := fun k => k = w.heap.size) (DKept.set DKept.refl rfl) (by rintro k rfl; omega)
        case rest =>
        obtain ⟨A10, c10, HK10, HO10, HB10, HF10, HD10⟩ := hcut
        obtain ⟨w10, hww⟩ : ∃ w10 : World, w10 = wc := ⟨_, rfl⟩
        rw [← hww] at HK10 HO10 HB10 HF10 HD10 ⊢
        clear hww c4 fz4 c4a y0 y1 y2 hsz8
        have hxl := HXL.out
        have hz := fsize_nat hxl.1
        have CZ : Hid (Calls Try.prog 65 #[.int .i64 (x.b.length : Int)] w10 fun e w' => e = .returned (.int .i64 (fsz x.b.length : Nat)) ∧ w10 = w') := Lib.hid (by rw [← hz]; exact rsize_any w10 _ (by omega) (by omega))
        have y2 : w10.cell? ⟨w5.heap.size, 2, none⟩ = some (.string ⟨x.b.toArray⟩) := (HF10.out.cell 2).trans rfl
        have hsz : (⟨x.b.toArray⟩ : ByteArray).size = x.b.length := rfl
        have hsec := HE.out.2.1
        have hl17 := fsz_le hxl.1
        have es : IntKind.i64.wrap ((A.used : Int) + (fsz x.b.length : Nat)) = (((A.more x).used : Nat) : Int) := (IntWalk.i64_in _ (by have := HL.out; have := HFIT.out; omega)).trans (by show _ = ((A.used + fsz x.b.length : Nat) : Int); simp)
        have hbl : x.b.length ≤ 1000 := hxl.1
        have HFP : Hid (1 ≤ fsz x.b.length ∧ A.used + fsz x.b.length ≤ sectors) := Lib.hid ⟨fsz_pos _, by have := hxl.2.1; omega⟩
        obtain ⟨u2, hu2⟩ : ∃ u2, u2 = (A.more x).used := ⟨_, rfl⟩
        rw [← hu2] at es
        have HU2 : Hid (u2 = A.used + fsz x.b.length) := Lib.hid hu2
        generalize hfz : fsz x.b.length = fz at *
        have HFZ := Lib.hid hfz
        clear hz hxl hsec hl17 hu2 hfz
        go_wp2_with fail
        refine CZ.out.mono ?_
        rintro e w11 ⟨rfl, rfl⟩
        go_wp2_with fail
        go_roundg (sectors + 1 - u2)
        case measure => have h1 := HFP.out; have h2 := HM.out; have h3 := HU2.out; omega
        case rel =>
          have h3 := HU2.out
          have h1 := HFP.out
          have hm2 := HSM.out.more HXL.out.1
          have hu2 : u2 = (A.more x).used := h3.trans (by show A.used + fz = A.used + fsz x.b.length; rw [HFZ.out])
          refine ⟨A.more x, fs ++ [(x.kind, x.b)], by rw [hu2], by rw [hu2], by rw [← hu2]; omega, Lib.hid ⟨HE.out.1, HE.out.2.1, HE.out.2.2⟩, Lib.hid ⟨Nat.le_refl _, A10, c10, ?_, ?_⟩, Lib.hid hm2, HD10, HB10, Lib.hid ?_⟩
          · rw [List.length_append, ← HN.out]
            exact HK10.out
          · rw [List.length_append, ← HN.out, recF_app, Nat.zero_add, ← HSM.out.2.1]
            exact HO10.out
          · rw [← scanA_more HFX.out HNX.out]; exact HSC.out
theorem ropen_arg (d : Dk) (first sectors : Int) (hd : RDiskAt w rb ra d) (h1 : -9223372036854775808 ≤ sectors) (h2 : sectors ≤ 9223372036854775807) (h3 : first ≤ 9223372036854775807) (hno : first < 0 ∨ sectors < 1 ∨ d.S.length < first ∨ d.S.length - first < sectors) :
    Calls Try.prog 26 #[.pointer (some ⟨rb, 0, none⟩), .int .i64 first, .int .i64 sectors] w fun e w' => e = .returned (.tuple #[.pointer none, .int .i64 1]) ∧ w = w' := by
  obtain ⟨cd, arr, how, hb, -, ha, hac, hdc, hcm, h1', h4096, -, -, harr⟩ := hd
  obtain ⟨e0, e1, -, -, -, e5⟩ := rdisk_cells hb
  clear hb ha hac hdc hcm harr
  by_cases g1 : first < 0
  · have g1' : decide (first < 0) = true := decide_eq_true g1
    clear hno
    go_enter Try.func26, Try.ntmps26
    go_wp2_with fail
    exact bodyPost_ret (v := .tuple #[.pointer none, .int .i64 1]) (by simp [results, Try.results26, go_sem]) rfl ⟨rfl, rfl⟩
  have g1' : decide (first < 0) = false := decide_eq_false g1
  by_cases g2 : sectors < 1
  · have g2' : decide (sectors < 1) = true := decide_eq_true g2
    clear hno
    go_enter Try.func26, Try.ntmps26
    go_wp2_with fail
    exact bodyPost_ret (v := .tuple #[.pointer none, .int .i64 1]) (by simp [results, Try.results26, go_sem]) rfl ⟨rfl, rfl⟩
  have g2' : decide (sectors < 1) = false := decide_eq_false g2
  by_cases g3 : (d.S.length : Int) < sectors
  · have g3' : decide ((d.S.length : Int) < sectors) = true := decide_eq_true g3
    clear hno
    go_enter Try.func26, Try.ntmps26
    go_wp2_with fail
    exact bodyPost_ret (v := .tuple #[.pointer none, .int .i64 1]) (by simp [results, Try.results26, go_sem]) rfl ⟨rfl, rfl⟩
  have g3' : decide ((d.S.length : Int) < sectors) = false := decide_eq_false g3
  have g4 : (d.S.length : Int) - sectors < first := by omega
  have g4' : decide ((d.S.length : Int) - sectors < first) = true := decide_eq_true g4
  have ew : IntKind.i64.wrap ((d.S.length : Int) - sectors) = (d.S.length : Int) - sectors := IntWalk.i64_in _ (by omega)
  clear hno
  go_enter Try.func26, Try.ntmps26
  go_wp2_with fail
  exact bodyPost_ret (v := .tuple #[.pointer none, .int .i64 1]) (by simp [results, Try.results26, go_sem]) rfl ⟨rfl, rfl⟩
theorem ropen_off (d : Dk) (first sectors : Nat) (hd : RDiskAt w rb ra d) (h1 : 1 ≤ sectors) (hfit : first + sectors ≤ d.S.length) (hoff : d.off = true) :
    Calls Try.prog 26 #[.pointer (some ⟨rb, 0, none⟩), .int .i64 (first : Int), .int .i64 (sectors : Int)] w fun e w' => e = .returned (.tuple #[.pointer none, .int .i64 4]) ∧ w = w' := by
  obtain ⟨cd, arr, how, hb, -, ha, hac, hdc, hcm, h1', h4096, -, -, harr⟩ := hd
  obtain ⟨e0, e1, -, -, -, e5⟩ := rdisk_cells hb
  rw [hoff] at e1
  have g1 : decide ((first : Int) < 0) = false := decide_eq_false (by omega)
  have g2 : decide ((sectors : Int) < 1) = false := decide_eq_false (by omega)
  have g3 : decide (d.S.length < sectors) = false := decide_eq_false (by omega)
  have g3' : decide ((d.S.length : Int) < (sectors : Int)) = false := decide_eq_false (by omega)
  have ew1 : IntKind.i64.wrap ((d.S.length : Int) - (sectors : Int)) = (d.S.length : Int) - (sectors : Int) := IntWalk.i64_in _ (by omega)
  have g4 : decide ((d.S.length : Int) - (sectors : Int) < (first : Int)) = false := decide_eq_false (by omega)
  clear hb ha hac hdc hcm harr
  go_enter Try.func26, Try.ntmps26
  go_wp2_with fail
  exact bodyPost_ret (v := .tuple #[.pointer none, .int .i64 4]) (by simp [results, Try.results26, go_sem]) rfl ⟨rfl, rfl⟩
end
end Go.Proofs.Ytlbikfamjogpnaa
end

/- A walk through a region that draws its order, at a place where two operations may come up. Conditions: none. -/
section
namespace Go.Proofs.Ytlbikfamjogpnaa
open Go.RowKit
set_option linter.unusedVariables false
section
variable {P : Program} {md : Region.Mode} {ops : Array Oper} {Q : Exit → Act → World → Prop} {j0 : Nat}
/-- Two operations may come up (no maker is pending): each is walked. -/
theorem walk_fork {F : Nat → Prop} {f : Nat} {l : Array Bool} {a : Act} {S T : World → Prop} (i j : Nat) {oi oj : Oper} (hi : ops[i]? = some oi) (hj : ops[j]? = some oj) (hr : Region.ready md ops l = [i, j])
    (h1 : ∀ W, T W → ∀ K' : Act → World → Prop, Shut (∀ a' W' S' T' F', (∀ V, S' V → S V) → (∀ V, T' V → S' V) → (∀ V, T' V → F' V.heap.size) → T' W' → Closed T' → WalkS P md ops Q j0 F' f [] (l.setIfInBounds i true) a' S' T' → K' a' W') →
      if Region.wanted oi (yielded ops a.tmps) = true then Oper.wp P oi a W K' Q else K' (a.put oi.dst undef) W)
    (h2 : ∀ W, T W → ∀ K' : Act → World → Prop, Shut (∀ a' W' S' T' F', (∀ V, S' V → S V) → (∀ V, T' V → S' V) → (∀ V, T' V → F' V.heap.size) → T' W' → Closed T' → WalkS P md ops Q j0 F' f [] (l.setIfInBounds j true) a' S' T' → K' a' W') →
      if Region.wanted oj (yielded ops a.tmps) = true then Oper.wp P oj a W K' Q else K' (a.put oj.dst undef) W) : WalkS P md ops Q j0 F (f + 1) [] l a S T := by
  have nl : ∀ (F' : Nat → Prop) (W' : World), Lies F' W' [] := fun _ _ => ⟨(fun _ h => by cases h), List.nodup_nil⟩
  refine walk_exit fun W hW => ⟨fun h0 => (by rw [hr] at h0; cases h0), fun k hk => ?_⟩
  rw [hr] at hk
  rcases List.mem_cons.1 hk with rfl | hk
  · exact wpOp_step hi fun K' hK => h1 W hW K' fun a' W' S' T' F' c1 c2 c3 c4 c5 hw => hK a' W' ⟨fun _ _ => c1 _ (c2 _ c4), wpAnyJ_weak c1 _ _ _ _ (hw c3 c2 c5 (fun m hm => by cases hm) [] [] W' (List.Perm.refl _) c4 (nl _ _))⟩
  · obtain rfl : k = j := by simpa using hk
    exact wpOp_step hj fun K' hK => h2 W hW K' fun a' W' S' T' F' c1 c2 c3 c4 c5 hw => hK a' W' ⟨fun _ _ => c1 _ (c2 _ c4), wpAnyJ_weak c1 _ _ _ _ (hw c3 c2 c5 (fun m hm => by cases hm) [] [] W' (List.Perm.refl _) c4 (nl _ _))⟩
/-- One operation may come up (no maker is pending). -/
theorem walk_lone {F : Nat → Prop} {f : Nat} {l : Array Bool} {a : Act} {S T : World → Prop} (i : Nat) {oi : Oper} (hi : ops[i]? = some oi) (hr : Region.ready md ops l = [i])
    (h1 : ∀ W, T W → ∀ K' : Act → World → Prop, Shut (∀ a' W' S' T' F', (∀ V, S' V → S V) → (∀ V, T' V → S' V) → (∀ V, T' V → F' V.heap.size) → T' W' → Closed T' → WalkS P md ops Q j0 F' f [] (l.setIfInBounds i true) a' S' T' → K' a' W') →
      if Region.wanted oi (yielded ops a.tmps) = true then Oper.wp P oi a W K' Q else K' (a.put oi.dst undef) W) : WalkS P md ops Q j0 F (f + 1) [] l a S T := by
  have nl : ∀ (F' : Nat → Prop) (W' : World), Lies F' W' [] := fun _ _ => ⟨(fun _ h => by cases h), List.nodup_nil⟩
  refine walk_exit fun W hW => ⟨fun h0 => (by rw [hr] at h0; cases h0), fun k hk => ?_⟩
  rw [hr] at hk
  obtain rfl : k = i := by simpa using hk
  exact wpOp_step hi fun K' hK => h1 W hW K' fun a' W' S' T' F' c1 c2 c3 c4 c5 hw => hK a' W' ⟨fun _ _ => c1 _ (c2 _ c4), wpAnyJ_weak c1 _ _ _ _ (hw c3 c2 c5 (fun m hm => by cases hm) [] [] W' (List.Perm.refl _) c4 (nl _ _))⟩
end
end Go.Proofs.Ytlbikfamjogpnaa
end

/- The reference's Add. Conditions: an area and its disk lie in memory; the area lies on the disk. -/
section
namespace Go.Proofs.Ytlbikfamjogpnaa
open Go.RowKit
set_option linter.unusedVariables false
set_option linter.unusedSimpArgs false

def RAB (w : World) (q : Nat) (k : Nat) : Prop := k = q ∨ ∃ n c, w.cell? ⟨q, 4, none⟩ = some (.slice (some ⟨k, 0, none⟩) n c)
/-- What the reference's Add does. -/
def RAddPost (w : World) (B q rb ra : Nat) (A : Ar) (fs : List (UInt8 × List UInt8)) (d : Dk) (kind : UInt8) (bs : List UInt8) (e : Ending) (w' : World) : Prop :=
  if 1000 < bs.length then e = .returned (.tuple #[.int .i64 0, .int .i64 2]) ∧ Below w.heap.size w w'
  else if A.lives ≠ d.lives then e = .returned (.tuple #[.int .i64 0, .int .i64 4]) ∧ Below w.heap.size w w'
  else if A.sectors < A.used + fsz bs.length then e = .returned (.tuple #[.int .i64 0, .int .i64 6]) ∧ Below w.heap.size w w'
  else ∃ hl : fsz bs.length ≤ 4096, ∃ r, r = wrun (A.first + A.used) (layB kind A.life A.ats.length bs (fsz bs.length - 1)) d (downs (fsz bs.length) hl (fsz bs.length)) ∧
    e = .returned (.tuple #[.int .i64 (if r.2 = 0 then (A.used : Int) else 0), .int .i64 r.2]) ∧ RDiskAt w' rb ra r.1 ∧
    RAreaAt w' B q rb (if r.2 = 0 then { A with ats := A.ats ++ [A.used], used := A.used + fsz bs.length } else A) (if r.2 = 0 then fs ++ [(kind, bs)] else fs) ∧ DKept (fun k => DS rb ra k ∨ RAB w q k) w w'
theorem rad_long {w w' : World} {B q rb ra : Nat} {A : Ar} {fs : List (UInt8 × List UInt8)} {d : Dk} {kind : UInt8} {bs : List UInt8} {e : Ending} (h : 1000 < bs.length) (he : e = .returned (.tuple #[.int .i64 0, .int .i64 2]) ∧ Below w.heap.size w w') : RAddPost w B q rb ra A fs d kind bs e w' := by
  unfold RAddPost
  rw [if_pos h]
  exact he
theorem rad_off {w w' : World} {B q rb ra : Nat} {A : Ar} {fs : List (UInt8 × List UInt8)} {d : Dk} {kind : UInt8} {bs : List UInt8} {e : Ending} (h : ¬ 1000 < bs.length) (h2 : A.lives ≠ d.lives) (he : e = .returned (.tuple #[.int .i64 0, .int .i64 4]) ∧ Below w.heap.size w w') : RAddPost w B q rb ra A fs d kind bs e w' := by
  unfold RAddPost
  rw [if_neg h, if_pos h2]
  exact he
theorem rad_full {w w' : World} {B q rb ra : Nat} {A : Ar} {fs : List (UInt8 × List UInt8)} {d : Dk} {kind : UInt8} {bs : List UInt8} {e : Ending} (h : ¬ 1000 < bs.length) (h2 : A.lives = d.lives) (h3 : A.sectors < A.used + fsz bs.length) (he : e = .returned (.tuple #[.int .i64 0, .int .i64 6]) ∧ Below w.heap.size w w') : RAddPost w B q rb ra A fs d kind bs e w' := by
  unfold RAddPost
  rw [if_neg h, if_neg (fun h => h h2), if_pos h3]
  exact he
theorem rad_run {w w' : World} {B q rb ra : Nat} {A : Ar} {fs : List (UInt8 × List UInt8)} {d : Dk} {kind : UInt8} {bs : List UInt8} {e : Ending} (h : ¬ 1000 < bs.length) (h2 : A.lives = d.lives) (h3 : A.used + fsz bs.length ≤ A.sectors) (hl : fsz bs.length ≤ 4096) (r : Dk × Int)
    (hr : r = wrun (A.first + A.used) (layB kind A.life A.ats.length bs (fsz bs.length - 1)) d (downs (fsz bs.length) hl (fsz bs.length)))
    (he : e = .returned (.tuple #[.int .i64 (if r.2 = 0 then (A.used : Int) else 0), .int .i64 r.2])) (hd : RDiskAt w' rb ra r.1)
    (ha : RAreaAt w' B q rb (if r.2 = 0 then { A with ats := A.ats ++ [A.used], used := A.used + fsz bs.length } else A) (if r.2 = 0 then fs ++ [(kind, bs)] else fs)) (hk : DKept (fun k => DS rb ra k ∨ RAB w q k) w w') : RAddPost w B q rb ra A fs d kind bs e w' := by
  unfold RAddPost
  rw [if_neg h, if_neg (fun h => h h2), if_neg (by omega)]
  exact ⟨hl, r, hr, he, hd, ha, hk⟩
theorem fsz_tight {n : Nat} (h : 2 ≤ fsz n) : 44 + 63 * (fsz n - 2) ≤ n := by
  unfold fsz at *
  split at h
  · omega
  · rename_i hn
    rw [if_neg hn]
    omega

theorem RAreaAt.disk {w w' : World} {B q rb ra : Nat} {A : Ar} {fs : List (UInt8 × List UInt8)} {d : Dk} (h : RAreaAt w B q rb A fs) (hd : RDiskAt w rb ra d) (hk : DKept (DS rb ra) w w') : RAreaAt w' B q rb A fs := by
  obtain ⟨h0, Lt, c, hA, ho⟩ := h
  obtain ⟨cd, arr, how, hb, _, ha, _⟩ := hd
  refine ⟨h0, Lt, c, hk.blk hA ?_, own_keep ho fun g hg => hk.block g (ho.lt g hg).2 ?_⟩
  · rintro (e | e)
    · exact (hA.ne_ hb (by decide)) e
    · exact (hA.ne_ ha (by decide)) e
  · rintro (e | e)
    · exact own_blk_ne ho hb (by decide) (e ▸ hg)
    · exact own_blk_ne ho ha (by decide) (e ▸ hg)
section
variable {w : World} {B q rb ra : Nat} {A : Ar} {fs : List (UInt8 × List UInt8)}
set_option maxRecDepth 100000 in
set_option maxHeartbeats 8000000 in
theorem radd_any (d : Dk) (kind : UInt8) (bs : List UInt8) (h : RAreaAt w B q rb A fs) (hsm : Same A fs) (hd : RDiskAt w rb ra d) (hfit : A.first + A.sectors ≤ d.S.length) (hus : A.used ≤ A.sectors) (hbl : bs.length ≤ 100000) :
    Calls Try.prog 27 #[.pointer (some ⟨q, 0, none⟩), .int .u8 (kind.toNat : Int), .string ⟨bs.toArray⟩] w (RAddPost w B q rb ra A fs d kind bs) := by
  have HA := Lib.hid h
  have HD := Lib.hid hd
  have HSM := Lib.hid hsm
  obtain ⟨h0, Lt, c, hk, ho⟩ := h
  obtain ⟨cd, arr, how, hb, -, ha, hac, hdc, hcm, h1', h4096, -, -, harr⟩ := hd
  have HB := Lib.hid hb
  have HK := Lib.hid hk
  have HO := Lib.hid ho
  have HFIT := Lib.hid hfit
  have HUS := Lib.hid hus
  have HL := Lib.hid h4096
  have hsz : (⟨bs.toArray⟩ : ByteArray).size = bs.length := rfl
  obtain ⟨c0, c1, c2, c3, c4, c5⟩ := rarea_cells hk
  obtain ⟨-, -, -, -, -, e5⟩ := rdisk_cells hb
  have hnn : fs.length = A.ats.length := by rw [hsm.1, offsL_len]
  have hnu : fs.length ≤ A.used := by rw [hsm.2.1]; exact offs_ge fs _ (Nat.le_refl _)
  have HNN := Lib.hid hnn
  obtain ⟨n, hn⟩ : ∃ n, n = fs.length := ⟨_, rfl⟩
  have HN := Lib.hid hn
  have hn4096 : n ≤ 4096 := by omega
  rw [← hn] at c4
  clear h0 hk ho hb ha hac hcm harr hsm hnn hnu hn hfit hus h4096 hdc h1'
  have ho' := HO.out
  rw [← HN.out] at ho'
  have HO' := Lib.hid ho'
  clear ho'
  by_cases hbig : 1000 < bs.length
  · have g1 : decide (1000 < bs.length) = true := decide_eq_true hbig
    have g1' : decide ((1000 : Int) < (bs.length : Int)) = true := decide_eq_true (by omega)
    have HBIG := Lib.hid hbig
    clear hbig
    go_enter Try.func27, Try.ntmps27
    go_wp2_with fail
    go_ret2
    exact rad_long HBIG.out ⟨rfl, Below.refl _ _⟩
  have g1 : decide (1000 < bs.length) = false := decide_eq_false hbig
  have g1' : decide ((1000 : Int) < (bs.length : Int)) = false := decide_eq_false (by omega)
  have hbl2 : bs.length ≤ 1000 := by omega
  have HBIG := Lib.hid hbig
  clear hbig
  by_cases hlv : A.lives = d.lives
  · have g2 : (d.lives != A.lives) = false := by rw [hlv]; simp
    have HLV := Lib.hid hlv
    clear hlv
    go_enter Try.func27, Try.ntmps27
    go_wp2_with fail
    go_quiet (fail)
    generalize hW1 : World.drewN w _ = W1
    have HW1 : Hid (Later w W1) := Lib.hid (by rw [← hW1]; exact below_dn _ _)
    clear hW1 c0 c1 c2 c3 c4 c5 e5 g2
    have CU := Lib.hid (used_any (HA.out.below HW1.out) HSM.out.2.2 (by rw [← HSM.out.2.1]; have := HUS.out; have := HFIT.out; have := HL.out; omega))
    rw [← HSM.out.2.1] at CU
    have CZ : Hid (∀ V, Calls Try.prog 65 #[.int .i64 (bs.length : Int)] V fun e w' => e = .returned (.int .i64 (fsz bs.length : Nat)) ∧ V = w') := Lib.hid (fun V => by rw [← fsize_nat hbl2]; exact rsize_any V _ (by omega) (by omega))
    obtain ⟨c0, c1, c2, c3, c4, c5⟩ := rarea_cells (HK.out.below HW1.out HK.out.lt)
    rw [← HN.out] at c4
    have hfp := fsz_pos bs.length
    have hf17 := fsz_le hbl2
    have hft := @fsz_tight bs.length
    have hfr := @fsz_room bs.length
    obtain ⟨fz, hfz⟩ : ∃ fz, fz = fsz bs.length := ⟨_, rfl⟩
    rw [← hfz] at CZ hfp hf17 hft hfr
    have HFZ := Lib.hid hfz
    have HFT := Lib.hid hft
    have es : IntKind.i64.wrap ((A.sectors : Int) - (A.used : Int)) = (A.sectors : Int) - (A.used : Int) := IntWalk.i64_in _ (by have := HUS.out; have := HFIT.out; have := HL.out; omega)
    clear hfz hft
    go_wp2_with fail
    refine CU.out.mono ?_
    rintro e w' ⟨rfl, rfl⟩
    clear CU
    go_wp2_with fail
    refine (CZ.out _).mono ?_
    rintro e w' ⟨rfl, rfl⟩
    by_cases hroom : A.sectors < A.used + fz
    · have g5 : decide ((A.sectors : Int) - (A.used : Int) < (fz : Int)) = true := decide_eq_true (by omega)
      have HRM := Lib.hid hroom
      clear hroom
      go_wp2_with fail
      go_ret2
      exact rad_full HBIG.out HLV.out (by rw [← HFZ.out]; exact HRM.out) ⟨rfl, HW1.out⟩
    have g5 : decide ((A.sectors : Int) - (A.used : Int) < (fz : Int)) = false := decide_eq_false (by omega)
    have HRM := Lib.hid hroom
    clear hroom
    have hfz4 : fz ≤ 4096 := by omega
    go_wp2_with fail
    go_upto_region 9 with fail
    obtain ⟨h0, hh0⟩ : ∃ h0 : List UInt8, h0 = [72, kind] := ⟨_, rfl⟩
    obtain ⟨l8, hl8⟩ : ∃ l, l = leB A.life 8 := ⟨_, rfl⟩
    obtain ⟨l4, hl4⟩ : ∃ l, l = leB n 4 := ⟨_, rfl⟩
    obtain ⟨l2, hl2⟩ : ∃ l, l = leB bs.length 2 := ⟨_, rfl⟩
    have len0 : h0.length ≤ 2 := by rw [hh0]; exact Nat.le_refl _
    have len8 : l8.length ≤ 8 := by rw [hl8, leB_len]; exact Nat.le_refl _
    have len4 : l4.length ≤ 4 := by rw [hl4, leB_len]; exact Nat.le_refl _
    have len2 : l2.length ≤ 2 := by rw [hl2, leB_len]; exact Nat.le_refl _
    have CL8 : Hid (∀ V : World, Calls Try.prog 67 #[.int .u64 (A.life : Int), .int .i64 8] V fun e w' => e = .returned (.string ⟨l8.toArray⟩) ∧ Below V.heap.size V w') := Lib.hid (fun V => by rw [hl8]; exact rlow_any V A.life 8 (by omega))
    have CL4 : Hid (∀ V : World, Calls Try.prog 67 #[.int .u64 (n : Int), .int .i64 4] V fun e w' => e = .returned (.string ⟨l4.toArray⟩) ∧ Below V.heap.size V w') := Lib.hid (fun V => by rw [hl4]; exact rlow_any V n 4 (by omega))
    have CL2 : Hid (∀ V : World, Calls Try.prog 67 #[.int .u64 (bs.length : Int), .int .i64 2] V fun e w' => e = .returned (.string ⟨l2.toArray⟩) ∧ Below V.heap.size V w') := Lib.hid (fun V => by rw [hl2]; exact rlow_any V bs.length 2 (by omega))
    obtain ⟨m1, hm1⟩ : ∃ m, m = h0 ++ l8 := ⟨_, rfl⟩
    obtain ⟨m2, hm2⟩ : ∃ m, m = m1 ++ l4 := ⟨_, rfl⟩
    obtain ⟨m3, hm3⟩ : ∃ m, m = m2 ++ l2 := ⟨_, rfl⟩
    have k1 := str_cat h0 l8
    have k2 := str_cat m1 l4
    have k3 := str_cat m2 l2
    rw [← hm1] at k1
    rw [← hm2] at k2
    rw [← hm3] at k3
    have lm1 : m1.length ≤ 10 := by rw [hm1, List.length_append]; omega
    have lm2 : m2.length ≤ 14 := by rw [hm2, List.length_append]; omega
    have lm3 : m3.length ≤ 16 := by rw [hm3, List.length_append]; omega
    have q1 : (9223372036854775807 < h0.length + l8.length) = False := eq_false (by omega)
    have q2 : (9223372036854775807 < m1.length + l4.length) = False := eq_false (by omega)
    have q3 : (9223372036854775807 < m2.length + l2.length) = False := eq_false (by omega)
    have HM3 : Hid (m3 = headB kind A.life n bs) := Lib.hid (by rw [hm3, hm2, hm1, hh0, hl8, hl4, hl2]; rfl)
    have HH0 := Lib.hid hh0
    have eu4 : IntKind.u64.wrap (n : Int) = (n : Int) := by rw [IntKind.wrap_u64]; omega
    have eu2 : IntKind.u64.wrap (bs.length : Int) = (bs.length : Int) := by rw [IntKind.wrap_u64]; omega
    have SF : Hid (∀ V, Later W1 V → V.cell? ⟨q, 3, none⟩ = some (.int .u64 (A.life : Int)) ∧ V.cell? ⟨q, 4, none⟩ = some (.slice Lt n c)) := Lib.hid fun V hV => by
      obtain ⟨-, -, -, c3, c4, -⟩ := rarea_cells (HK.out.below (HW1.out.trans hV) HK.out.lt)
      rw [← HN.out] at c4
      exact ⟨c3, c4⟩
    clear hh0 hl8 hl4 hl2 hm1 hm2 hm3 c0 c1 c2 c3 c4 c5 g1 g1' g5 es
    have CV : Hid (∀ (V : World) (r : Nat), Blk V r 5 #[.int .u8 72, .int .u8 (kind.toNat : Int)] → (convert 36 9 (.slice (some ⟨r, 0, none⟩) 2 2)).run Try.prog V = .ok (.string ⟨h0.toArray⟩) V) := Lib.hid (fun V r hbr => run_string_of V 36 9 5 Try.underlying36 Try.underlying5 Try.underlying9 (c := 2) (by rw [HH0.out]; exact (bts_blk (l := [72, kind]) hbr rfl (by show 2 ≤ maxLen; unfold maxLen; omega)).2.1))
    go_cut [10] (fun sv wx => sv = .string ⟨m3.toArray⟩ ∧ Hid (Later W1 wx))
    case first =>
      -- REGION9
      have HLW1 := Lib.hid (Later.refl W1)
      refine walk_start 23 (S := Later W1) (T := Later W1) (by kernel_rfl) (fun _ => True) (fun _ _ => trivial) (fun _ h => h) (closed_later _) (Later.refl _).drew ?_
      refine wt 0 46 ?_ (fun V hV => ?_) ?_
      rotate_left 1
      · (clear hV; go_simp; (try with_reducible rfl))
      try simp only [pa, List.set]
      refine wt 3 49 ?_ (fun V hV => ?_) ?_
      rotate_left 1
      · (clear hV; go_simp; (try with_reducible rfl))
      try simp only [pa, List.set]
      refine wt 4 50 ?_ (fun V hV => ?_) ?_
      rotate_left 1
      · (clear hV; go_simp; (try with_reducible rfl))
      try simp only [pa, List.set]
      refine wt 5 51 ?_ (fun V hV => ?_) ?_
      rotate_left 1
      · (clear hV; go_simp; (try with_reducible rfl))
      try simp only [pa, List.set]
      refine wt 6 52 ?_ (fun V hV => ?_) ?_
      rotate_left 1
      · (obtain ⟨s3, s4⟩ := SF.out V hV; clear hV; go_simp; (try with_reducible rfl))
      try simp only [pa, List.set]
      refine wt 9 55 ?_ (fun V hV => ?_) ?_
      rotate_left 1
      · (clear hV; go_simp; (try with_reducible rfl))
      try simp only [pa, List.set]
      refine wt 10 56 ?_ (fun V hV => ?_) ?_
      rotate_left 1
      · (clear hV; go_simp; (try with_reducible rfl))
      try simp only [pa, List.set]
      refine wt 11 57 ?_ (fun V hV => ?_) ?_
      rotate_left 1
      · (clear hV; go_simp; (try with_reducible rfl))
      try simp only [pa, List.set]
      refine wt 12 58 ?_ (fun V hV => ?_) ?_
      rotate_left 1
      · (obtain ⟨s3, s4⟩ := SF.out V hV; clear hV; go_simp; (try with_reducible rfl))
      try simp only [pa, List.set]
      refine wt 13 59 ?_ (fun V hV => ?_) ?_
      rotate_left 1
      · (clear hV; go_simp; (try with_reducible rfl))
      try simp only [pa, List.set]
      refine wt 14 60 ?_ (fun V hV => ?_) ?_
      rotate_left 1
      · (clear hV; go_simp; (try with_reducible rfl))
      try simp only [pa, List.set]
      refine wt 17 63 ?_ (fun V hV => ?_) ?_
      rotate_left 1
      · (clear hV; go_simp; (try with_reducible rfl))
      try simp only [pa, List.set]
      refine wt 18 64 ?_ (fun V hV => ?_) ?_
      rotate_left 1
      · (clear hV; go_simp; (try with_reducible rfl))
      try simp only [pa, List.set]
      refine wt 19 65 ?_ (fun V hV => ?_) ?_
      rotate_left 1
      · (clear hV; go_simp; (try with_reducible rfl))
      try simp only [pa, List.set]
      refine walk_fork 1 7 rfl rfl (by kernel_rfl) (fun V hV K hK => ?_) (fun V hV K hK => ?_)
      ·
        go_simp
        obtain ⟨y1, hy1⟩ : ∃ y1, y1 = V.alloc (.cells #[.int .u8 72, .int .u8 (kind.toNat : Int)] 5) := ⟨_, rfl⟩
        rw [← hy1]
        obtain ⟨r1, hr1⟩ : ∃ r1, r1 = V.heap.size := ⟨_, rfl⟩
        rw [← hr1]
        have HBr : Hid (Blk y1 r1 5 #[.int .u8 72, .int .u8 (kind.toNat : Int)]) := Lib.hid (by rw [hy1, hr1]; exact Blk.new _ _ _)
        have HT : Later W1 y1 := by rw [hy1]; exact hV.alloc _
        refine hK.out _ _ (Later y1) (Later y1) (fun _ => True) (fun V' h => HT.trans h) (fun _ h => h) (fun _ _ => trivial) (Later.refl _) (closed_later _) ?_
        have HLy1 := Lib.hid (HLW1.out.trans HT)
        clear hK K hV HT hy1 hr1
        try simp only [pa, List.set]
        refine wt 2 48 ?_ (fun V hV => ?_) ?_
        rotate_left 1
        · (have cv := CV.out V r1 (HBr.out.below hV HBr.out.lt); clear hV; go_simp; (try with_reducible rfl))
        try simp only [pa, List.set]
        refine walk_lone 7 rfl (by kernel_rfl) (fun V hV K hK => ?_)
        go_simp
        go_at_call 67
        go_must (refine (CL8.out V).mono ?_)
        rintro e y7 ⟨rfl, hb⟩
        have HT : Later y1 y7 := hV.of hb
        refine hK.out _ _ (Later y7) (Later y7) (fun _ => True) (fun V' h => HT.trans h) (fun _ h => h) (fun _ _ => trivial) (Later.refl _) (closed_later _) ?_
        have HLy7 := Lib.hid (HLy1.out.trans HT)
        clear hK K hV HT hb
        try simp only [pa, List.set]
        refine wt 8 54 ?_ (fun V hV => ?_) ?_
        rotate_left 1
        · (clear hV; go_simp; (try with_reducible rfl))
        try simp only [pa, List.set]
        refine walk_lone 15 rfl (by kernel_rfl) (fun V hV K hK => ?_)
        go_simp
        go_at_call 67
        go_must (refine (CL4.out V).mono ?_)
        rintro e y15 ⟨rfl, hb⟩
        have HT : Later y7 y15 := hV.of hb
        refine hK.out _ _ (Later y15) (Later y15) (fun _ => True) (fun V' h => HT.trans h) (fun _ h => h) (fun _ _ => trivial) (Later.refl _) (closed_later _) ?_
        have HLy15 := Lib.hid (HLy7.out.trans HT)
        clear hK K hV HT hb
        try simp only [pa, List.set]
        refine wt 16 62 ?_ (fun V hV => ?_) ?_
        rotate_left 1
        · (clear hV; go_simp; (try with_reducible rfl))
        try simp only [pa, List.set]
        refine walk_lone 20 rfl (by kernel_rfl) (fun V hV K hK => ?_)
        go_simp
        go_at_call 67
        go_must (refine (CL2.out V).mono ?_)
        rintro e y20 ⟨rfl, hb⟩
        have HT : Later y15 y20 := hV.of hb
        refine hK.out _ _ (Later y20) (Later y20) (fun _ => True) (fun V' h => HT.trans h) (fun _ h => h) (fun _ _ => trivial) (Later.refl _) (closed_later _) ?_
        have HLy20 := Lib.hid (HLy15.out.trans HT)
        clear hK K hV HT hb
        try simp only [pa, List.set]
        refine wt 21 67 ?_ (fun V hV => ?_) ?_
        rotate_left 1
        · (clear hV; go_simp; (try with_reducible rfl))
        try simp only [pa, List.set]
        refine wt 22 10 ?_ (fun V hV => ?_) ?_
        rotate_left 1
        · (clear hV; go_simp; (try with_reducible rfl))
        try simp only [pa, List.set]
        refine walk_exit (fun V hV => wpAnyJ_done (by kernel_rfl) ?_ _)
        have HF := Lib.hid (HLy20.out.trans hV)
        clear hV
        go_wp2_with fail
        go_meet
        exact ⟨rfl, HF⟩
      ·
        go_simp
        go_at_call 67
        go_must (refine (CL8.out V).mono ?_)
        rintro e y7 ⟨rfl, hb⟩
        have HT : Later W1 y7 := hV.of hb
        refine hK.out _ _ (Later y7) (Later y7) (fun _ => True) (fun V' h => HT.trans h) (fun _ h => h) (fun _ _ => trivial) (Later.refl _) (closed_later _) ?_
        have HLy7 := Lib.hid (HLW1.out.trans HT)
        clear hK K hV HT hb
        try simp only [pa, List.set]
        refine walk_fork 1 15 rfl rfl (by kernel_rfl) (fun V hV K hK => ?_) (fun V hV K hK => ?_)
        ·
          go_simp
          obtain ⟨y1, hy1⟩ : ∃ y1, y1 = V.alloc (.cells #[.int .u8 72, .int .u8 (kind.toNat : Int)] 5) := ⟨_, rfl⟩
          rw [← hy1]
          obtain ⟨r1, hr1⟩ : ∃ r1, r1 = V.heap.size := ⟨_, rfl⟩
          rw [← hr1]
          have HBr : Hid (Blk y1 r1 5 #[.int .u8 72, .int .u8 (kind.toNat : Int)]) := Lib.hid (by rw [hy1, hr1]; exact Blk.new _ _ _)
          have HT : Later y7 y1 := by rw [hy1]; exact hV.alloc _
          refine hK.out _ _ (Later y1) (Later y1) (fun _ => True) (fun V' h => HT.trans h) (fun _ h => h) (fun _ _ => trivial) (Later.refl _) (closed_later _) ?_
          have HLy1 := Lib.hid (HLy7.out.trans HT)
          clear hK K hV HT hy1 hr1
          try simp only [pa, List.set]
          refine wt 2 48 ?_ (fun V hV => ?_) ?_
          rotate_left 1
          · (have cv := CV.out V r1 (HBr.out.below hV HBr.out.lt); clear hV; go_simp; (try with_reducible rfl))
          try simp only [pa, List.set]
          refine wt 8 54 ?_ (fun V hV => ?_) ?_
          rotate_left 1
          · (clear hV; go_simp; (try with_reducible rfl))
          try simp only [pa, List.set]
          refine walk_lone 15 rfl (by kernel_rfl) (fun V hV K hK => ?_)
          go_simp
          go_at_call 67
          go_must (refine (CL4.out V).mono ?_)
          rintro e y15 ⟨rfl, hb⟩
          have HT : Later y1 y15 := hV.of hb
          refine hK.out _ _ (Later y15) (Later y15) (fun _ => True) (fun V' h => HT.trans h) (fun _ h => h) (fun _ _ => trivial) (Later.refl _) (closed_later _) ?_
          have HLy15 := Lib.hid (HLy1.out.trans HT)
          clear hK K hV HT hb
          try simp only [pa, List.set]
          refine wt 16 62 ?_ (fun V hV => ?_) ?_
          rotate_left 1
          · (clear hV; go_simp; (try with_reducible rfl))
          try simp only [pa, List.set]
          refine walk_lone 20 rfl (by kernel_rfl) (fun V hV K hK => ?_)
          go_simp
          go_at_call 67
          go_must (refine (CL2.out V).mono ?_)
          rintro e y20 ⟨rfl, hb⟩
          have HT : Later y15 y20 := hV.of hb
          refine hK.out _ _ (Later y20) (Later y20) (fun _ => True) (fun V' h => HT.trans h) (fun _ h => h) (fun _ _ => trivial) (Later.refl _) (closed_later _) ?_
          have HLy20 := Lib.hid (HLy15.out.trans HT)
          clear hK K hV HT hb
          try simp only [pa, List.set]
          refine wt 21 67 ?_ (fun V hV => ?_) ?_
          rotate_left 1
          · (clear hV; go_simp; (try with_reducible rfl))
          try simp only [pa, List.set]
          refine wt 22 10 ?_ (fun V hV => ?_) ?_
          rotate_left 1
          · (clear hV; go_simp; (try with_reducible rfl))
          try simp only [pa, List.set]
          refine walk_exit (fun V hV => wpAnyJ_done (by kernel_rfl) ?_ _)
          have HF := Lib.hid (HLy20.out.trans hV)
          clear hV
          go_wp2_with fail
          go_meet
          exact ⟨rfl, HF⟩
        ·
          go_simp
          go_at_call 67
          go_must (refine (CL4.out V).mono ?_)
          rintro e y15 ⟨rfl, hb⟩
          have HT : Later y7 y15 := hV.of hb
          refine hK.out _ _ (Later y15) (Later y15) (fun _ => True) (fun V' h => HT.trans h) (fun _ h => h) (fun _ _ => trivial) (Later.refl _) (closed_later _) ?_
          have HLy15 := Lib.hid (HLy7.out.trans HT)
          clear hK K hV HT hb
          try simp only [pa, List.set]
          refine walk_fork 1 20 rfl rfl (by kernel_rfl) (fun V hV K hK => ?_) (fun V hV K hK => ?_)
          ·
            go_simp
            obtain ⟨y1, hy1⟩ : ∃ y1, y1 = V.alloc (.cells #[.int .u8 72, .int .u8 (kind.toNat : Int)] 5) := ⟨_, rfl⟩
            rw [← hy1]
            obtain ⟨r1, hr1⟩ : ∃ r1, r1 = V.heap.size := ⟨_, rfl⟩
            rw [← hr1]
            have HBr : Hid (Blk y1 r1 5 #[.int .u8 72, .int .u8 (kind.toNat : Int)]) := Lib.hid (by rw [hy1, hr1]; exact Blk.new _ _ _)
            have HT : Later y15 y1 := by rw [hy1]; exact hV.alloc _
            refine hK.out _ _ (Later y1) (Later y1) (fun _ => True) (fun V' h => HT.trans h) (fun _ h => h) (fun _ _ => trivial) (Later.refl _) (closed_later _) ?_
            have HLy1 := Lib.hid (HLy15.out.trans HT)
            clear hK K hV HT hy1 hr1
            try simp only [pa, List.set]
            refine wt 2 48 ?_ (fun V hV => ?_) ?_
            rotate_left 1
            · (have cv := CV.out V r1 (HBr.out.below hV HBr.out.lt); clear hV; go_simp; (try with_reducible rfl))
            try simp only [pa, List.set]
            refine wt 8 54 ?_ (fun V hV => ?_) ?_
            rotate_left 1
            · (clear hV; go_simp; (try with_reducible rfl))
            try simp only [pa, List.set]
            refine wt 16 62 ?_ (fun V hV => ?_) ?_
            rotate_left 1
            · (clear hV; go_simp; (try with_reducible rfl))
            try simp only [pa, List.set]
            refine walk_lone 20 rfl (by kernel_rfl) (fun V hV K hK => ?_)
            go_simp
            go_at_call 67
            go_must (refine (CL2.out V).mono ?_)
            rintro e y20 ⟨rfl, hb⟩
            have HT : Later y1 y20 := hV.of hb
            refine hK.out _ _ (Later y20) (Later y20) (fun _ => True) (fun V' h => HT.trans h) (fun _ h => h) (fun _ _ => trivial) (Later.refl _) (closed_later _) ?_
            have HLy20 := Lib.hid (HLy1.out.trans HT)
            clear hK K hV HT hb
            try simp only [pa, List.set]
            refine wt 21 67 ?_ (fun V hV => ?_) ?_
            rotate_left 1
            · (clear hV; go_simp; (try with_reducible rfl))
            try simp only [pa, List.set]
            refine wt 22 10 ?_ (fun V hV => ?_) ?_
            rotate_left 1
            · (clear hV; go_simp; (try with_reducible rfl))
            try simp only [pa, List.set]
            refine walk_exit (fun V hV => wpAnyJ_done (by kernel_rfl) ?_ _)
            have HF := Lib.hid (HLy20.out.trans hV)
            clear hV
            go_wp2_with fail
            go_meet
            exact ⟨rfl, HF⟩
          ·
            go_simp
            go_at_call 67
            go_must (refine (CL2.out V).mono ?_)
            rintro e y20 ⟨rfl, hb⟩
            have HT : Later y15 y20 := hV.of hb
            refine hK.out _ _ (Later y20) (Later y20) (fun _ => True) (fun V' h => HT.trans h) (fun _ h => h) (fun _ _ => trivial) (Later.refl _) (closed_later _) ?_
            have HLy20 := Lib.hid (HLy15.out.trans HT)
            clear hK K hV HT hb
            try simp only [pa, List.set]
            refine walk_lone 1 rfl (by kernel_rfl) (fun V hV K hK => ?_)
            go_simp
            obtain ⟨y1, hy1⟩ : ∃ y1, y1 = V.alloc (.cells #[.int .u8 72, .int .u8 (kind.toNat : Int)] 5) := ⟨_, rfl⟩
            rw [← hy1]
            obtain ⟨r1, hr1⟩ : ∃ r1, r1 = V.heap.size := ⟨_, rfl⟩
            rw [← hr1]
            have HBr : Hid (Blk y1 r1 5 #[.int .u8 72, .int .u8 (kind.toNat : Int)]) := Lib.hid (by rw [hy1, hr1]; exact Blk.new _ _ _)
            have HT : Later y20 y1 := by rw [hy1]; exact hV.alloc _
            refine hK.out _ _ (Later y1) (Later y1) (fun _ => True) (fun V' h => HT.trans h) (fun _ h => h) (fun _ _ => trivial) (Later.refl _) (closed_later _) ?_
            have HLy1 := Lib.hid (HLy20.out.trans HT)
            clear hK K hV HT hy1 hr1
            try simp only [pa, List.set]
            refine wt 2 48 ?_ (fun V hV => ?_) ?_
            rotate_left 1
            · (have cv := CV.out V r1 (HBr.out.below hV HBr.out.lt); clear hV; go_simp; (try with_reducible rfl))
            try simp only [pa, List.set]
            refine wt 8 54 ?_ (fun V hV => ?_) ?_
            rotate_left 1
            · (clear hV; go_simp; (try with_reducible rfl))
            try simp only [pa, List.set]
            refine wt 16 62 ?_ (fun V hV => ?_) ?_
            rotate_left 1
            · (clear hV; go_simp; (try with_reducible rfl))
            try simp only [pa, List.set]
            refine wt 21 67 ?_ (fun V hV => ?_) ?_
            rotate_left 1
            · (clear hV; go_simp; (try with_reducible rfl))
            try simp only [pa, List.set]
            refine wt 22 10 ?_ (fun V hV => ?_) ?_
            rotate_left 1
            · (clear hV; go_simp; (try with_reducible rfl))
            try simp only [pa, List.set]
            refine walk_exit (fun V hV => wpAnyJ_done (by kernel_rfl) ?_ _)
            have HF := Lib.hid (HLy1.out.trans hV)
            clear hV
            go_wp2_with fail
            go_meet
            exact ⟨rfl, HF⟩
    -- END9
    case rest =>
    obtain ⟨rfl, HWC⟩ := hcut
    obtain ⟨W2, hW2⟩ : ∃ W2 : World, W2 = wc := ⟨_, rfl⟩
    rw [← hW2] at HWC ⊢
    have HV9 := Lib.hid (HW1.out.trans HWC.out)
    clear hW2 HWC k1 k2 k3 q1 q2 q3 len0 len8 len4 len2 lm1 lm2 eu4 eu2 SF CL8 CL4 CL2 HH0 CV
    have hs4 : sumOf (m3 ++ bs) ≤ 4294967295 := Nat.sub_le _ _
    have CS := Lib.hid (rsum_any W2 m3 bs (by omega) (by omega))
    obtain ⟨l4, hl4⟩ : ∃ l, l = leB (sumOf (m3 ++ bs)) 4 := ⟨_, rfl⟩
    rw [← hl4] at CS
    have len4 : l4.length ≤ 4 := by rw [hl4, leB_len]; exact Nat.le_refl _
    obtain ⟨p, hp⟩ : ∃ p, p = m3 ++ l4 := ⟨_, rfl⟩
    have k1 := str_cat m3 l4
    rw [← hp] at k1
    have q1 : (9223372036854775807 < m3.length + l4.length) = False := eq_false (by omega)
    have HP : Hid (p = sealB kind A.life n bs) := Lib.hid (by rw [hp, hl4, HM3.out]; rfl)
    have hpl : p.length ≤ 20 := by rw [hp, List.length_append]; omega
    clear hl4 hp hs4
    go_wp2_with fail
    refine CS.out.mono ?_
    rintro e W3 ⟨rfl, hb3⟩
    have HW3 := Lib.hid (HV9.out.of hb3)
    clear hb3 CS HV9
    have ef : IntKind.i64.wrap ((fz : Int) - 1) = (fz : Int) - 1 := IntWalk.i64_in _ (by omega)
    go_wp2_with fail
    clear k1 q1 ef len4 lm3
    have HD3 := Lib.hid (HD.out.below HW3.out)
    obtain ⟨rows, hrw⟩ : ∃ rows, rows = layB kind A.life n bs (fz - 1) := ⟨_, rfl⟩
    have HRW := Lib.hid hrw
    clear hrw
    go_loopg [12, 13, 14, 15, 16, 17] fz (fun m kv _ _ _ _ _ wr => ∃ j : Nat, j + m = fz ∧ kv = .int .i64 ((fz : Int) - 1 - (j : Int)) ∧ Hid ((wrun (A.first + A.used) rows d (downs fz hfz4 j)).2 = 0) ∧ Hid (RDiskAt wr rb ra (wrun (A.first + A.used) rows d (downs fz hfz4 j)).1) ∧ Hid (DKept (DS rb ra) W3 wr))
    case atStart => exact ⟨0, by omega, by congr 1; omega, Lib.hid rfl, HD3, Lib.hid DKept.refl⟩
    case round =>
      obtain ⟨j, hj, rfl, HOK, HDR, HKR⟩ := hrel
      have HJ := Lib.hid hj
      by_cases hlt : j < fz
      · obtain ⟨kk, hkk⟩ : ∃ kk, kk = fz - 1 - j := ⟨_, rfl⟩
        have ek : (fz : Int) - 1 - (j : Int) = (kk : Int) := by omega
        rw [ek]
        have HKK := Lib.hid hkk
        obtain ⟨row, hrow⟩ : ∃ row, row = rows[kk]?.getD [] := ⟨_, rfl⟩
        have HROW := Lib.hid hrow
        have hkf : kk < fz := by omega
        clear hj ek hkk hrow
        go_upto_if 80 with fail
        go_cut [13] (fun sv wx => sv = .string ⟨row.toArray⟩ ∧ Hid (wx = wr))
        case first =>
          by_cases hk0 : kk = 0
          · have b0 : ((kk : Int) == 0) = true := by rw [hk0]; rfl
            have b0' : (kk == 0) = true := by rw [hk0]; rfl
            have hr0 : row = p ++ bs.take 44 := by rw [HROW.out, HRW.out, hk0, HP.out]; rfl
            clear hk0
            by_cases h44 : 44 < bs.length
            · have b1 : decide (44 < bs.length) = true := decide_eq_true h44
              have b1' : decide ((44 : Int) < (bs.length : Int)) = true := decide_eq_true (by omega)
              have st : ∀ V, (Instr.slice 9 (.string ⟨bs.toArray⟩) none (some (.int .i64 44)) none).run Try.prog V = .ok (.string ⟨(bs.take 44).toArray⟩) V := fun V => str_to V bs 44 (by omega)
              have hx : (bs.take 44).length ≤ 44 := by rw [List.length_take]; omega
              obtain ⟨x, hx9⟩ : ∃ x, x = bs.take 44 := ⟨_, rfl⟩
              rw [← hx9] at st hr0 hx
              have k1 := str_cat p x
              rw [← hr0] at k1
              have q1 : (9223372036854775807 < p.length + x.length) = False := eq_false (by omega)
              clear hx9 hr0 h44
              go_wp2_with fail
              go_meet
              exact ⟨rfl, Lib.hid rfl⟩
            · have b1 : decide (44 < bs.length) = false := decide_eq_false h44
              have b1' : decide ((44 : Int) < (bs.length : Int)) = false := decide_eq_false (by omega)
              have st : ∀ V, (Instr.slice 9 (.string ⟨bs.toArray⟩) none (some (.int .i64 (bs.length : Int))) none).run Try.prog V = .ok (.string ⟨bs.toArray⟩) V := fun V => by
                have := str_to V bs bs.length (Nat.le_refl _)
                rw [List.take_of_length_le (Nat.le_refl _)] at this
                exact this
              rw [List.take_of_length_le (by omega)] at hr0
              have k1 := str_cat p bs
              rw [← hr0] at k1
              have q1 : (9223372036854775807 < p.length + bs.length) = False := eq_false (by omega)
              clear hr0 h44
              go_wp2_with fail
              go_meet
              exact ⟨rfl, Lib.hid rfl⟩
          · have b0 : ((kk : Int) == 0) = false := by simpa using hk0
            have b0' : (kk == 0) = false := by simpa using hk0
            obtain ⟨i, hi⟩ : ∃ i, i = kk - 1 := ⟨_, rfl⟩
            have hft := HFT.out (by omega)
            obtain ⟨f, hf⟩ : ∃ f, f = 44 + 63 * i := ⟨_, rfl⟩
            have hfl : f ≤ bs.length := by omega
            have hr0 : row = 67 :: (bs.drop f).take 63 := by
              rw [HROW.out, HRW.out, layB_tail _ _ _ _ _ _ (by omega) (by omega), ← hi, hf]
              rfl
            have e1 : IntKind.i64.wrap ((kk : Int) - 1) = (i : Int) := (IntWalk.i64_in _ (by omega)).trans (by omega)
            have e2 : IntKind.i64.wrap (63 * (i : Int)) = 63 * (i : Int) := IntWalk.i64_in _ (by omega)
            have e3 : IntKind.i64.wrap (44 + 63 * (i : Int)) = (f : Int) := (IntWalk.i64_in _ (by omega)).trans (by omega)
            obtain ⟨t, ht⟩ : ∃ t, t = f + 63 := ⟨_, rfl⟩
            have e4 : IntKind.i64.wrap ((f : Int) + 63) = (t : Int) := (IntWalk.i64_in _ (by omega)).trans (by omega)
            clear hk0
            by_cases h44 : bs.length < t
            · have b1 : decide (bs.length < t) = true := decide_eq_true h44
              have b1' : decide ((bs.length : Int) < (t : Int)) = true := decide_eq_true (by omega)
              have st := fun V => str_slice V bs f bs.length hfl (Nat.le_refl _)
              have hx : ((bs.drop f).take (bs.length - f)).length ≤ 63 := by rw [List.length_take, List.length_drop]; omega
              have hxe : (bs.drop f).take (bs.length - f) = (bs.drop f).take 63 := by
                rw [List.take_of_length_le (by rw [List.length_drop]; exact Nat.le_refl _), List.take_of_length_le (by rw [List.length_drop]; omega)]
              obtain ⟨x, hx9⟩ : ∃ x, x = (bs.drop f).take (bs.length - f) := ⟨_, rfl⟩
              rw [← hxe, ← hx9] at hr0
              rw [← hx9] at st hx
              have k1 : ({ data := #[67] } : ByteArray) ++ ⟨x.toArray⟩ = ⟨row.toArray⟩ := by rw [hr0]; exact str_cat [67] x
              have q1 : (9223372036854775807 < 1 + x.length) = False := eq_false (by omega)
              clear hx9 hr0 hxe h44 hi hf ht hft hfl
              go_wp2_with fail
              go_meet
              exact ⟨rfl, Lib.hid rfl⟩
            · have b1 : decide (bs.length < t) = false := decide_eq_false h44
              have b1' : decide ((bs.length : Int) < (t : Int)) = false := decide_eq_false (by omega)
              have st := fun V => str_slice V bs f t (by omega) (by omega)
              rw [show t - f = 63 by omega] at st
              have hx : ((bs.drop f).take 63).length ≤ 63 := by rw [List.length_take]; omega
              obtain ⟨x, hx9⟩ : ∃ x, x = (bs.drop f).take 63 := ⟨_, rfl⟩
              rw [← hx9] at hr0 st hx
              have k1 : ({ data := #[67] } : ByteArray) ++ ⟨x.toArray⟩ = ⟨row.toArray⟩ := by rw [hr0]; exact str_cat [67] x
              have q1 : (9223372036854775807 < 1 + x.length) = False := eq_false (by omega)
              clear hx9 hr0 h44 hi hf ht hft hfl
              go_wp2_with fail
              go_meet
              exact ⟨rfl, Lib.hid rfl⟩
        case rest =>
          obtain ⟨rfl, HWC⟩ := hcut
          obtain rfl := HWC.out
          obtain ⟨W5, hW5⟩ : ∃ W5 : World, W5 = wc := ⟨_, rfl⟩
          rw [← hW5] at HDR HKR ⊢
          clear hW5 HWC
          have HQ : Hid (¬ DS rb ra q) := Lib.hid (by
            rintro (e | e)
            · exact (HK.out.ne_ HB.out (by decide)) e
            · obtain ⟨_, _, _, _, _, ha9, _⟩ := HD.out
              exact (HK.out.ne_ ha9 (by decide)) e)
          have hk5 := HKR.out.blk (HK.out.below HW3.out HK.out.lt) HQ.out
          obtain ⟨a0, a1, -, -, -, -⟩ := rarea_cells hk5
          have hrl : row.length ≤ 64 := by rw [HROW.out, HRW.out]; exact layB_rows _ _ _ _ _ _
          have CW : Hid (∀ V : World, V = W5.drew → Calls Try.prog 32 #[.pointer (some ⟨rb, 0, none⟩), .int .i64 ((A.first + A.used + kk : Nat) : Int), .string ⟨row.toArray⟩] V fun e w' => e = .returned (.int .i64 ((wrun (A.first + A.used) rows d (downs fz hfz4 j)).1.write ((A.first + A.used + kk : Nat) : Int) row).2) ∧ RDiskAt w' rb ra ((wrun (A.first + A.used) rows d (downs fz hfz4 j)).1.write ((A.first + A.used + kk : Nat) : Int) row).1 ∧ DKept (DS rb ra) V w') := Lib.hid (fun V hV => rwrite_any _ _ row (by rw [hV]; exact HDR.out.below (Below.refl _ _).drew) (by omega))
          have hbd : A.first + A.used + kk ≤ 100000 := by have := HUS.out; have := HFIT.out; have := HL.out; omega
          have f1 : IntKind.i64.wrap ((A.first : Int) + (A.used : Int)) = ((A.first + A.used : Nat) : Int) := (IntWalk.i64_in _ (by omega)).trans (by simp)
          have f2 : IntKind.i64.wrap (((A.first + A.used : Nat) : Int) + (kk : Int)) = ((A.first + A.used + kk : Nat) : Int) := (IntWalk.i64_in _ (by omega)).trans (by simp)
          go_wp2_with fail
          go_upto_region 25 with fail
          go_still_tail 13, (by kernel_rfl)
          change wpList _ _ _ _ _ W5.drew
          generalize hWd : W5.drew = W6
          have CW6 := Lib.hid (CW.out W6 hWd.symm)
          have hk56 : DKept (DS rb ra) W3 W6 := by rw [← hWd]; exact HKR.out.drew
          have HK6 := Lib.hid hk56
          clear hWd hk56 f1 f2 a0 a1 hk5 CW
          go_wp2_with fail
          refine CW6.out.mono ?_
          rintro e W7 ⟨rfl, hd7, hk7⟩
          have hsn : wrun (A.first + A.used) rows d (downs fz hfz4 (j + 1)) = (wrun (A.first + A.used) rows d (downs fz hfz4 j)).1.write ((A.first + A.used + kk : Nat) : Int) row := by
            rw [downs_succ, wrun_snoc HOK.out, HROW.out, HKK.out]
          rw [← hsn] at hd7
          rw [← hsn]
          have HKZ := Lib.hid (HK6.out.trans hk7 (fun _ _ h => h))
          have HD7 := Lib.hid hd7
          obtain ⟨y, hy⟩ : ∃ y, y = (wrun (A.first + A.used) rows d (downs fz hfz4 (j + 1))).2 := ⟨_, rfl⟩
          rw [← hy]
          have HY := Lib.hid hy
          clear hsn hd7 hk7 hy CW6 hrl hbd
          by_cases hy0 : y = 0
          · have b0 : (y != 0) = false := by rw [hy0]; rfl
            have HY0 := Lib.hid hy0
            clear hy0
            have eg : IntKind.i64.wrap ((kk : Int) - 1) = (kk : Int) - 1 := IntWalk.i64_in _ (by omega)
            go_wp2_with fail
            go_roundg (fz - (j + 1))
            case measure => have := HJ.out; omega
            case rel =>
              have := HJ.out
              have := HKK.out
              exact ⟨j + 1, by omega, by congr 1; omega, Lib.hid (by rw [← HY.out]; exact HY0.out), HD7, HKZ⟩
          · have b0 : (y != 0) = true := by rw [bne_iff_ne]; exact hy0
            have HY0 := Lib.hid hy0
            clear hy0
            go_wp2_with fail
            go_ret2
            have hfull : wrun (A.first + A.used) (layB kind A.life A.ats.length bs (fsz bs.length - 1)) d (downs (fsz bs.length) (by rw [← HFZ.out]; exact hfz4) (fsz bs.length)) = wrun (A.first + A.used) rows d (downs fz hfz4 fz) := by
              have h1 := HFZ.out
              subst h1
              rw [HRW.out, HN.out, HNN.out]
            have hst := wrun_stop (base := A.first + A.used) (rows := rows) (d := d) (n := fz) (hn := hfz4) (k := j + 1) (by omega) (by rw [← HY.out]; exact HY0.out)
            refine rad_run HBIG.out HLV.out (by rw [← HFZ.out]; have := HRM.out; omega) (by rw [← HFZ.out]; exact hfz4) (wrun (A.first + A.used) rows d (downs fz hfz4 (j + 1))) (by rw [hfull, hst]) ?_ HD7.out ?_ ?_
            · rw [← HY.out, if_neg HY0.out]
              rfl
            · rw [← HY.out, if_neg HY0.out, if_neg HY0.out]
              exact (HA.out.below HW3.out).disk HD3.out HKZ.out
            · exact (DKept.of_below (S := fun k => DS rb ra k ∨ RAB w q k) HW3.out).trans HKZ.out (fun _ _ h => .inl h)
      · obtain rfl : j = fz := by omega
        have em : (j : Int) - 1 - (j : Int) = -1 := by omega
        rw [em]
        clear em
        have HQ : Hid (¬ DS rb ra q) := Lib.hid (by
          rintro (e | e)
          · exact (HK.out.ne_ HB.out (by decide)) e
          · obtain ⟨_, _, _, _, _, ha9, _⟩ := HD.out
            exact (HK.out.ne_ ha9 (by decide)) e)
        have hk9 := HKR.out.blk (HK.out.below HW3.out HK.out.lt) HQ.out
        rw [← HN.out] at hk9
        obtain ⟨-, -, -, -, c4, -⟩ := rarea_cells hk9
        have ho3 : W3.ownsRow B 112 3 (.slice Lt n c) n (recF 0 fs) := own_keep HO'.out fun g hg => HW3.out.block g (HO'.out.lt g hg).2
        have ho9 : wr.ownsRow B 112 3 (.slice Lt n c) n (recF 0 fs) := own_keep ho3 fun g hg => HKR.out.block g (ho3.lt g hg).2 (by
          obtain ⟨_, _, _, hb9, _, ha9, _⟩ := HD3.out
          rintro (e | e)
          · exact own_blk_ne ho3 hb9 (by decide) (e ▸ hg)
          · exact own_blk_ne ho3 ha9 (by decide) (e ▸ hg))
        obtain ⟨i0, hi0, hz0, hz1, hz2⟩ := info_parts info_frame
        have HK9 := Lib.hid hk9
        have HO9 := Lib.hid ho9
        have hsz9 : B ≤ wr.heap.size := by
          have := HKR.out.size
          have := (show Below _ _ _ from HW3.out).size
          have := HK.out.lt
          have := HA.out.1
          omega
        clear hk9 ho3 ho9
        go_wp2_with (at_builtin; refine wpList_append_any _ rfl (.tmp 128) (.tmp 133) _ rfl B 112 i0 _ 3 32 Try.underlying53 hi0 hz0 hz1 hz2 rfl (by omega) (.slice Lt n c) n (recF 0 fs) rfl (HO9.out.alloc _) (wr.heap.size + 1) (some ⟨wr.heap.size, 0, none⟩) 1 1 [.int .i64 (A.used : Int), .int .u8 (kind.toNat : Int), .string ⟨bs.toArray⟩] rfl (fr_reads wr _ _ _ _) (by simp [Value.oneCell']) (by unfold maxLen; omega) (by omega) (by simp; omega) ?_; intro v1 w1 hown1 hg1 hat1; obtain ⟨A1, c1, rfl⟩ := own_shape hown1; have hk1 := (HK9.out.alloc (.cells #[.int .i64 (A.used : Int), .int .u8 (kind.toNat : Int), .string ⟨bs.toArray⟩] 112)).grown hg1 (fun e => own_blk_ne (HO9.out.alloc (.cells #[.int .i64 (A.used : Int), .int .u8 (kind.toNat : Int), .string ⟨bs.toArray⟩] 112)) (HK9.out.alloc (.cells #[.int .i64 (A.used : Int), .int .u8 (kind.toNat : Int), .string ⟨bs.toArray⟩] 112)) (by decide) e.symm); have c4' : w1.cell? ⟨q, 4, none⟩ = some (.slice Lt n c) := (hk1.cell 4).trans rfl; have f4' := hk1.frozen 4; have HK1 := Lib.hid hk1; have HO1 := Lib.hid hown1; have HG1 := Lib.hid hg1; clear hown1 hg1 hat1 hk1)
        go_ret2
        have hfull : wrun (A.first + A.used) (layB kind A.life A.ats.length bs (fsz bs.length - 1)) d (downs (fsz bs.length) (by rw [← HFZ.out]; exact hfz4) (fsz bs.length)) = wrun (A.first + A.used) rows d (downs j hfz4 j) := by
          have h1 := HFZ.out
          subst h1
          rw [HRW.out, HN.out, HNN.out]
        have hq9 : q < wr.heap.size := HK9.out.lt
        have ho9 := HO9.out.alloc (.cells #[.int .i64 (A.used : Int), .int .u8 (kind.toNat : Int), .string ⟨bs.toArray⟩] 112)
        have hd9 : RDiskAt (wr.alloc (.cells #[.int .i64 (A.used : Int), .int .u8 (kind.toNat : Int), .string ⟨bs.toArray⟩] 112)) rb ra (wrun (A.first + A.used) rows d (downs j hfz4 j)).1 := HDR.out.below ((Below.refl _ _).alloc (Nat.le_refl _) _)
        have hd10 : RDiskAt w1 rb ra (wrun (A.first + A.used) rows d (downs j hfz4 j)).1 := by
          obtain ⟨cd9, arr9, how9, hb9, _, ha9, _⟩ := id hd9
          exact hd9.keep (HG1.out.block rb hb9.lt (fun e => own_blk_ne ho9 hb9 (by decide) e.symm)) (HG1.out.block ra ha9.lt (fun e => own_blk_ne ho9 ha9 (by decide) e.symm))
        refine rad_run HBIG.out HLV.out (by rw [← HFZ.out]; have := HRM.out; omega) (by rw [← HFZ.out]; exact hfz4) (wrun (A.first + A.used) rows d (downs j hfz4 j)) hfull.symm ?_ (hd10.keep2 (S := fun k => k = q) (DKept.set DKept.refl rfl) ?_) ?_ ?_
        · rw [if_pos HOK.out, HOK.out]
          rfl
        · rintro k rfl
          exact ⟨fun e => HQ.out (.inl e), fun e => HQ.out (.inr e)⟩
        · rw [if_pos HOK.out, if_pos HOK.out]
          refine ⟨HA.out.1, A1, c1, ?_, ?_⟩
          · have := HK1.out.set_ 4 (.slice A1 (n + 1) c1)
            rw [List.length_append, ← HN.out]
            exact this
          · have := own_far (p := ⟨q, 4, none⟩) HO1.out (own_blk_ne HO1.out HK1.out (by decide)) (.slice A1 (n + 1) c1)
            rw [List.length_append, ← HN.out, recF_app, Nat.zero_add, ← HSM.out.2.1]
            exact this
        · refine DKept.set ((((DKept.of_below (S := fun k => DS rb ra k ∨ RAB w q k) HW3.out).trans HKR.out (fun _ _ h => .inl h)).alloc _).grown HG1.out (fun k e => ?_)) (.inr (.inl rfl))
          obtain ⟨c', e', _⟩ := own_form HO'.out e
          exact .inl (.inr (.inr ⟨n, c', by rw [← e', HN.out]; exact (HK.out.cell 4).trans rfl⟩))
  · have g2 : (d.lives != A.lives) = true := by rw [bne_iff_ne]; exact fun h => hlv h.symm
    have HLV := Lib.hid hlv
    clear hlv
    go_enter Try.func27, Try.ntmps27
    go_wp2_with fail
    go_quiet (fail)
    go_wp2_with fail
    go_ret2
    exact rad_off HBIG.out HLV.out ⟨rfl, below_dn _ _⟩
end
end Go.Proofs.Ytlbikfamjogpnaa
end

/- The law's own 'awake' over frames answers true. Conditions: none. -/
section
namespace Go.Proofs.Ytlbikfamjogpnaa
open Go.RowKit
set_option linter.unusedVariables false
set_option linter.unusedSimpArgs false

theorem clean_end {S : List (List UInt8)} {first sectors u : Nat} {P : Fr → Prop} (h : Clean S first sectors u) : ∀ f, frameAt S first sectors u = some f → P f := by
  intro f hf
  rw [h.none] at hf
  cases hf
theorem DiskAt.area {w w' : World} {B p b a : Nat} {A : Ar} {d : Dk} (h : DiskAt w b a d) (ha : AreaAt w B p b A) (hk : DKept (fun k => k = p) w w') : DiskAt w' b a d := by
  obtain ⟨_, At, c, hA, _⟩ := ha
  have hn := h.apart97 hA
  exact h.keep (hk.block b h.ltb (fun e => hn (.inl e.symm))) (hk.block a h.lta (fun e => hn (.inr e.symm))) (fun g cs hg => hk.blk hg (fun e => by subst e; exact hg.ne_ hA (by decide) rfl))
theorem AreaAt.disk {w w' : World} {B p b a : Nat} {A : Ar} {d : Dk} (h : AreaAt w B p b A) (hd : DiskAt w b a d) (hk : DKept (DS b a) w w') : AreaAt w' B p b A := by
  obtain ⟨h0, At, c, hA, ho⟩ := h
  exact ⟨h0, At, c, hk.blk hA (hd.apart97 hA), own_keep ho fun g hg => hk.block g (ho.lt g hg).2 (hd.apartI ho hg)⟩
theorem DKept.area {w0 w w' : World} {B p b : Nat} {A : Ar} (hB : Below w0.heap.size w0 w) (ha : AreaAt w B p b A) (hp : w0.heap.size ≤ B) (hk : DKept (fun k => k = p) w w') : Below w0.heap.size w0 w' :=
  DKept.low hB (Nat.le_refl _) (by rintro i rfl; exact Nat.le_trans hp ha.1) hk

set_option maxRecDepth 100000 in
set_option maxHeartbeats 4000000 in
theorem awake5 (w : World) : Calls Try.prog 13 #[] w fun e w' => e = .returned (.bool true) ∧ Below w.heap.size w w' := by
  have kc := fun (w : World) (C : Array Value) (n c : Nat) => Lib.run_convert_bytes_const (P := Try.prog) w 36 5 C n c Try.underlying36 Try.underlying5
  go_enter Try.func13, Try.ntmps13
  go_wp2_with fail
  refine (new_ok 10 w (by omega) (by omega)).mono ?_
  rintro e w1 ⟨b, a, rfl, hd1, hb, ha, hB1⟩
  have P1 : Chain (Dk.new 10).S 2 6 7 [] := new_chain 10 2 6 7 (by omega)
  have C1 := new_clean 10 2 6
  have HB := Lib.hid hb
  have HAA := Lib.hid ha
  clear hb ha
  go_wp2_with fail
  refine (open_ok (fs := []) (Dk.new 10) 2 6 7 hd1 (by omega) P1 rfl rfl (by omega) (clean_end C1)).mono ?_
  rintro e w2 ⟨p, A, rfl, ha2, hA, hp2, hB2⟩
  obtain rfl : A = ⟨1, 2, 6, 0, [], 0⟩ := hA
  have hd2 := hd1.below hB2
  have hB2' : Below w.heap.size w w2 := hB1.trans (hB2.mono hB1.size)
  have hBA : w.heap.size ≤ w1.heap.size := hB1.size
  have CA := Lib.hid (all_any ha2 (by show 0 ≤ _; omega))
  have CG := Lib.hid (fun V (hV : Later w2 V) => begin_any 7 (ha2.below hV))
  have CA : Hid (Calls Try.prog 21 #[.pointer (some ⟨p, 0, none⟩)] w2 fun e w' => ∃ A9 c9, e = .returned (.slice A9 0 c9) ∧ w'.ownsRow w2.heap.size 3 1 (.slice A9 0 c9) 0 [] ∧ Below w2.heap.size w2 w') := CA
  go_wp2_with fail
  refine CA.out.mono ?_
  rintro e w3 ⟨A9, c9, rfl, -, hB3⟩
  have ha3 := ha2.below hB3
  have hd3 := hd2.below hB3
  have hB3' : Below w.heap.size w w3 := hB2'.trans (hB3.mono hB2'.size)
  have CG0 := Lib.hid (CG.out w3 hB3)
  go_wp2_with fail
  refine CG0.out.mono ?_
  rintro e w4 ⟨rfl, ha4, hk4⟩
  have hd4 := hd3.area ha3 hk4
  have hB4' := DKept.area hB3' ha3 hBA hk4
  have ha4 : AreaAt w4 w1.heap.size p b ⟨1, 2, 6, 7, [], 0⟩ := ha4
  have hp4 : Plain ⟨1, 2, 6, 7, [], 0⟩ (Dk.new 10) [] := ⟨P1, rfl, rfl, rfl, rfl, rfl, by show 7 < _; omega⟩
  have ha5 := ha4.below ((Below.refl _ w4).alloc (Nat.le_refl _) (.cells #[.int .u8 97, .int .u8 98, .int .u8 99] 5 (3, 4)))
  have hd5 := hd4.below ((Below.refl _ w4).alloc (Nat.le_refl _) (.cells #[.int .u8 97, .int .u8 98, .int .u8 99] 5 (3, 4)))
  have hB5' : Below w.heap.size w (w4.alloc (.cells #[.int .u8 97, .int .u8 98, .int .u8 99] 5 (3, 4))) := hB4'.alloc hB4'.size _
  have hbt : Bts (w4.alloc (.cells #[.int .u8 97, .int .u8 98, .int .u8 99] 5 (3, 4))) (some ⟨w4.heap.size, 0, none⟩) 3 3 [97, 98, 99] := bts_lit w4 [97, 98, 99] 3 rfl (by unfold maxLen; omega) (3, 4)
  have CADD := Lib.hid (add_ok (Dk.new 10) 5 ha5 hd5 hp4 hbt (by omega) (by decide))
  have HP4 := Lib.hid hp4
  have HBA := Lib.hid hBA
  clear CG CG0 hk4 hB3 hB3' ha3 hd3 ha2 hd2 hB2 hB2' hd1 CA kc hBA hp4 hp2 P1 hbt hd4 ha4 hB4' hB1
  have kc := fun (w : World) (C : Array Value) (n c : Nat) => Lib.run_convert_bytes_const (P := Try.prog) w 36 5 C n c Try.underlying36 Try.underlying5
  go_wp2_with fail
  refine CADD.out.mono ?_
  rintro e w6 ⟨d6, rfl, ha6, hd6, hp6, hwr6, hlv6, hk6⟩
  have hB6' := kept_low hB5' ha5 HBA.out HB.out HAA.out hk6
  have hcl6 : Clean d6.S 2 6 1 := by
    have := C1.more (n := 1) (m := 1) hwr6 (Nat.le_refl _)
    exact this
  have ha6 : AreaAt w6 w1.heap.size p b ⟨1, 2, 6, 7, [0], 1⟩ := ha6
  have hp6 : Plain ⟨1, 2, 6, 7, [0], 1⟩ d6 [(5, [97, 98, 99])] := hp6
  clear CADD kc hk6 hB5' ha5 hd5 hwr6
  go_wp2_with fail
  refine (get_ok d6 0 ha6 hd6 hp6 rfl).mono ?_
  rintro e w7 ⟨g7, c7, rfl, hg7, hbt7, hB7⟩
  have hB7' : Below w.heap.size w w7 := hB6'.trans (hB7.mono hB6'.size)
  have hd7 := hd6.below hB7
  clear hB7 ha6 hd6 hB6'
  go_wp2_with fail
  refine (open_ok d6 2 6 7 hd7 (by omega) hp6.chain hp6.off hp6.cut (by omega) (clean_end hcl6)).mono ?_
  rintro e w8 ⟨p8, A8, rfl, ha8, hA8, hp8, hB8⟩
  have hbt8 := hbt7.below hB8
  have hB8' : Below w.heap.size w w8 := hB7'.trans (hB8.mono hB7'.size)
  have cv : (convert 36 9 (.slice (some ⟨g7, 0, none⟩) 3 c7)).run Try.prog w8 = .ok (.string ⟨#[97, 98, 99]⟩) w8 := run_string_of w8 36 9 5 Try.underlying36 Try.underlying5 Try.underlying9 (c := c7) hbt8.2.1
  clear hbt7 hbt8 hp6 hcl6 hB7' hB8 hd7
  obtain rfl : A8 = ⟨d6.lives, 2, 6, 7, [0], 1⟩ := hA8
  have CL := Lib.hid (life_any ha8)
  have CA : Hid (Calls Try.prog 21 #[.pointer (some ⟨p8, 0, none⟩)] w8 fun e w' => ∃ A9 c9, e = .returned (.slice A9 1 c9) ∧ w'.ownsRow w8.heap.size 3 1 (.slice A9 1 c9) 1 [natv 0] ∧ Below w8.heap.size w8 w') := Lib.hid (all_any ha8 (by show 1 ≤ _; omega))
  have CR : Hid (∀ V, Below w8.heap.size w8 V → Calls Try.prog 19 #[.pointer (some ⟨p8, 0, none⟩)] V fun e w' => e = .returned (.int .i64 5) ∧ ∃ m, w' = V.drewN m) := Lib.hid (fun V hV => room_any (ha8.below hV) (by show 1 ≤ _; omega) (by show 6 ≤ _; omega))
  have CS : Hid (∀ V, Calls Try.prog 17 #[.int .i64 44] V fun e w' => e = .returned (.int .i64 1) ∧ V = w') := Lib.hid (fun V => size_any V 44 (by omega) (by omega))
  have CS2 : Hid (∀ V, Calls Try.prog 17 #[.int .i64 45] V fun e w' => e = .returned (.int .i64 2) ∧ V = w') := Lib.hid (fun V => size_any V 45 (by omega) (by omega))
  have CF : Hid (∀ V : World, Calls Try.prog 20 #[.int .i64 3, .slice (some ⟨V.heap.size, 0, none⟩) 2 2] (V.alloc (.cells #[.int .i64 44, .int .i64 45] 3)) fun e w' => e = .returned (.bool true) ∧ V.alloc (.cells #[.int .i64 44, .int .i64 45] 3) = w') := Lib.hid (fun V => fits_any (L := [44, 45]) 3 ⟨⟨by simp, ⟨rfl, fun _ => ⟨_, rfl, by simp, fun j u hu => by rw [add_zero_off, (Blk.new V 3 #[.int .i64 44, .int .i64 45]).cell j]; simpa using hu⟩⟩, Nat.le_refl _, by unfold maxLen; omega⟩, rfl, by decide⟩ (by omega) (by omega) (by omega))
  have HB8 := Lib.hid hB8'
  clear ha8 hp8 hB8' hlv6
  go_wp2_with fail
  refine CL.out.mono ?_
  rintro e w9 ⟨rfl, rfl⟩
  go_wp2_with fail
  refine CA.out.mono ?_
  rintro e w9 ⟨A9, c9, rfl, -, hB9⟩
  have HB9 := Lib.hid (HB8.out.trans (hB9.mono HB8.out.size))
  have CR0 := Lib.hid (CR.out w9 hB9)
  clear hB9 CR
  go_wp2_with fail
  refine CR0.out.mono ?_
  rintro e w10 ⟨rfl, m, rfl⟩
  go_wp2_with fail
  refine (CS.out _).mono ?_
  rintro e w11 ⟨rfl, rfl⟩
  go_wp2_with fail
  refine (CS2.out _).mono ?_
  rintro e w11 ⟨rfl, rfl⟩
  go_wp2_with fail
  refine (CF.out _).mono ?_
  rintro e w11 ⟨rfl, rfl⟩
  go_wp2_with fail
  go_ret
  exact ⟨rfl, (below_drewN HB9.out m).alloc HB9.out.size _⟩
end Go.Proofs.Ytlbikfamjogpnaa
end

/- FramePlays' own functions: same and gets answer true; the reference's Now. Conditions: an area and the reference's lie in memory, over disks that are one. -/
section
namespace Go.Proofs.Ytlbikfamjogpnaa
open Go.RowKit
set_option linter.unusedVariables false
set_option linter.unusedSimpArgs false

section
variable {w : World} {B p b a B' q rb ra : Nat} {A : Ar} {fs : List (UInt8 × List UInt8)}
set_option maxRecDepth 100000 in
set_option maxHeartbeats 1000000 in
theorem rnow_any (d : Dk) (k : Nat) (h : RAreaAt w B' q rb A fs) (hd : RDiskAt w rb ra d) (hfit : A.first + A.sectors ≤ d.S.length) (h64 : ∀ s ∈ d.S, s.length = 64) (hkk : k ≤ 100000) :
    Calls Try.prog 69 #[.pointer (some ⟨q, 0, none⟩), .int .i64 (k : Int)] w (RRead w k (frameAt d.S A.first A.sectors k)) := by
  have CR := Lib.hid (rread_any d k (h.below ((Below.refl _ _).alloc (Nat.le_refl _) (.cells #[.int .i64 0, .int .u8 0, .string ⟨#[]⟩] 112))) (hd.below ((Below.refl _ _).alloc (Nat.le_refl _) (.cells #[.int .i64 0, .int .u8 0, .string ⟨#[]⟩] 112))) hfit h64 hkk)
  have HK := Lib.hid (Blk.new w 112 #[.int .i64 0, .int .u8 0, .string ⟨#[]⟩])
  clear h hd hfit h64
  go_enter Try.func69, Try.ntmps69
  go_wp2_with fail
  refine CR.out.mono ?_
  rintro e w5 ⟨rfl, hb5⟩
  have hk5 := HK.out.below hb5 HK.out.lt
  obtain ⟨z0, z1, z2⟩ : w5.cell? ⟨w.heap.size, 0, none⟩ = some (.int .i64 0) ∧ w5.cell? ⟨w.heap.size, 1, none⟩ = some (.int .u8 0) ∧ w5.cell? ⟨w.heap.size, 2, none⟩ = some (.string ⟨#[]⟩) := ⟨(hk5.cell 0).trans rfl, (hk5.cell 1).trans rfl, (hk5.cell 2).trans rfl⟩
  have f0 := hk5.frozen 0
  have f1 := hk5.frozen 1
  have f2 := hk5.frozen 2
  have HK5 := Lib.hid hk5
  have HB5 : Hid (Below w.heap.size w w5) := Lib.hid (((Below.refl w.heap.size w).alloc (Nat.le_refl _) _).trans (hb5.mono (by simp)))
  clear hk5 hb5
  cases hf : frameAt d.S A.first A.sectors k with
  | none =>
    have HF := Lib.hid hf
    clear hf
    unfold rstand
    go_wp2_with fail
    have hz := fr_none (w := w) (W := w5) HB5.out HK5.out
    exact bodyPost_ret_by (results_cttt rfl _ _ w.heap.size 112 #[.int .i64 0, .int .u8 0, .string ⟨#[]⟩] (0, 0) _ rfl hz.1 Try.underlying112 rfl (by kernel_rfl)) rfl ⟨by rw [HF.out]; rfl, hz.2⟩
  | some x =>
    have HF := Lib.hid hf
    clear hf
    unfold rstand
    go_wp2_with fail
    have hk8 := ((HK5.out.set_ 0 (.int .i64 (k : Int))).set_ 1 (.int .u8 (x.kind.toNat : Int))).set_ 2 (.string ⟨x.b.toArray⟩)
    have hb8 := ((HB5.out.setCell (p := ⟨w.heap.size, 0, none⟩) (Nat.le_refl _) (.int .i64 (k : Int))).setCell (p := ⟨w.heap.size, 1, none⟩) (Nat.le_refl _) (.int .u8 (x.kind.toNat : Int))).setCell (p := ⟨w.heap.size, 2, none⟩) (Nat.le_refl _) (.string ⟨x.b.toArray⟩)
    exact bodyPost_ret_by (results_cttt rfl _ _ w.heap.size 112 #[.int .i64 (k : Int), .int .u8 (x.kind.toNat : Int), .string ⟨x.b.toArray⟩] (0, 0) _ rfl hk8 Try.underlying112 rfl (by kernel_rfl)) rfl ⟨by rw [HF.out]; rfl, hb8⟩

theorem own_at2 {w : World} {B n c : Nat} {A : Option Addr} {L : List Nat} (h : w.ownsRow B 3 1 (.slice A n c) n (L.map natv)) {i : Nat} (hi : i < n) :
    ∃ g, A = some ⟨g, 0, none⟩ ∧ ∀ w', Below w.heap.size w w' → w'.cell? ⟨g, i, none⟩ = some (.int .i64 (L.getD i 0 : Nat)) := by
  have hl := h.1
  rw [List.length_map] at hl
  rcases h.2 with ⟨e, hn⟩ | ⟨g, cap, cur, e, hg, hh, hnc, r⟩
  · omega
  · injection e with e1 e2 e3
    subst e1
    refine ⟨g, rfl, fun w' hb => ?_⟩
    have hc := h.cells (g := g) rfl i (natv (L.getD i 0)) (by rw [List.getElem?_map, List.getElem?_eq_getElem (by omega), List.getD_eq_getElem?_getD, List.getElem?_eq_getElem (by omega)]; rfl)
    rw [add_zero_off] at hc
    exact (hb.cell (p := ⟨g, i, none⟩) (World.block_lt_of_cell? _ _ hc)).trans hc

set_option maxRecDepth 100000 in
set_option maxHeartbeats 4000000 in
theorem same_any5 (h : AreaAt w B p b A) (hr : RAreaAt w B' q rb A fs) (hs : Same A fs) (hu : A.used ≤ A.sectors) (h4 : A.sectors ≤ 4096) :
    Calls Try.prog 34 #[.pointer (some ⟨p, 0, none⟩), .pointer (some ⟨q, 0, none⟩)] w fun e w' => e = .returned (.bool true) ∧ Below w.heap.size w w' := by
  have hnu : fs.length ≤ A.used := by rw [hs.2.1]; exact offs_ge fs _ (Nat.le_refl _)
  have hnn : A.ats.length = fs.length := by rw [hs.1, offsL_len]
  have HA := Lib.hid h
  have HR := Lib.hid hr
  have HS := Lib.hid hs
  have CA := all_any h (by omega)
  rw [hnn, hs.1] at CA
  obtain ⟨n, hn⟩ : ∃ n, n = fs.length := ⟨_, rfl⟩
  rw [← hn] at CA hnu hnn
  have HN := Lib.hid hn
  have CA := Lib.hid CA
  have hn4 : n ≤ 4096 := by omega
  obtain ⟨h0, Lt, c, hk, ho⟩ := hr
  have HK := Lib.hid hk
  have HO := Lib.hid ho
  clear h hs hn hk ho h0 hnn
  go_enter Try.func34, Try.ntmps34
  go_wp2_with fail
  refine CA.out.mono ?_
  rintro e w1 ⟨A9, c9, rfl, ho9, hb1⟩
  have hA1 := HA.out.below hb1
  have hR1 := HR.out.below hb1
  have hk1 := HK.out.below hb1 HK.out.lt
  rw [← HN.out] at hk1
  obtain ⟨c0, c1, c2, c3, c4, c5⟩ := rarea_cells hk1
  have CL : Hid (∀ m, Calls Try.prog 22 #[.pointer (some ⟨p, 0, none⟩)] (w1.drewN m) fun e w' => e = .returned (.int .u64 A.life) ∧ w1.drewN m = w') := Lib.hid (fun m => life_any (hA1.below (below_dn _ _)))
  have CR : Hid (∀ m, Calls Try.prog 19 #[.pointer (some ⟨p, 0, none⟩)] (w1.drewN m) fun e w' => e = .returned (.int .i64 ((A.sectors : Int) - A.used)) ∧ ∃ k, w' = w1.drewN k) := Lib.hid (fun m => (room_any (hA1.below (below_dn _ _)) (by omega) (by omega)).mono fun e w' ⟨he, k, hk⟩ => ⟨he, m + k, by rw [hk]; simp [World.drewN, Nat.add_assoc]⟩)
  have CU : Hid (∀ m, Calls Try.prog 66 #[.pointer (some ⟨q, 0, none⟩)] (w1.drewN m) fun e w' => e = .returned (.int .i64 (A.used : Int)) ∧ w1.drewN m = w') := Lib.hid (fun m => by rw [HS.out.2.1]; exact used_any (hR1.below (below_dn _ _)) HS.out.2.2 (by rw [← HS.out.2.1]; omega))
  have es : IntKind.i64.wrap ((A.sectors : Int) - (A.used : Int)) = (A.sectors : Int) - (A.used : Int) := IntWalk.i64_in _ (by omega)
  have HO9 := Lib.hid ho9
  have HB1 := Lib.hid hb1
  have ho1 : w1.ownsRow B' 112 3 (.slice Lt n c) n (recF 0 fs) := by rw [HN.out]; exact own_keep HO.out fun g hg => hb1.block g (HO.out.lt g hg).2
  have HO1 := Lib.hid ho1
  have HK1 := Lib.hid hk1
  clear hA1 hR1 hk1 ho9 hb1 ho1 CA
  go_wp2_with fail
  go_quiet ((first | (go_at_call 22; exact (CL.out _).mono (fun _ _ ⟨he, hm⟩ => ⟨he, _, hm.symm⟩)) | (go_at_call 19; exact (CR.out _).mono (fun _ _ ⟨he, k, hm⟩ => ⟨he, _, hm⟩)) | (go_at_call 66; exact (CU.out _).mono (fun _ _ ⟨he, hm⟩ => ⟨he, _, hm.symm⟩))))
  go_wp2_with fail
  go_loopg [6] n (fun m iv wr => ∃ k : Nat, k + m = n ∧ iv = .int .i64 (k : Int) ∧ Hid (∃ dr, wr = w1.drewN dr))
  case atStart => exact ⟨0, by omega, rfl, Lib.hid ⟨_, rfl⟩⟩
  case round =>
    obtain ⟨k, hk, rfl, HD⟩ := hrel
    obtain ⟨dr, rfl⟩ := HD.out
    have HK2 := Lib.hid hk
    clear hk HD c0 c1 c2 c3 c5
    by_cases hlt : k < n
    · obtain ⟨⟨kd, x⟩, hx⟩ : ∃ x, fs[k]? = some x := ⟨_, List.getElem?_eq_getElem (by rw [← HN.out]; exact hlt)⟩
      obtain ⟨g, rfl, hc1⟩ := own_at2 HO9.out hlt
      have d1 := hc1 _ (below_dn w1 dr)
      rw [offsL_at fs (by rw [← HN.out]; exact hlt)] at d1
      obtain ⟨g2, rfl, hc2⟩ := rec_at HO1.out hx
      obtain ⟨d2, -, -⟩ := hc2 _ (below_dn w1 dr)
      have d1' : w1.cell? ⟨g, k, none⟩ = some (.int .i64 (offs fs k : Nat)) := d1
      have d2' : w1.cell? ⟨g2, k * 3, none⟩ = some (.int .i64 (offs fs k : Nat)) := d2
      have i0 : (0 : Int) ≤ (k : Int) := by omega
      have i1 : (k : Int) < (n : Int) := by omega
      obtain ⟨o, ho⟩ : ∃ o, o = offs fs k := ⟨_, rfl⟩
      rw [← ho] at d1 d2 d1' d2'
      clear hx hc1 hc2 ho d1 d2
      go_wp2_with fail
      go_quiet (fail)
      go_wp2_with fail
      go_roundg (n - (k + 1))
      case measure => have := HK2.out; omega
      case rel => have := HK2.out; exact ⟨k + 1, by omega, by go_num, Lib.hid ⟨_, by first | rfl | exact World.drewN_drewN ..⟩⟩
    · obtain rfl : k = n := by have := HK2.out; omega
      go_wp2
      go_ret
      exact ⟨rfl, below_drewN HB1.out dr⟩

set_option maxRecDepth 100000 in
set_option maxHeartbeats 8000000 in
theorem gets_any (d : Dk) (t : Int) (h : AreaAt w B p b A) (hd : DiskAt w b a d) (hr : RAreaAt w B' q rb A fs) (hrd : RDiskAt w rb ra d) (hs : Same A fs) (hu : A.used ≤ A.sectors) (hfit : A.first + A.sectors ≤ d.S.length) :
    Calls Try.prog 30 #[.pointer (some ⟨p, 0, none⟩), .pointer (some ⟨q, 0, none⟩), .int .i64 t] w fun e w' => e = .returned (.bool true) ∧ Below w.heap.size w w' := by
  obtain ⟨hl4, h64⟩ := disk_len hd
  have hnu : fs.length ≤ A.used := by rw [hs.2.1]; exact offs_ge fs _ (Nat.le_refl _)
  have hnn : A.ats.length = fs.length := by rw [hs.1, offsL_len]
  have hmem : ∀ x ∈ A.ats, x < A.sectors := by
    intro x hx
    rw [hs.1] at hx
    obtain ⟨i, hi, rfl⟩ := List.mem_map.1 hx
    have hi := List.mem_range.1 hi
    have := offs_lt fs hi (Nat.le_refl _)
    have := hs.2.1
    omega
  have CG := Lib.hid (get_any d t h hd hfit hmem (by omega))
  have HS := Lib.hid hs
  have HR := Lib.hid hr
  have HRD := Lib.hid hrd
  have HFIT := Lib.hid hfit
  have H64 := Lib.hid h64
  have HU := Lib.hid hu
  obtain ⟨h0, Lt, c, hk, ho⟩ := hr
  obtain ⟨cd, arr, how, hb, -, ha, hac, hdc, hcm, h1', h4096, -, -, harr⟩ := hrd
  have HK := Lib.hid hk
  have HB := Lib.hid hb
  have HO := Lib.hid ho
  obtain ⟨n, hn⟩ : ∃ n, n = fs.length := ⟨_, rfl⟩
  have hn4 : n ≤ 4096 := by omega
  have HN := Lib.hid hn
  clear h hd h0 hk ho hb ha hac hdc hcm h1' h4096 harr hs hfit h64 hnu hnn hmem hn hu hl4
  go_enter Try.func30, Try.ntmps30
  go_wp2_with fail
  refine CG.out.mono ?_
  intro e w1 hpost
  have HP := Lib.hid hpost
  have hb1 := hpost.1
  have HB1 := Lib.hid hb1
  have hk1 := HK.out.below hb1 HK.out.lt
  have hkb := HB.out.below hb1 HB.out.lt
  rw [← HN.out] at hk1
  obtain ⟨c0, c1, c2, c3, c4, c5⟩ := rarea_cells hk1
  obtain ⟨e0, e1, -, -, -, e5⟩ := rdisk_cells hkb
  have ho1 : w1.ownsRow B' 112 3 (.slice Lt n c) n (recF 0 fs) := by rw [HN.out]; exact own_keep HO.out fun g hg => hb1.block g (HO.out.lt g hg).2
  have HO1 := Lib.hid ho1
  have HR1 := Lib.hid (HR.out.below hb1)
  have HRD1 := Lib.hid (HRD.out.below hb1)
  clear hpost hb1 hk1 hkb ho1 CG
  by_cases hon : A.lives = d.lives ∧ d.off = false
  · obtain ⟨hlv, hoff⟩ := hon
    have g1 : (d.lives == A.lives) = true := by rw [hlv]; simp
    rw [hoff] at e1
    cases hh : hasN A.ats t with
    | false =>
      obtain ⟨_, hg⟩ := HP.out
      rw [if_pos hh] at hg
      subst hg
      have HH := Lib.hid hh
      clear hh hlv hoff
      go_wp2_with fail
      go_quiet (fail)
      go_wp2_with fail
      go_loopg [10] n (fun m iv wr => ∃ k : Nat, k + m = n ∧ iv = .int .i64 (k : Int) ∧ Hid (∃ dr, wr = w1.drewN dr))
      case atStart => exact ⟨0, by omega, rfl, Lib.hid ⟨_, rfl⟩⟩
      case round =>
        obtain ⟨k, hk, rfl, HD⟩ := hrel
        obtain ⟨dr, rfl⟩ := HD.out
        have HK2 := Lib.hid hk
        clear hk HD
        by_cases hlt : k < n
        · obtain ⟨⟨kd, x⟩, hx⟩ : ∃ x, fs[k]? = some x := ⟨_, List.getElem?_eq_getElem (by rw [← HN.out]; exact hlt)⟩
          obtain ⟨g2, rfl, hc2⟩ := rec_at HO1.out hx
          obtain ⟨d2, -, -⟩ := hc2 _ (below_dn w1 dr)
          have d2' : w1.cell? ⟨g2, k * 3, none⟩ = some (.int .i64 (offs fs k : Nat)) := d2
          have hne : (((offs fs k : Nat) : Int) == t) = false := by
            rw [beq_eq_false_iff_ne]
            intro e
            have := (offs_find fs k (by rw [← HN.out]; exact hlt)).2
            rw [e, ← HS.out.1, HH.out] at this
            cases this
          generalize offs fs k = o at *
          clear hx hc2 d2
          go_wp2_with fail
          go_roundg (n - (k + 1))
          case measure => have := HK2.out; omega
          case rel => have := HK2.out; exact ⟨k + 1, by omega, by go_num, Lib.hid ⟨_, rfl⟩⟩
        · obtain rfl : k = n := by have := HK2.out; omega
          go_wp2
          go_ret
          exact ⟨rfl, below_drewN HB1.out dr⟩
    | true =>
      obtain ⟨kt, rfl, hmk, hpl⟩ := has_mem hh
      have hpi : posN A.ats (kt : Int) < n := by rw [HN.out, ← offsL_len, ← HS.out.1]; exact hpl
      have hko : kt = offs fs (posN A.ats (kt : Int)) := by
        have h1 := hh
        unfold hasN at h1
        simp only [Bool.and_eq_true, decide_eq_true_eq, beq_iff_eq] at h1
        have h2 := offsL_at fs (i := posN A.ats (kt : Int)) (by rw [← HN.out]; exact hpi)
        rw [← h2, ← HS.out.1]
        omega
      obtain ⟨i, hi⟩ : ∃ i, i = posN A.ats (kt : Int) := ⟨_, rfl⟩
      have hg := HP.out.2
      rw [if_neg (by rw [hh]; decide), if_neg (by rintro (h | h); exact h hlv; rw [hoff] at h; cases h), ← hi, show ((kt : Nat) : Int).toNat = kt from rfl] at hg
      rw [← hi] at hpi hko
      obtain ⟨F, hF⟩ : ∃ F, F = frameAt d.S A.first A.sectors kt := ⟨_, rfl⟩
      rw [← hF] at hg
      obtain ⟨kv, Ag, ng, cg, y, rfl, HQ⟩ : ∃ kv Ag ng cg y, e = .returned (.tuple #[.int .u8 kv, .slice Ag ng cg, .int .i64 y]) ∧ Hid ((F = none ∧ y = 3) ∨ (∃ x, F = some x ∧ ¬ (x.life = A.life ∧ x.n = i) ∧ y = 3) ∨ (∃ x, F = some x ∧ x.life = A.life ∧ x.n = i ∧ y = 0 ∧ kv = (x.kind.toNat : Int) ∧ Bts w1 Ag ng cg x.b)) := by
        cases F with
        | none => exact ⟨_, _, _, _, _, hg, Lib.hid (.inl ⟨rfl, rfl⟩)⟩
        | some x =>
          dsimp only [Gets] at hg
          split at hg
          · rename_i hxx
            obtain ⟨g, c', he, _, hbt⟩ := hg
            exact ⟨_, _, _, _, _, he, Lib.hid (.inr (.inr ⟨x, rfl, hxx.1, hxx.2, rfl, rfl, hbt⟩))⟩
          · rename_i hxx
            exact ⟨_, _, _, _, _, hg, Lib.hid (.inr (.inl ⟨x, rfl, hxx, rfl⟩))⟩
      have HKO := Lib.hid hko
      have HF := Lib.hid hF
      have hkb : kt ≤ 100000 := by
        have := offs_mono fs i fs.length (by rw [← HN.out]; omega)
        have := HS.out.2.1
        have := HU.out
        have := HFIT.out
        have h5 := hko
        have h6 : d.S.length ≤ 4096 := by obtain ⟨_, _, _, _, _, _, _, _, _, _, h, _⟩ := HRD.out; exact h
        omega
      clear hh hlv hoff hmk hpl hg hi hko hF
      go_wp2_with fail
      go_quiet (fail)
      go_wp2_with fail
      go_loopg [10] n (fun m iv wr => ∃ k : Nat, k + m = n ∧ k ≤ i ∧ iv = .int .i64 (k : Int) ∧ Hid (∃ dr, wr = w1.drewN dr))
      case atStart => exact ⟨0, by omega, by omega, rfl, Lib.hid ⟨_, rfl⟩⟩
      case round =>
        obtain ⟨k, hk, hki, rfl, HD⟩ := hrel
        obtain ⟨dr, rfl⟩ := HD.out
        have HK2 := Lib.hid hk
        have hlt : k < n := by omega
        clear hk HD
        obtain ⟨⟨kd, x⟩, hx⟩ : ∃ x, fs[k]? = some x := ⟨_, List.getElem?_eq_getElem (by rw [← HN.out]; exact hlt)⟩
        obtain ⟨g2, rfl, hc2⟩ := rec_at HO1.out hx
        obtain ⟨d2, -, -⟩ := hc2 _ (below_dn w1 dr)
        have d2' : w1.cell? ⟨g2, k * 3, none⟩ = some (.int .i64 (offs fs k : Nat)) := d2
        clear hx hc2 d2
        by_cases hki2 : k < i
        · have hne : (((offs fs k : Nat) : Int) == (kt : Int)) = false := by
            rw [beq_eq_false_iff_ne]
            have := offs_lt fs hki2 (by rw [← HN.out]; omega)
            rw [HKO.out]
            omega
          have hne' : (offs fs k == kt) = false := by
            rw [beq_eq_false_iff_ne]
            have := offs_lt fs hki2 (by rw [← HN.out]; omega)
            rw [HKO.out]
            omega
          generalize offs fs k = o at *
          go_wp2_with fail
          go_roundg (n - (k + 1))
          case measure => have := HK2.out; omega
          case rel => have := HK2.out; exact ⟨k + 1, by omega, by omega, by go_num, Lib.hid ⟨_, rfl⟩⟩
        · obtain rfl : k = i := by omega
          rw [← HKO.out] at d2'
          have CN := Lib.hid (rnow_any d kt (HR1.out.below (below_dn w1 dr)) (HRD1.out.below (below_dn w1 dr)) HFIT.out H64.out hkb)
          rw [← HF.out] at CN
          have ewk : IntKind.u64.wrap (k : Int) = (k : Int) := by rw [IntKind.wrap_u64]; omega
          go_wp2_with fail
          refine CN.out.mono ?_
          rintro e w2 ⟨rfl, hb2⟩
          have HB2 : Hid (Below w.heap.size w w2) := Lib.hid ((below_drewN HB1.out dr).trans (hb2.mono HB1.out.size))
          have HL2 : Hid (Below w1.heap.size w1 w2) := Lib.hid ((below_drewN (Below.refl _ w1) dr).trans hb2)
          have hk2 := (HK.out.below HB1.out HK.out.lt).below HL2.out (HK.out.below HB1.out HK.out.lt).lt
          obtain ⟨-, -, -, c3, -, -⟩ := rarea_cells hk2
          clear hb2 CN hk2 d2' c0 c1 c2 c4 c5 e0 e1 e5
          rcases HQ.out with ⟨hF0, hy3⟩ | ⟨x, hFx, hxx, hy3⟩ | ⟨x, hFx, hx1, hx2, hy0, hkv, hbt⟩
          · rw [hF0]
            subst hy3
            unfold rstand
            clear hF0
            go_wp2_with fail
            go_ret
            exact ⟨rfl, HB2.out.alloc HB2.out.size _⟩
          · rw [hFx]
            subst hy3
            unfold rstand
            have c3a : (w2.alloc (.cells #[.int .i64 (kt : Int), .int .u8 (x.kind.toNat : Int), .string ⟨x.b.toArray⟩] 112)).cell? ⟨q, 3, none⟩ = some (.int .u64 (A.life : Int)) := (World.cell?_alloc_lt w2 _ ⟨q, 3, none⟩ (World.block_lt_of_cell? _ _ c3)).trans c3
            clear hFx
            by_cases hl : x.life = A.life
            · have q1 : ((x.life : Int) != (A.life : Int)) = false := by rw [hl]; simp
              have q2 : ((x.n : Int) != (k : Int)) = true := by
                rw [bne_iff_ne]
                intro e
                exact hxx ⟨hl, by omega⟩
              clear hxx hl
              go_wp2_with fail
              go_ret
              exact ⟨rfl, HB2.out.alloc HB2.out.size _⟩
            · have q1 : ((x.life : Int) != (A.life : Int)) = true := by rw [bne_iff_ne]; omega
              clear hxx hl
              go_wp2_with fail
              go_ret
              exact ⟨rfl, HB2.out.alloc HB2.out.size _⟩
          · rw [hFx]
            subst hy0
            subst hkv
            unfold rstand
            have c3a : (w2.alloc (.cells #[.int .i64 (kt : Int), .int .u8 (x.kind.toNat : Int), .string ⟨x.b.toArray⟩] 112)).cell? ⟨q, 3, none⟩ = some (.int .u64 (A.life : Int)) := (World.cell?_alloc_lt w2 _ ⟨q, 3, none⟩ (World.block_lt_of_cell? _ _ c3)).trans c3
            have q1 : ((x.life : Int) != (A.life : Int)) = false := by rw [hx1]; simp
            have q2 : ((x.n : Int) != (k : Int)) = false := by rw [hx2]; simp
            have hbt2 := (hbt.below HL2.out).below ((Below.refl _ w2).alloc (Nat.le_refl _) (.cells #[.int .i64 (kt : Int), .int .u8 (x.kind.toNat : Int), .string ⟨x.b.toArray⟩] 112))
            have cv := run_string_of (w2.alloc (.cells #[.int .i64 (kt : Int), .int .u8 (x.kind.toNat : Int), .string ⟨x.b.toArray⟩] 112)) 36 9 5 Try.underlying36 Try.underlying5 Try.underlying9 (c := cg) hbt2.2.1
            clear hFx hx1 hx2 hbt hbt2
            go_wp2_with fail
            go_ret
            exact ⟨rfl, HB2.out.alloc HB2.out.size _⟩
  · obtain ⟨y, hy, rfl⟩ : ∃ y : Int, y ≠ 0 ∧ e = .returned (.tuple #[.int .u8 0, .slice none 0 0, .int .i64 y]) := by
      obtain ⟨_, hg⟩ := HP.out
      split at hg
      · exact ⟨5, by decide, hg⟩
      · rw [if_pos (by
          by_cases h : A.lives = d.lives
          · right
            cases hx : d.off with
            | true => rfl
            | false => exact absurd ⟨h, hx⟩ hon
          · exact .inl h)] at hg
        exact ⟨4, by decide, hg⟩
    have hy0 : (y != 0) = true := by rw [bne_iff_ne]; exact hy
    by_cases hlv : A.lives = d.lives
    · have hoff : d.off = true := by
        cases hx : d.off with
        | true => rfl
        | false => exact absurd ⟨hlv, hx⟩ hon
      have g1 : (d.lives == A.lives) = true := by rw [hlv]; simp
      rw [hoff] at e1
      clear hon hoff hlv hy
      go_wp2_with fail
      go_quiet (fail)
      go_wp2_with fail
      go_ret
      exact ⟨rfl, below_drewN HB1.out _⟩
    · have g1 : (d.lives == A.lives) = false := by
        rw [beq_eq_false_iff_ne]
        exact fun h => hlv h.symm
      clear hon hlv hy
      go_wp2_with fail
      go_quiet (fail)
      go_wp2_with fail
      go_ret
      exact ⟨rfl, below_drewN HB1.out _⟩
end
end Go.Proofs.Ytlbikfamjogpnaa
end

/- A slice of structs that came in: opened to the cells of its fields. Conditions: none. -/
section
namespace Go.Proofs.Ytlbikfamjogpnaa
open Go.ChangeShapes Go.WideShapes Go.Deep Go.RowKit

section
variable {H : Type} {enc : TypeId × Value → H} {P : Program} {w : World} {base : Nat} {spare : Nat → Bool} {held : Bool}
theorem open_slice_fields {t e : TypeId} {fs : Array Field} {fuel : Nat} {cs : List Value} {x : DataW H × List MemPlace} (ht : P.underlying t = some (.slice e)) (he : P.underlying e = some (.struct fs))
    (hone : oneCellFields P fs = true) (hC : P.cellsOf e = fs.size) (h : DataW.trod enc P w base spare held fuel t cs = some x) :
    (cs = [.slice none 0 0] ∧ x = (.nil, [])) ∨
    ∃ (a : Addr) (len cap m : Nat) (D : Nat → DataW H) (Pl : Nat → List MemPlace), cs = [.slice (some a) len cap] ∧ base ≤ a.block ∧ len ≤ cap ∧ cap ≤ maxLen ∧ m = (if spare a.block then cap else len) ∧
      x = (.slice ((List.range len).map D) ((List.range (m - len)).map fun j => D (len + j)), MemPlace.row a (m * fs.size) ++ (List.range m).flatMap Pl) ∧
      ∀ i, i < m → ∃ (ys : List (DataW H × List MemPlace)) (n : Nat), D i = .agg (ys.map (·.1)) ∧ Pl i = ys.flatMap (·.2) ∧ ys.length = fs.size ∧
        ∀ (j : Nat) (f : Field), fs[j]? = some f → ∃ (v : Value) (y : DataW H × List MemPlace), w.cell? (a.add (i * fs.size + j)) = some v ∧ ys[j]? = some y ∧ DataW.trod enc P w base spare held n f.type [v] = some y := by
  rcases open_slice ht h with h0 | ⟨a, len, cap, m, n, D, Pl, hcs, hb, hl, hm, hmm, hx, hi⟩
  · exact .inl h0
  · refine .inr ⟨a, len, cap, m, D, Pl, hcs, hb, hl, hm, hmm, by rw [hC] at hx; exact hx, fun i him => ?_⟩
    obtain ⟨cs', hc, ht'⟩ := hi i him
    rw [hC] at hc
    obtain ⟨ys, n', hn', hy, hlen, hyl, hf⟩ := DataW.trod_struct he ht'
    obtain ⟨_, hcl, hat⟩ := World.cells?_some hc
    simp only [Prod.mk.injEq] at hy
    refine ⟨ys, n', hy.1, hy.2, hyl, fun j f hj => ?_⟩
    obtain ⟨ho, hk⟩ := hone_of hone j f hj
    have hjl : j < fs.size := (Array.getElem?_eq_some_iff.1 hj).1
    have hcell := hat j hjl
    have hv : cs'[j]? = some (cs'[j]'(by omega)) := List.getElem?_eq_getElem (by omega)
    have h1 := hf j f hj
    rw [ho, hk] at h1
    have hone' : (cs'.drop j).take 1 = [cs'[j]'(by omega)] := by
      rw [List.drop_eq_getElem_cons (by omega)]
      rfl
    rw [hone'] at h1
    have hys : ys[j]? = some (ys[j]'(by omega)) := List.getElem?_eq_getElem (by omega)
    refine ⟨_, _, ?_, hys, h1.trans hys⟩
    rw [← Go.Deep.add_add, hcell, hv]
end


theorem plain_of_cell {w : World} {a : Addr} {v : Value} (h : w.cell? a = some v) : a = ⟨a.block, a.off, none⟩ := by
  obtain ⟨b, o, sp⟩ := a
  cases sp with
  | none => rfl
  | some x =>
    simp only [World.cell?] at h
    split at h <;> simp at h

theorem add_plain (b o j : Nat) : (⟨b, o, none⟩ : Addr).add j = ⟨b, o + j, none⟩ := by unfold Addr.add; by_cases e : j = 0 <;> simp [e]

theorem wf_i64_le {n : Int} (h : (Lit.int .i64 n).wf = true) : -9223372036854775808 ≤ n ∧ n ≤ 9223372036854775807 := by
  simp only [Lit.wf, Bool.and_eq_true, decide_eq_true_eq] at h
  have e1 : IntKind.i64.min = -9223372036854775808 := by decide
  have e2 : IntKind.i64.max = 9223372036854775807 := by decide
  omega

section
variable {H : Type} {enc : TypeId × Value → H} {W : World} {base : Nat} {spare : Nat → Bool} {held : Bool}

/-- A field that is a slice of bytes, opened. -/
theorem open_bts_field {fuel : Nat} {v : Value} {x : DataW H × List MemPlace} (hs : ∀ b, spare b = true) (h : DataW.trod enc Try.prog W base spare held fuel 36 [v] = some x) :
    ∃ A n c l, v = .slice A n c ∧ Bts W A n c l := by
  rcases open_ints Try.underlying36 Try.underlying5 (by kernel_rfl) h with ⟨hcs, _⟩ | ⟨x, l, c, zs, hcs, _, hl, hm, hz, _, hcell, hwz⟩
  · obtain rfl : v = .slice none 0 0 := by simpa using hcs
    exact ⟨none, 0, 0, [], rfl, bts_nil W⟩
  · obtain rfl : v = .slice (some x) l c := by simpa using hcs
    rw [hs, if_pos rfl] at hz
    obtain ⟨r, hr⟩ := IsRow.bts (w := W) (A := some x) (n := l) (c := c) (zs := zs) (.inr ⟨x, rfl, hl, hm, hz, hcell, hwz⟩)
    exact ⟨_, _, _, r, rfl, hr⟩

theorem open_int_field {fuel : Nat} {v : Value} {x : DataW H × List MemPlace} (h : DataW.trod enc Try.prog W base spare held fuel 3 [v] = some x) :
    ∃ n : Int, v = .int .i64 n ∧ -9223372036854775808 ≤ n ∧ n ≤ 9223372036854775807 := by
  obtain ⟨n, hcs, _, hw⟩ := DataW.trod_int Try.underlying3 h
  exact ⟨n, by simpa using hcs, wf_i64_le hw⟩

end
end Go.Proofs.Ytlbikfamjogpnaa
end

/- FramePlays' calls that came in, opened. Conditions: none. -/
section
namespace Go.Proofs.Ytlbikfamjogpnaa
open Go.ChangeShapes Go.WideShapes Go.Deep Go.RowKit

structure Ac5 where
  op : Int
  n : Int
  how : Int
  kind : UInt8
  life : Nat
  B : List UInt8
def Ac5.fits (x : Ac5) : Prop := x.n ≤ 9223372036854775807 ∧ x.life < 18446744073709551616
/-- The calls, below block B0: six cells each. -/
def Acts5At (w : World) (B0 : Nat) (A : Option Addr) (len : Nat) (L : List Ac5) : Prop :=
  L.length = len ∧ ∀ (i : Nat) (x : Ac5), L[i]? = some x → x.fits ∧ ∃ bb oo, A = some ⟨bb, oo, none⟩ ∧ bb < B0 ∧
    w.cell? ⟨bb, oo + i * 6, none⟩ = some (.int .i64 x.op) ∧ w.cell? ⟨bb, oo + i * 6 + 1, none⟩ = some (.int .i64 x.n) ∧ w.cell? ⟨bb, oo + i * 6 + 2, none⟩ = some (.int .i64 x.how) ∧
    w.cell? ⟨bb, oo + i * 6 + 3, none⟩ = some (.int .u8 (x.kind.toNat : Int)) ∧ w.cell? ⟨bb, oo + i * 6 + 4, none⟩ = some (.int .u64 (x.life : Int)) ∧ ∃ A' m c, w.cell? ⟨bb, oo + i * 6 + 5, none⟩ = some (.slice A' m c) ∧ BtsB w B0 A' m c x.B

section
variable {H : Type} {enc : TypeId × Value → H} {W : World} {base : Nat} {spare : Nat → Bool} {held : Bool}
theorem open_u8_field {fuel : Nat} {v : Value} {x : DataW H × List MemPlace} (h : DataW.trod enc Try.prog W base spare held fuel 5 [v] = some x) :
    ∃ n : UInt8, v = .int .u8 (n.toNat : Int) := by
  obtain ⟨n, hcs, _, hw⟩ := DataW.trod_int Try.underlying5 h
  simp only [Lit.wf, Bool.and_eq_true, decide_eq_true_eq] at hw
  have e1 : IntKind.u8.min = 0 := by decide
  have e2 : IntKind.u8.max = 255 := by decide
  obtain rfl : v = .int .u8 n := by simpa using hcs
  refine ⟨UInt8.ofNat n.toNat, ?_⟩
  congr 1
  simp
  omega
theorem open_u64_field {fuel : Nat} {v : Value} {x : DataW H × List MemPlace} (h : DataW.trod enc Try.prog W base spare held fuel 32 [v] = some x) :
    ∃ n : Nat, v = .int .u64 (n : Int) ∧ n < 18446744073709551616 := by
  obtain ⟨n, hcs, _, hw⟩ := DataW.trod_int Try.underlying32 h
  simp only [Lit.wf, Bool.and_eq_true, decide_eq_true_eq] at hw
  have e1 : IntKind.u64.min = 0 := by decide
  have e2 : IntKind.u64.max = 18446744073709551615 := by decide
  obtain rfl : v = .int .u64 n := by simpa using hcs
  refine ⟨n.toNat, ?_, by omega⟩
  congr 1
  omega
set_option maxHeartbeats 400000 in
theorem open_acts5 {fuel : Nat} {v : Value} {x : DataW H × List MemPlace} (hs : ∀ b, spare b = true) (h : DataW.trod enc Try.prog W base spare held fuel 44 [v] = some x) :
    ∃ A n c L, v = .slice A n c ∧ n ≤ c ∧ c ≤ maxLen ∧ Acts5At W W.heap.size A n L := by
  rcases open_slice_fields Try.underlying44 Try.underlying51 (by kernel_rfl) (by kernel_rfl) h with ⟨hcs, _⟩ | ⟨a, len, cap, m, D, Pl, hcs, _, hl, hm, hmm, _, hi⟩
  · obtain rfl : v = .slice none 0 0 := by simpa using hcs
    exact ⟨none, 0, 0, [], rfl, Nat.le_refl _, Nat.zero_le _, rfl, fun i x hx => by simp at hx⟩
  · obtain rfl : v = .slice (some a) len cap := by simpa using hcs
    rw [hs, if_pos rfl] at hmm
    subst hmm
    have each : ∀ i, i < len → ∃ x : Ac5, x.fits ∧ ∃ bb oo, (some a : Option Addr) = some ⟨bb, oo, none⟩ ∧ bb < W.heap.size ∧
        W.cell? ⟨bb, oo + i * 6, none⟩ = some (.int .i64 x.op) ∧ W.cell? ⟨bb, oo + i * 6 + 1, none⟩ = some (.int .i64 x.n) ∧ W.cell? ⟨bb, oo + i * 6 + 2, none⟩ = some (.int .i64 x.how) ∧
        W.cell? ⟨bb, oo + i * 6 + 3, none⟩ = some (.int .u8 (x.kind.toNat : Int)) ∧ W.cell? ⟨bb, oo + i * 6 + 4, none⟩ = some (.int .u64 (x.life : Int)) ∧ ∃ A' m c, W.cell? ⟨bb, oo + i * 6 + 5, none⟩ = some (.slice A' m c) ∧ BtsB W W.heap.size A' m c x.B := by
      intro i hil
      obtain ⟨ys0, n0, _, _, _, hf0⟩ := hi 0 (by omega)
      obtain ⟨v00, _, h00, _, _⟩ := hf0 0 _ rfl
      have ha : a = ⟨a.block, a.off, none⟩ := by
        have e : a.add (0 * 6 + 0) = a := by simp [Addr.add]
        exact plain_of_cell (by rw [← e]; exact h00)
      obtain ⟨ys, n, _, _, _, hf⟩ := hi i (by omega)
      obtain ⟨v0, y0, c0, _, t0⟩ := hf 0 _ rfl
      obtain ⟨v1, y1, c1, _, t1⟩ := hf 1 _ rfl
      obtain ⟨v2, y2, c2, _, t2⟩ := hf 2 _ rfl
      obtain ⟨v3, y3, c3, _, t3⟩ := hf 3 _ rfl
      obtain ⟨v4, y4, c4, _, t4⟩ := hf 4 _ rfl
      obtain ⟨v5, y5, c5, _, t5⟩ := hf 5 _ rfl
      obtain ⟨x0, rfl, _, _⟩ := open_int_field t0
      obtain ⟨x1, rfl, _, hx1⟩ := open_int_field t1
      obtain ⟨x2, rfl, _, _⟩ := open_int_field t2
      obtain ⟨x3, rfl⟩ := open_u8_field t3
      obtain ⟨x4, rfl, hx4⟩ := open_u64_field t4
      obtain ⟨A', m', c', l, rfl, hb⟩ := open_bts_field hs t5
      rw [ha] at c0 c1 c2 c3 c4 c5
      simp only [add_plain, List.size_toArray, List.length_cons, List.length_nil, Nat.reduceAdd, Nat.add_zero, ← Nat.add_assoc] at c0 c1 c2 c3 c4 c5
      exact ⟨⟨x0, x1, x2, x3, x4, l⟩, ⟨hx1, hx4⟩, a.block, a.off, by rw [← ha], World.block_lt_of_cell? W ⟨a.block, a.off + i * 6, none⟩ c0, c0, c1, c2, c3, c4, A', m', c', c5, hb⟩
    have list : ∀ k, k ≤ len → ∃ L : List Ac5, L.length = k ∧ ∀ (i : Nat) (x : Ac5), L[i]? = some x → x.fits ∧ ∃ bb oo, (some a : Option Addr) = some ⟨bb, oo, none⟩ ∧ bb < W.heap.size ∧
        W.cell? ⟨bb, oo + i * 6, none⟩ = some (.int .i64 x.op) ∧ W.cell? ⟨bb, oo + i * 6 + 1, none⟩ = some (.int .i64 x.n) ∧ W.cell? ⟨bb, oo + i * 6 + 2, none⟩ = some (.int .i64 x.how) ∧
        W.cell? ⟨bb, oo + i * 6 + 3, none⟩ = some (.int .u8 (x.kind.toNat : Int)) ∧ W.cell? ⟨bb, oo + i * 6 + 4, none⟩ = some (.int .u64 (x.life : Int)) ∧ ∃ A' m c, W.cell? ⟨bb, oo + i * 6 + 5, none⟩ = some (.slice A' m c) ∧ BtsB W W.heap.size A' m c x.B := by
      intro k
      induction k with
      | zero => exact fun _ => ⟨[], rfl, fun i x hx => by simp at hx⟩
      | succ k ih =>
        intro hk
        obtain ⟨L, hL, hall⟩ := ih (by omega)
        obtain ⟨x, hx⟩ := each k (by omega)
        refine ⟨L ++ [x], by simp [hL], fun i y hy => ?_⟩
        by_cases e : i < k
        · rw [List.getElem?_append_left (by omega)] at hy
          exact hall i y hy
        · have hik : i = k := by
            have := (List.getElem?_eq_some_iff.1 hy).1
            simp at this
            omega
          subst hik
          rw [List.getElem?_append_right (by omega), hL, Nat.sub_self] at hy
          simp at hy
          subst hy
          exact hx
    obtain ⟨L, hL, hall⟩ := list len (Nat.le_refl _)
    exact ⟨some a, len, m, L, rfl, hl, hm, hL, hall⟩
end
theorem Acts5At.at_ {w : World} {B0 len : Nat} {A : Option Addr} {L : List Ac5} (h : Acts5At w B0 A len L) {i : Nat} (hi : i < len) :
    ∃ (x : Ac5) (bb oo : Nat) (A' : Option Addr) (m c : Nat), x.fits ∧ A = some ⟨bb, oo, none⟩ ∧ ∀ w', Below B0 w w' → w'.cell? ⟨bb, oo + i * 6, none⟩ = some (.int .i64 x.op) ∧ w'.cell? ⟨bb, oo + i * 6 + 1, none⟩ = some (.int .i64 x.n) ∧ w'.cell? ⟨bb, oo + i * 6 + 2, none⟩ = some (.int .i64 x.how) ∧
      w'.cell? ⟨bb, oo + i * 6 + 3, none⟩ = some (.int .u8 (x.kind.toNat : Int)) ∧ w'.cell? ⟨bb, oo + i * 6 + 4, none⟩ = some (.int .u64 (x.life : Int)) ∧ w'.cell? ⟨bb, oo + i * 6 + 5, none⟩ = some (.slice A' m c) ∧ BtsB w' B0 A' m c x.B := by
  obtain ⟨x, hx⟩ : ∃ x, L[i]? = some x := ⟨_, List.getElem?_eq_getElem (by rw [h.1]; exact hi)⟩
  obtain ⟨hf, bb, oo, e, hB, h0, h1, h2, h3, h4, A', m, c, h5, h6⟩ := h.2 i x hx
  refine ⟨x, bb, oo, A', m, c, hf, e, fun w' hb => ?_⟩
  have k : ∀ j, w'.cell? ⟨bb, j, none⟩ = w.cell? ⟨bb, j, none⟩ := fun j => hb.cell hB
  exact ⟨(k _).trans h0, (k _).trans h1, (k _).trans h2, (k _).trans h3, (k _).trans h4, (k _).trans h5, h6.below hb⟩
end Go.Proofs.Ytlbikfamjogpnaa
end

/- What FramePlays keeps from call to call: a disk and an area, and the reference's, that are one. Conditions: none. -/
section
namespace Go.Proofs.Ytlbikfamjogpnaa
open Go.RowKit
set_option linter.unusedVariables false

theorem dput_len (d : Dk) (s : Int) (b : List UInt8) : (d.write s b).1.S.length = d.S.length := by
  unfold Dk.write
  repeat' split
  all_goals first
    | rfl
    | exact List.length_set ..
theorem wrun_len (base : Nat) (rows : List (List UInt8)) (l : List BIx) : ∀ d : Dk, (wrun base rows d l).1.S.length = d.S.length := by
  induction l with
  | nil => intro d; rfl
  | cons x l ih =>
    intro d
    rw [wrun]
    split
    · rw [ih, dput_len]
    · exact dput_len _ _ _
structure PL (w0 w : World) (b a rb ra p q first sectors : Nat) (A : Ar) (d : Dk) (fs : List (UInt8 × List UInt8)) : Prop where
  disk : DiskAt w b a d
  rdisk : RDiskAt w rb ra d
  area : AreaAt w w0.heap.size p b A
  rarea : RAreaAt w w0.heap.size q rb A fs
  same : Same A fs
  fst : A.first = first
  sec : A.sectors = sectors
  use : A.used ≤ A.sectors
  fit : first + sectors ≤ d.S.length
  below : Below w0.heap.size w0 w
  lb : w0.heap.size ≤ b
  la : w0.heap.size ≤ a
  lrb : w0.heap.size ≤ rb
  lra : w0.heap.size ≤ ra

theorem DKept.weak {S T : Nat → Prop} {w w' : World} (h : DKept S w w') (hs : ∀ k, S k → T k) : DKept T w w' := ⟨h.os, h.tape, h.output, h.size, fun k hk hn => h.block k hk (fun h => hn (hs k h))⟩
theorem AreaAt.base {w : World} {B B' p b : Nat} {A : Ar} (h : AreaAt w B p b A) (hB : B' ≤ B) : AreaAt w B' p b A := by
  obtain ⟨h0, At, c, hk, ho⟩ := h
  exact ⟨Nat.le_trans hB h0, At, c, hk, own_base ho hB⟩
theorem RAreaAt.base {w : World} {B B' q rb : Nat} {A : Ar} {fs : List (UInt8 × List UInt8)} (h : RAreaAt w B q rb A fs) (hB : B' ≤ B) : RAreaAt w B' q rb A fs := by
  obtain ⟨h0, Lt, c, hk, ho⟩ := h
  exact ⟨Nat.le_trans hB h0, Lt, c, hk, own_base ho hB⟩

/-- The program's blocks are none of other kinds. -/
theorem prog_none {w : World} {b a B p : Nat} {A : Ar} {d : Dk} (hd : DiskAt w b a d) (ha : AreaAt w B p b A) {g : Nat} {t : TypeId} {cs : Array Value} (hg : Blk w g t cs)
    (h1 : t ≠ 95) (h2 : t ≠ 36) (h3 : t ≠ 97) (h4 : t ≠ 3) : ¬ (DS b a g ∨ AB w p g) := by
  obtain ⟨c, arr, hb1, ha1, _⟩ := hd
  obtain ⟨_, At, c', hk, ho⟩ := ha
  rintro ((e | e) | (e | ⟨n, c9, e⟩))
  · subst e; exact hg.ne_ hb1 h1 rfl
  · subst e; exact hg.ne_ ha1 h2 rfl
  · subst e; exact hg.ne_ hk h3 rfl
  · obtain ⟨-, -, -, -, -, c5, -⟩ := area_cells hk
    rw [c5] at e
    injection e with e
    injection e with e
    subst e
    exact own_blk_ne ho hg (fun e => h4 e.symm) rfl
/-- The reference's blocks are none of other kinds. -/
theorem ref_none {w : World} {rb ra B q : Nat} {A : Ar} {d : Dk} {fs : List (UInt8 × List UInt8)} (hd : RDiskAt w rb ra d) (ha : RAreaAt w B q rb A fs) {g : Nat} {t : TypeId} {cs : Array Value} (hg : Blk w g t cs)
    (h1 : t ≠ 109) (h2 : t ≠ 9) (h3 : t ≠ 55) (h4 : t ≠ 112) : ¬ (DS rb ra g ∨ RAB w q g) := by
  obtain ⟨c, arr, how, hb1, _, ha1, _⟩ := hd
  obtain ⟨_, Lt, c', hk, ho⟩ := ha
  rintro ((e | e) | (e | ⟨n, c9, e⟩))
  · subst e; exact hg.ne_ hb1 h1 rfl
  · subst e; exact hg.ne_ ha1 h2 rfl
  · subst e; exact hg.ne_ hk h3 rfl
  · obtain ⟨-, -, -, -, c4, -⟩ := rarea_cells hk
    rw [c4] at e
    injection e with e
    injection e with e
    subst e
    exact own_blk_ne ho hg (fun e => h4 e.symm) rfl
section
variable {w w' : World} {b a rb ra B B' p q : Nat} {A : Ar} {d : Dk} {fs : List (UInt8 × List UInt8)}
theorem ref_stays (hd : DiskAt w b a d) (ha : AreaAt w B p b A) (hrd : RDiskAt w rb ra d) (hra : RAreaAt w B' q rb A fs) (hk : DKept (fun k => DS b a k ∨ AB w p k) w w') : RDiskAt w' rb ra d ∧ RAreaAt w' B' q rb A fs := by
  constructor
  · obtain ⟨c, arr, how, hb1, _, ha1, _⟩ := id hrd
    exact hrd.keep (hk.block rb hb1.lt (prog_none hd ha hb1 (by decide) (by decide) (by decide) (by decide))) (hk.block ra ha1.lt (prog_none hd ha ha1 (by decide) (by decide) (by decide) (by decide)))
  · obtain ⟨h0, Lt, c, hkk, ho⟩ := hra
    refine ⟨h0, Lt, c, hk.blk hkk (prog_none hd ha hkk (by decide) (by decide) (by decide) (by decide)), own_keep ho fun g hg => ?_⟩
    rcases ho.2 with ⟨e, _⟩ | ⟨g1, cap, cur, e, _, hh, _⟩
    · rw [e] at hg; cases hg
    · rw [e] at hg
      injection hg with hg
      subst hg
      exact hk.block g1 (Blk.lt (t := 112) hh) (prog_none hd ha (t := 112) hh (by decide) (by decide) (by decide) (by decide))
theorem prog_stays (hd : DiskAt w b a d) (ha : AreaAt w B p b A) {d2 : Dk} {A2 : Ar} {fs2 : List (UInt8 × List UInt8)} (hrd : RDiskAt w rb ra d2) (hra : RAreaAt w B' q rb A2 fs2) (hk : DKept (fun k => DS rb ra k ∨ RAB w q k) w w') : DiskAt w' b a d ∧ AreaAt w' B p b A := by
  constructor
  · obtain ⟨c, arr, hb1, ha1, _⟩ := id hd
    exact hd.keep (hk.block b hb1.lt (ref_none hrd hra hb1 (by decide) (by decide) (by decide) (by decide))) (hk.block a ha1.lt (ref_none hrd hra ha1 (by decide) (by decide) (by decide) (by decide)))
      (fun g cs hg => hk.blk hg (ref_none hrd hra hg (by decide) (by decide) (by decide) (by decide)))
  · obtain ⟨h0, At, c, hkk, ho⟩ := ha
    refine ⟨h0, At, c, hk.blk hkk (ref_none hrd hra hkk (by decide) (by decide) (by decide) (by decide)), own_keep ho fun g hg => ?_⟩
    rcases ho.2 with ⟨e, _⟩ | ⟨g1, cap, cur, e, _, hh, _⟩
    · rw [e] at hg; cases hg
    · rw [e] at hg
      injection hg with hg
      subst hg
      exact hk.block g1 (Blk.lt (t := 3) hh) (ref_none hrd hra (t := 3) hh (by decide) (by decide) (by decide) (by decide))
theorem RAB_ge (h : RAreaAt w B q rb A fs) : ∀ k, RAB w q k → B ≤ k := by
  obtain ⟨h0, Lt, c, hk, ho⟩ := h
  rintro k (rfl | ⟨n, c', e⟩)
  · exact h0
  · obtain ⟨-, -, -, -, c4, -⟩ := rarea_cells hk
    rw [c4] at e
    injection e with e
    injection e with e
    subst e
    exact (ho.lt k rfl).1
end

section
variable {w0 w w' : World} {b a rb ra p q first sectors : Nat} {A : Ar} {d : Dk} {fs : List (UInt8 × List UInt8)}
theorem PL.later (h : PL w0 w b a rb ra p q first sectors A d fs) (hb : Below w.heap.size w w') : PL w0 w' b a rb ra p q first sectors A d fs :=
  ⟨h.disk.below hb, h.rdisk.below hb, h.area.below hb, h.rarea.below hb, h.same, h.fst, h.sec, h.use, h.fit, h.below.trans (hb.mono h.below.size), h.lb, h.la, h.lrb, h.lra⟩
theorem PL.low_prog (h : PL w0 w b a rb ra p q first sectors A d fs) (hk : DKept (fun k => DS b a k ∨ AB w p k) w w') : Below w0.heap.size w0 w' := kept_low h.below h.area (Nat.le_refl _) h.lb h.la hk
theorem PL.low_ref (hB : Below w0.heap.size w0 w) (hlb : w0.heap.size ≤ rb) (hla : w0.heap.size ≤ ra) (hra : RAreaAt w w0.heap.size q rb A fs) (hk : DKept (fun k => DS rb ra k ∨ RAB w q k) w w') : Below w0.heap.size w0 w' :=
  DKept.low hB (Nat.le_refl _) (by
    rintro i ((rfl | rfl) | hi)
    · exact hlb
    · exact hla
    · exact RAB_ge hra i hi) hk
/-- The disk turned on both sides. -/
theorem PL.disks (h : PL w0 w b a rb ra p q first sectors A d fs) {w1 w2 : World} {d' : Dk} (h1 : DiskAt w1 b a d') (k1 : DKept (DS b a) w w1) (h2 : RDiskAt w2 rb ra d') (k2 : DKept (DS rb ra) w1 w2) (hl : d'.S.length = d.S.length) : PL w0 w2 b a rb ra p q first sectors A d' fs := by
  have k1' : DKept (fun k => DS b a k ∨ AB w p k) w w1 := k1.weak (fun _ h => .inl h)
  obtain ⟨r1, r2⟩ := ref_stays h.disk h.area h.rdisk h.rarea k1'
  have ha1 := h.area.disk h.disk k1
  have hB1 := h.low_prog k1'
  have k2' : DKept (fun k => DS rb ra k ∨ RAB w1 q k) w1 w2 := k2.weak (fun _ h => .inl h)
  obtain ⟨p1, p2⟩ := prog_stays h1 ha1 r1 r2 k2'
  exact ⟨p1, h2, p2, r2.disk r1 k2, h.same, h.fst, h.sec, h.use, by rw [hl]; exact h.fit, PL.low_ref hB1 h.lrb h.lra r2 k2', h.lb, h.la, h.lrb, h.lra⟩
theorem add_e {B : Nat} {kind : UInt8} {bs : List UInt8} {e : Ending} (h : AddPost w B p b a A d kind bs e w') : ∃ v y, e = .returned (.tuple #[.int .i64 v, .int .i64 y]) := by
  unfold AddPost at h
  split at h
  · exact ⟨_, _, h.1⟩
  · split at h
    · exact ⟨_, _, h.1⟩
    · split at h
      · exact ⟨_, _, h.1⟩
      · obtain ⟨_, r, _, he, _⟩ := h
        exact ⟨_, _, he⟩
/-- Behind the program's Add. -/
theorem add_mid {kind : UInt8} {bs : List UInt8} {e : Ending} (h : PL w0 w b a rb ra p q first sectors A d fs) (hp : AddPost w w0.heap.size p b a A d kind bs e w') : RDiskAt w' rb ra d ∧ RAreaAt w' w0.heap.size q rb A fs ∧ Below w0.heap.size w0 w' := by
  have hb : ∀ w', Below w.heap.size w w' → RDiskAt w' rb ra d ∧ RAreaAt w' w0.heap.size q rb A fs ∧ Below w0.heap.size w0 w' := fun w' hb => ⟨h.rdisk.below hb, h.rarea.below hb, h.below.trans (hb.mono h.below.size)⟩
  unfold AddPost at hp
  split at hp
  · exact hb _ hp.2.2.2
  · split at hp
    · exact hb _ hp.2.2.2
    · split at hp
      · exact hb _ hp.2.2.2
      · obtain ⟨_, r, _, _, _, _, hk⟩ := hp
        obtain ⟨h1, h2⟩ := ref_stays h.disk h.area h.rdisk h.rarea hk
        exact ⟨h1, h2, h.low_prog hk⟩
/-- Behind both Adds: they answered alike, and all is one again. -/
theorem add_both {kind : UInt8} {bs : List UInt8} {v y : Int} {e : Ending} {w1 : World} (h : PL w0 w b a rb ra p q first sectors A d fs) (hp : AddPost w w0.heap.size p b a A d kind bs (.returned (.tuple #[.int .i64 v, .int .i64 y])) w1)
    (hr : RAddPost w1 w0.heap.size q rb ra A fs d kind bs e w') : e = .returned (.tuple #[.int .i64 v, .int .i64 y]) ∧ ∃ A' d' fs', PL w0 w' b a rb ra p q first sectors A' d' fs' := by
  obtain ⟨m1, m2, m3⟩ := add_mid h hp
  unfold AddPost at hp
  unfold RAddPost at hr
  by_cases c1 : 1000 < bs.length
  · rw [if_pos c1] at hp hr
    obtain ⟨e1, a1, d1, b1⟩ := hp
    exact ⟨hr.1.trans e1.symm, A, d, fs, (h.later b1).later hr.2⟩
  · rw [if_neg c1] at hp hr
    by_cases c2 : A.lives ≠ d.lives
    · rw [if_pos c2] at hp hr
      obtain ⟨e1, a1, d1, b1⟩ := hp
      exact ⟨hr.1.trans e1.symm, A, d, fs, (h.later b1).later hr.2⟩
    · rw [if_neg c2] at hp hr
      by_cases c3 : A.sectors < A.used + fsz bs.length
      · rw [if_pos c3] at hp hr
        obtain ⟨e1, a1, d1, b1⟩ := hp
        exact ⟨hr.1.trans e1.symm, A, d, fs, (h.later b1).later hr.2⟩
      · rw [if_neg c3] at hp hr
        obtain ⟨hl, r, hre, e1, d1, a1, k1⟩ := hp
        obtain ⟨hl', r', hre', e2, d2, a2, k2⟩ := hr
        obtain rfl : r = r' := by rw [hre, hre']
        obtain ⟨p1, p2⟩ := prog_stays d1 a1 m1 m2 k2
        have hrl : r.1.S.length = d.S.length := by
          rw [hre]
          exact wrun_len _ _ _ d
        refine ⟨e2.trans e1.symm, _, r.1, _, p1, d2, p2, a2, ?_, ?_, ?_, ?_, by rw [hrl]; exact h.fit, PL.low_ref m3 h.lrb h.lra m2 k2, h.lb, h.la, h.lrb, h.lra⟩
        · by_cases hr0 : r.2 = 0
          · rw [if_pos hr0, if_pos hr0]
            exact h.same.more (x := ⟨kind, 0, 0, bs⟩) (by show bs.length ≤ 1000; omega)
          · rw [if_neg hr0, if_neg hr0]
            exact h.same
        · split
          · exact h.fst
          · exact h.fst
        · split
          · exact h.sec
          · exact h.sec
        · split
          · show A.used + fsz bs.length ≤ A.sectors
            omega
          · exact h.use
/-- A block of a call stays. -/
theorem act_prog (hd : DiskAt w b a d) {B : Nat} (ha : AreaAt w B p b A) {g : Nat} {cs : Array Value} (hg : Blk w g 51 cs) (hk : DKept (fun k => DS b a k ∨ AB w p k) w w') : Blk w' g 51 cs :=
  hk.blk hg (prog_none hd ha hg (by decide) (by decide) (by decide) (by decide))
theorem act_add {kind : UInt8} {bs : List UInt8} {e : Ending} (h : PL w0 w b a rb ra p q first sectors A d fs) (hp : AddPost w w0.heap.size p b a A d kind bs e w') {g : Nat} {cs : Array Value} (hg : Blk w g 51 cs) : Blk w' g 51 cs := by
  unfold AddPost at hp
  split at hp
  · exact hg.below hp.2.2.2 hg.lt
  · split at hp
    · exact hg.below hp.2.2.2 hg.lt
    · split at hp
      · exact hg.below hp.2.2.2 hg.lt
      · obtain ⟨_, r, _, _, _, _, hk⟩ := hp
        exact act_prog h.disk h.area hg hk
/-- Begin on both sides. -/
theorem begin_both (h : PL w0 w b a rb ra p q first sectors A d fs) {w1 : World} (life : Nat) (ha : AreaAt w1 w0.heap.size p b { A with life := life, ats := [], used := 0 }) (hk : DKept (fun k => k = p) w w1) :
    w1.frozen? ⟨q, 3, none⟩ = false ∧ w1.frozen? ⟨q, 4, none⟩ = false ∧ (∃ v3, w1.cell? ⟨q, 3, none⟩ = some v3) ∧ (∃ v4, w1.cell? ⟨q, 4, none⟩ = some v4) ∧
    PL w0 ((w1.setCell ⟨q, 3, none⟩ (.int .u64 (life : Int))).setCell ⟨q, 4, none⟩ (.slice none 0 0)) b a rb ra p q first sectors { A with life := life, ats := [], used := 0 } d [] := by
  have hkp : DKept (fun k => DS b a k ∨ AB w p k) w w1 := hk.weak (fun k e => .inr (.inl e))
  obtain ⟨r1, r2⟩ := ref_stays h.disk h.area h.rdisk h.rarea hkp
  have hd1 := h.disk.area h.area hk
  have hB1 := h.low_prog hkp
  have hk2 : DKept (fun k => k = q) w1 ((w1.setCell ⟨q, 3, none⟩ (.int .u64 (life : Int))).setCell ⟨q, 4, none⟩ (.slice none 0 0)) := DKept.set (DKept.set DKept.refl rfl) rfl
  have hk2' : DKept (fun k => DS rb ra k ∨ RAB w1 q k) w1 ((w1.setCell ⟨q, 3, none⟩ (.int .u64 (life : Int))).setCell ⟨q, 4, none⟩ (.slice none 0 0)) := hk2.weak (fun k e => .inr (.inl e))
  obtain ⟨p1, p2⟩ := prog_stays hd1 ha r1 r2 hk2'
  obtain ⟨h0, Lt, c, hq, ho⟩ := id r2
  obtain ⟨-, -, -, c3, c4, -⟩ := rarea_cells hq
  refine ⟨hq.frozen 3, hq.frozen 4, ⟨_, c3⟩, ⟨_, c4⟩, p1, ?_, p2, ⟨h0, none, 0, ?_, rfl, .inl ⟨rfl, rfl⟩⟩, ⟨rfl, rfl, fun i k x hx => by simp at hx⟩, h.fst, h.sec, Nat.zero_le _, h.fit, PL.low_ref hB1 h.lrb h.lra r2 hk2', h.lb, h.la, h.lrb, h.lra⟩
  · refine r1.keep2 hk2 (fun k e => ?_)
    subst e
    obtain ⟨_, _, _, hb9, _, ha9, _⟩ := r1
    exact ⟨hq.ne_ hb9 (by decide), hq.ne_ ha9 (by decide)⟩
  · have := (hq.set_ 3 (.int .u64 (life : Int))).set_ 4 (.slice none 0 0)
    exact this
end
end Go.Proofs.Ytlbikfamjogpnaa
end
