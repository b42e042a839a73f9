/- The reference's disk: its functions answer as the plain disk does. Conditions: the disk lies in memory as RDiskAt says. -/
import Derived.Test.YtifldkcfbggkeaaKeepsM
import Derived.Deep.RegionLaw
import Derived.Deep.LoopGhost
namespace Go.Proofs.Ytifldkcfbggkeaa
open Go.RowKit

def str (l : List UInt8) : Value := .string ⟨l.toArray⟩

theorem info_str : (Try.prog.info? 9).map (fun i => (i.zero, i.size, i.bytes)) = some (some (.string ⟨#[]⟩), 1, 16) := by kernel_rfl

/-- The reference's disk: its struct lies in block b, its sectors' strings in block a. -/
def RDiskAt (w : World) (b a : Nat) (d : Dk) : Prop :=
  ∃ (c : Nat) (arr : Array Value) (how : Int),
    Blk w b 39 #[.slice (some ⟨a, 0, none⟩) d.S.length c, .bool d.off, .int .i64 d.cut, .int .i64 how, .int .i64 d.writes, .int .i64 d.lives] ∧
    (how.tmod 2 != 0) = d.odd ∧ Blk w a 9 arr ∧ arr.size = c ∧ d.S.length ≤ c ∧ c ≤ maxLen ∧ 1 ≤ d.S.length ∧ d.S.length ≤ 4096 ∧ 0 ≤ d.cut ∧ d.cut ≤ 9223372036854775807 ∧
    ∀ (i : Nat) (s : List UInt8), d.S[i]? = some s → arr[i]? = some (str s)

theorem RDiskAt.keep {w w' : World} {b a : Nat} {d : Dk} (h : RDiskAt w b a d) (hb : w'.heap[b]? = w.heap[b]?) (ha : w'.heap[a]? = w.heap[a]?) : RDiskAt w' b a d := by
  obtain ⟨c, arr, how, h1, h2, h3, r⟩ := h
  exact ⟨c, arr, how, hb.trans h1, h2, ha.trans h3, r⟩
theorem RDiskAt.ne {w : World} {b a : Nat} {d : Dk} (h : RDiskAt w b a d) : b ≠ a := by
  obtain ⟨c, arr, how, h1, _, h2, _⟩ := h
  exact h1.ne_ h2 (by decide)
theorem RDiskAt.ltb {w : World} {b a : Nat} {d : Dk} (h : RDiskAt w b a d) : b < w.heap.size := by
  obtain ⟨c, arr, how, h1, _⟩ := h
  exact h1.lt
theorem RDiskAt.lta {w : World} {b a : Nat} {d : Dk} (h : RDiskAt w b a d) : a < w.heap.size := by
  obtain ⟨c, arr, how, h1, _, h2, _⟩ := h
  exact h2.lt
theorem RDiskAt.below {w w' : World} {b a : Nat} {d : Dk} (h : RDiskAt w b a d) (hb : Below w.heap.size w w') : RDiskAt w' b a d := h.keep (hb.block b h.ltb) (hb.block a h.lta)

theorem rdisk_cells {b : Nat} {w : World} {v0 v1 v2 v3 v4 v5 : Value} (h : Blk w b 39 #[v0, v1, v2, v3, v4, v5]) :
    w.cell? ⟨b, 0, none⟩ = some v0 ∧ w.cell? ⟨b, 1, none⟩ = some v1 ∧ w.cell? ⟨b, 2, none⟩ = some v2 ∧ w.cell? ⟨b, 3, none⟩ = some v3 ∧ w.cell? ⟨b, 4, none⟩ = some v4 ∧ w.cell? ⟨b, 5, none⟩ = some v5 :=
  ⟨(h.cell 0).trans rfl, (h.cell 1).trans rfl, (h.cell 2).trans rfl, (h.cell 3).trans rfl, (h.cell 4).trans rfl, (h.cell 5).trans rfl⟩

/-- A row of noughts. -/
def zs (n : Nat) : List UInt8 := List.replicate n 0
def zsrow (n : Nat) : Array Value := ((zs n).map u8).toArray

theorem make_zs (n : Nat) (hn : n ≤ 140737488355328) (w : World) :
    (Instr.makeSlice 27 (.int .i64 (n : Int)) (.int .i64 (n : Int))).run Try.prog w = .ok (.slice (some ⟨w.heap.size, 0, none⟩) n n) (w.alloc (.cells (zsrow n) 5)) := by
  obtain ⟨i0, hi0, hz0, hz1, hz2⟩ := info_parts info_u8
  have hr := run_make (P := Try.prog) w 27 5 i0 (.int .u8 0) Try.underlying27 hi0 hz0 .i64 .i64 (n : Int) (n : Int) (by omega) (by omega) (by rw [hz2]; omega) (by omega)
  rw [hz1] at hr
  have e : madeCells (Value.int .u8 0).cells ((n : Int).toNat * 1) = zsrow n := by
    apply Array.toList_inj.1
    have := toList_madeCells_one (.int .u8 0) n
    simp only [Value.cells, Int.toNat_natCast, Nat.mul_one] at this ⊢
    rw [this]
    simp [zsrow, zs, u8]
  rw [e] at hr
  exact hr

set_option maxHeartbeats 400000 in
theorem zeros_any (n : Nat) (hn : n ≤ 140737488355328) (w : World) :
    Calls Try.prog 49 #[.int .i64 (n : Int)] w fun e w' => e = .returned (.string ⟨(zs n).toArray⟩) ∧ w.alloc (.cells (zsrow n) 5) = w' := by
  have hmk := make_zs n hn
  have cv := run_string_of (P := Try.prog) (w.alloc (.cells (zsrow n) 5)) 27 9 5 Try.underlying27 Try.underlying5 Try.underlying9 (c := n) (l := zs n) (B := w.heap.size + 1) (n := n) (A := some ⟨w.heap.size, 0, none⟩)
    ⟨by simp [zs], fun _ => ⟨_, rfl, by simp, fun j u hu => by
      rw [show (⟨w.heap.size, 0, none⟩ : Addr).add j = ⟨w.heap.size, j, none⟩ by unfold Addr.add; by_cases e : j = 0 <;> simp [e], (Blk.new w 5 (zsrow n)).cell j]
      simpa [zsrow] using hu⟩⟩
  go_enter Try.func49, Try.ntmps49
  go_wp2
  go_ret
  exact ⟨rfl, rfl⟩

theorem one_new2 (W : World) (o : Obj) (x : Value) (t : TypeId) : ∀ j u, [x][j]? = some u → ((W.alloc o).alloc (.cells #[x] t)).drew.cell? ((⟨W.heap.size + 1, 0, none⟩ : Addr).add j) = some u := by
  intro j u h
  have := cell_one_new (W.alloc o) x t j u h
  simpa using this

set_option maxHeartbeats 1000000 in
theorem newdisk_any (n : Nat) (h1 : 1 ≤ n) (h2 : n ≤ 64) (w : World) :
    Calls Try.prog 17 #[.int .i64 (n : Int)] w fun e w' => ∃ b a, e = .returned (.pointer (some ⟨b, 0, none⟩)) ∧ RDiskAt w' b a (Dk.new n) ∧ w.heap.size ≤ b ∧ w.heap.size ≤ a ∧ Below w.heap.size w w' := by
  obtain ⟨i0, hi0, hz0, hz1, hz2⟩ := info_parts info_str
  go_enter Try.func17, Try.ntmps17
  go_wp2_with fail
  go_loopg [4] n (fun k i wr => ∃ (j : Nat) (A : Option Addr) (c : Nat), j + k = n ∧ i = .int .i64 (j : Int) ∧
    Blk wr w.heap.size 39 #[.slice A j c, .bool false, .int .i64 0, .int .i64 0, .int .i64 0, .int .i64 1] ∧ wr.ownsRow w.heap.size 9 1 (.slice A j c) j (List.replicate j (str zeros64)) ∧ Below w.heap.size w wr)
  case atStart => exact ⟨0, none, 0, by omega, rfl, Blk.new _ _ _, World.ownsRow_nil _ _ _ _, (Below.refl _ _).alloc (Nat.le_refl _) _⟩
  case round =>
    obtain ⟨j, A, c, hj, rfl, hb, hown, hB⟩ := hrel
    by_cases hlt : j < n
    · have HJ := Lib.hid hj
      have HO := Lib.hid hown
      have HB := Lib.hid hb
      clear hj hown
      have c0 := (rdisk_cells hb).1
      have f0 := hb.frozen 0
      have hbl := hb.lt
      clear hb
      have hz := fun W => zeros_any 64 (by omega) W
      have HZ := Lib.hid hz
      clear hz
      go_wp2_with fail
      go_region_law (first
        | (go_simp; go_at_call 49; refine (HZ.out _).mono ?_; rintro e w2 ⟨rfl, rfl⟩)
        | (refine step_append_lies ((wr.alloc (.cells (zsrow 64) 5)).alloc (.cells #[.string ⟨(zs 64).toArray⟩] 9)).drew rfl (.tmp 16) (.tmp 18) _ rfl w.heap.size 9 i0 _ 1 16 Try.underlying37 hi0 hz0 hz1 hz2 rfl (by omega) (.slice A j c) j (List.replicate j (str zeros64)) rfl (show World.ownsRow ((wr.alloc (.cells (zsrow 64) 5)).alloc (.cells #[.string ⟨(zs 64).toArray⟩] 9)) _ _ _ _ _ _ from ((HO.out.alloc _).alloc _)) ⟨wr.heap.size + 1, 0, none⟩ 1 1 [.string ⟨(zs 64).toArray⟩] rfl rfl (one_new2 wr (.cells (zsrow 64) 5) (.string ⟨(zs 64).toArray⟩) 9) (by intro u hu; simp at hu; subst hu; rfl) (by omega) (by unfold maxLen; omega) (by omega) (by simp; omega) _ rfl ?_; intro g c' w1 hown1 hg1 hat1 hlt1
           have hb1 : Blk w1 w.heap.size 39 #[.slice A j c, .bool false, .int .i64 0, .int .i64 0, .int .i64 0, .int .i64 1] := Blk.grown (((HB.out.alloc _).alloc _).drew) hg1 (fun e => own_blk_ne HO.out HB.out (by decide) e.symm)
           have n0 := (rdisk_cells hb1).1
           have m0 := hb1.frozen 0
           have HB1 := Lib.hid hb1
           have HO1 := Lib.hid hown1
           have HG1 := Lib.hid hg1
           clear hb1 hown1 hg1 hat1))
      all_goals
        go_wp2
        go_roundg (n - (j + 1))
        case measure => have := HJ.out; omega
        case rel =>
          refine ⟨j + 1, some ⟨g, 0, none⟩, c', by have := HJ.out; omega, by go_num, ?_, ?_, ?_⟩
          · have := HB1.out.set_ 0 (.slice (some ⟨g, 0, none⟩) (j + 1) c')
            simpa using this
          · have h0 : w1.ownsRow w.heap.size 9 1 (.slice (some ⟨g, 0, none⟩) (j + 1) c') (j + 1) (List.replicate (j + 1) (str zeros64)) := by
              have := HO1.out
              rw [show List.replicate j (str zeros64) ++ [.string ⟨(zs 64).toArray⟩] = List.replicate (j + 1) (str zeros64) from by rw [List.replicate_succ']; rfl] at this
              exact this
            exact own_far h0 (own_blk_ne h0 HB1.out (by decide)) _
          · exact (((hB.alloc hB.size _).alloc (by have := hB.size; simp; omega) _).drew.grown HG1.out (by have := hB.size; simp; omega) (fun k hk => (HO.out.lt k hk).1)).setCell (Nat.le_refl _) _
    · obtain rfl : j = n := by omega
      clear hj
      go_wp2
      go_ret
      obtain ⟨g, cap, hv, hg, hlt⟩ := hown.form (by omega)
      simp only [Value.slice.injEq, true_and] at hv
      obtain ⟨rfl, rfl⟩ := hv
      refine ⟨w.heap.size, g, rfl, ?_, Nat.le_refl _, hg, hB⟩
      rcases hown.2 with ⟨h', _⟩ | ⟨g', cap', cur, h', hg1, hh, hnc, hcm', hcs, htake⟩
      · simp at h'
      · simp only [Value.slice.injEq, Option.some.injEq, Addr.mk.injEq, and_true, true_and] at h'
        obtain ⟨rfl, rfl⟩ := h'
        refine ⟨c, cur, 0, ?_, rfl, hh, by simpa using hcs, by simp [Dk.new]; omega, hcm', by simp [Dk.new]; omega, by simp [Dk.new]; omega, by simp [Dk.new], by simp [Dk.new], fun i s hs => ?_⟩
        · simpa [Dk.new] using hb
        · simp only [Dk.new] at hs
          obtain ⟨hi, rfl⟩ := List.getElem?_eq_some_iff.1 hs
          simp only [List.length_replicate] at hi
          have : (cur.toList.take (j * 1))[i]? = some (str zeros64) := by rw [htake]; simp [hi]
          rw [List.getElem?_take, if_pos (by omega)] at this
          simpa using this

/-- The struct alone is written. -/
theorem RDiskAt.upd {w w' : World} {b a : Nat} {d : Dk} (h : RDiskAt w b a d) (d' : Dk) (hS : d'.S = d.S) (h0 : 0 ≤ d'.cut) (h1 : d'.cut ≤ 9223372036854775807)
    (hb : ∀ (s0 : Value) (how : Int), (how.tmod 2 != 0) = d.odd → Blk w b 39 #[s0, .bool d.off, .int .i64 d.cut, .int .i64 how, .int .i64 d.writes, .int .i64 d.lives] →
      ∃ how' : Int, (how'.tmod 2 != 0) = d'.odd ∧ Blk w' b 39 #[s0, .bool d'.off, .int .i64 d'.cut, .int .i64 how', .int .i64 d'.writes, .int .i64 d'.lives]) (hk : Kept (fun k => k = b) w w') : RDiskAt w' b a d' := by
  have hne := h.ne
  obtain ⟨c, arr, how, hb0, ho, ha, h3, h4, h5, h6, h7, h8, h9, h10⟩ := h
  obtain ⟨how', ho', hb'⟩ := hb _ how ho hb0
  refine ⟨c, arr, how', by rw [hS]; exact hb', ho', hk.blk ha (fun e => hne e.symm), h3, by rw [hS]; exact h4, h5, by rw [hS]; exact h6, by rw [hS]; exact h7, h0, h1, fun i s hs => ?_⟩
  rw [hS] at hs
  exact h10 i s hs

/-- A sector is written, and the struct. -/
theorem RDiskAt.put {w w' : World} {b a : Nat} {d : Dk} (h : RDiskAt w b a d) (k : Nat) (s : List UInt8) (d' : Dk) (hS : d'.S = d.S.set k s) (h0 : 0 ≤ d'.cut) (h1 : d'.cut ≤ 9223372036854775807)
    (hb : ∀ (s0 : Value) (how : Int), (how.tmod 2 != 0) = d.odd → Blk w b 39 #[s0, .bool d.off, .int .i64 d.cut, .int .i64 how, .int .i64 d.writes, .int .i64 d.lives] →
      ∃ how' : Int, (how'.tmod 2 != 0) = d'.odd ∧ Blk w' b 39 #[s0, .bool d'.off, .int .i64 d'.cut, .int .i64 how', .int .i64 d'.writes, .int .i64 d'.lives])
    (ha : ∀ arr, Blk w a 9 arr → Blk w' a 9 (arr.setIfInBounds k (str s))) : RDiskAt w' b a d' := by
  obtain ⟨c, arr, how, hb0, ho, ha0, h3, h4, h5, h6, h7, h8, h9, h10⟩ := h
  obtain ⟨how', ho', hb'⟩ := hb _ how ho hb0
  have hl : d'.S.length = d.S.length := by rw [hS]; simp
  refine ⟨c, _, how', by rw [hl]; exact hb', ho', ha _ ha0, by simpa using h3, by rw [hl]; exact h4, h5, by rw [hl]; exact h6, by rw [hl]; exact h7, h0, h1, fun i s' hs' => ?_⟩
  by_cases e : k = i
  · subst e
    have hlt : k < d'.S.length := (List.getElem?_eq_some_iff.1 hs').1
    have e' : s' = s := by
      rw [hS, List.getElem?_set_self (by omega)] at hs'
      exact (Option.some.inj hs').symm
    subst e'
    rw [Array.getElem?_setIfInBounds_self_of_lt (by omega)]
  · rw [hS, List.getElem?_set_ne e] at hs'
    rw [Array.getElem?_setIfInBounds_ne e]
    exact h10 i s' hs'

section
variable {b a : Nat} {w : World}

theorem ron_any (d : Dk) (h : RDiskAt w b a d) :
    Calls Try.prog 22 #[.pointer (some ⟨b, 0, none⟩)] w fun e w' => e = .returned (.tuple #[]) ∧ RDiskAt w' b a d.on ∧ Kept (DS b a) w w' := by
  have H := h
  obtain ⟨c, arr, how, hb, -⟩ := h
  have f2 := hb.frozen 2
  have f1 := hb.frozen 1
  have f5 := hb.frozen 5
  obtain ⟨c0, c1, c2, c3, c4, c5⟩ := rdisk_cells hb
  clear hb
  go_enter Try.func22, Try.ntmps22
  go_wp2
  go_end0
  refine ⟨rfl, H.upd _ rfl (by simp [Dk.on]) (by simp [Dk.on]) (fun s0 how ho hb => ⟨how, ho, ?_⟩) (by repeat (first | exact Kept.refl | refine Kept.set ?_ (by first | exact rfl | exact Or.inl rfl))), (by repeat (first | exact Kept.refl | refine Kept.set ?_ (by first | exact rfl | exact Or.inl rfl)))⟩
  have := ((hb.set_ 1 (.bool false)).set_ 2 (.int .i64 0)).set_ 5 (.int .i64 (wrap64 (d.lives + 1)))
  simpa [Dk.on] using this

theorem arm_any (d : Dk) (n how : Int) (hn : n ≤ 9223372036854775807) (h : RDiskAt w b a d) :
    Calls Try.prog 20 #[.pointer (some ⟨b, 0, none⟩), .int .i64 n, .int .i64 how] w fun e w' => e = .returned (.tuple #[]) ∧ RDiskAt w' b a (d.armed n how) ∧ Kept (DS b a) w w' := by
  have H := h
  obtain ⟨c, arr, how0, hb, -⟩ := h
  have f2 := hb.frozen 2
  have f3 := hb.frozen 3
  obtain ⟨c0, c1, c2, c3, c4, c5⟩ := rdisk_cells hb
  clear hb
  by_cases h1 : n < 1
  · go_enter Try.func20, Try.ntmps20
    go_wp2
    go_end0
    refine ⟨rfl, H.upd _ rfl (by simp only [Dk.armed]; omega) (by simp only [Dk.armed]; omega) (fun s0 how1 ho hb => ⟨how, rfl, ?_⟩) (by repeat (first | exact Kept.refl | refine Kept.set ?_ (by first | exact rfl | exact Or.inl rfl))), (by repeat (first | exact Kept.refl | refine Kept.set ?_ (by first | exact rfl | exact Or.inl rfl)))⟩
    have := ((hb.set_ 2 (.int .i64 n)).set_ 2 (.int .i64 0)).set_ 3 (.int .i64 how)
    have e : max n 0 = 0 := by omega
    simpa [Dk.armed, e] using this
  · go_enter Try.func20, Try.ntmps20
    go_wp2
    go_end0
    refine ⟨rfl, H.upd _ rfl (by simp only [Dk.armed]; omega) (by simp only [Dk.armed]; omega) (fun s0 how1 ho hb => ⟨how, rfl, ?_⟩) (by repeat (first | exact Kept.refl | refine Kept.set ?_ (by first | exact rfl | exact Or.inl rfl))), (by repeat (first | exact Kept.refl | refine Kept.set ?_ (by first | exact rfl | exact Or.inl rfl)))⟩
    have := (hb.set_ 2 (.int .i64 n)).set_ 3 (.int .i64 how)
    have e : max n 0 = n := by omega
    simpa [Dk.armed, e] using this
end
end Go.Proofs.Ytifldkcfbggkeaa
