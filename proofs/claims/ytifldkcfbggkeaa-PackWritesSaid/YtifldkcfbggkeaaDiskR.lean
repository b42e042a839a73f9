/- disk.Read, disk.Copy, and slices.Clone at [][]byte: what each answers, and what it leaves in memory. Conditions: the disk lies in memory as DiskAt says. -/
import Derived.Test.YtifldkcfbggkeaaDiskW
namespace Go.Proofs.Ytifldkcfbggkeaa
open Go.RowKit

set_option maxHeartbeats 400000 in
theorem clone_sectors (ad : Addr) (n c : Nat) (xs : List Value) (w : World) (hr : Reads w w.heap.size 1 (some ad) n xs) (h1 : ∀ u ∈ xs, u.oneCell' = true) (hn : n ≤ 4096) :
    Calls Try.prog 50 #[.slice (some ad) n c] w fun e w' => ∃ v, e = .returned v ∧ w'.ownsRow w.heap.size 27 1 v n xs ∧ Below w.heap.size w w' ∧ (∃ g c, v = .slice (some ⟨g, 0, none⟩) n c) := by
  obtain ⟨i0, hi0, hz0, hz1, hz2⟩ := info_parts info_bytes
  have q := fun (w : World) => Lib.run_eql_slice_nil (P := Try.prog) w 69 27 (some ad) n c 0 0 Try.underlying69
  go_enter Try.func50, Try.ntmps50
  go_wp2_with (at_builtin; refine wpList_append_any _ rfl (.tmp 5) (.tmp 6) _ rfl w.heap.size 27 i0 _ 1 24 Try.underlying69 hi0 hz0 hz1 hz2 rfl (by omega) (.slice (some ⟨w.heap.size, 0, none⟩) 0 0) 0 [] rfl (World.ownsRow_lit w #[] 0 (Nat.le_refl _) (by unfold maxLen; omega) rfl) w.heap.size (some ad) n c xs rfl (hr.alloc (Nat.le_refl _) _) h1 (by simp only [maxLen]; omega) (by omega) (by simp) ?_; intro v1 w1 hown1 hg1 hat1)
  go_ret
  refine ⟨v1, rfl, by simpa using hown1, ((Below.refl _ _).alloc (Nat.le_refl _) _).grown hg1 (by simp) (fun k hk => by simp [Value.ownBlock] at hk; omega), ?_⟩
  have hown1 : w1.ownsRow w.heap.size 27 1 v1 n xs := by simpa using hown1
  rcases hat1 with e | e
  · obtain ⟨c', hv, _⟩ := own_form hown1 (k := w.heap.size) (by rw [e]; rfl)
    exact ⟨_, c', hv⟩
  · obtain ⟨c', hv, _⟩ := own_form hown1 e
    exact ⟨_, c', hv⟩

section
variable {b a m cc : Nat} {A : Option Addr} {w : World}

set_option maxHeartbeats 400000 in
theorem read_no (d : Dk) (sector : Int) (h : DiskAt w b a d) (hm : d.may sector 0 ≠ 0) :
    Calls Try.prog 15 #[.pointer (some ⟨b, 0, none⟩), .int .i64 sector] w fun e w' => e = .returned (.tuple #[.slice none 0 0, .int .i64 (d.may sector 0)]) ∧ w = w' := by
  have C := may_any d sector 0 h
  rcases may_cases d sector 0 with e | e | e
  · exact absurd e hm
  · rw [e] at C ⊢
    have H := Lib.hid C
    clear C e hm
    go_enter Try.func15, Try.ntmps15
    go_wp2_with (go_at_call 47; refine H.out.mono ?_; rintro e w' ⟨rfl, rfl⟩)
    go_ret2
    exact ⟨rfl, rfl⟩
  · rw [e] at C ⊢
    have H := Lib.hid C
    clear C e hm
    go_enter Try.func15, Try.ntmps15
    go_wp2_with (go_at_call 47; refine H.out.mono ?_; rintro e w' ⟨rfl, rfl⟩)
    go_ret2
    exact ⟨rfl, rfl⟩

/-- What a read hands back: 64 bytes in new memory. -/
def Got (w : World) (s : List UInt8) (e : Ending) (w' : World) : Prop :=
  ∃ g c, e = .returned (.tuple #[.slice (some ⟨g, 0, none⟩) 64 c, .int .i64 0]) ∧ w'.ownsRow w.heap.size 5 1 (.slice (some ⟨g, 0, none⟩) 64 c) 64 (s.map byt) ∧ Below w.heap.size w w'

set_option maxHeartbeats 400000 in
theorem read_ok (d : Dk) (k : Nat) (s : List UInt8) (h : DiskAt w b a d) (hs : d.S[k]? = some s) (hoff : d.off = false) :
    Calls Try.prog 15 #[.pointer (some ⟨b, 0, none⟩), .int .i64 (k : Int)] w (Got w s) := by
  have hk : k < d.S.length := (List.getElem?_eq_some_iff.1 hs).1
  have C := may_any d k 0 h
  have hm : d.may k 0 = 0 := by
    unfold Dk.may
    rw [if_neg (by omega), if_neg (by simp [hoff])]
  rw [hm] at C
  have HC := Lib.hid C
  obtain ⟨c, arr, hb, ha, hsz, -, -, -, h4096, -, -, hsec⟩ := h
  obtain ⟨vk, hvk, hlen, hv⟩ := hsec k s hs
  have hck := (ha.cell k).trans hvk
  obtain ⟨c0, c1, c2, c3, c4, c5⟩ := disk_cells hb
  have HOFF := Lib.hid hoff
  have HS := Lib.hid hs
  have HB := Lib.hid hb
  have HA := Lib.hid ha
  clear C hm hoff hb ha hsec hvk hsz hs
  have q := fun (w : World) (A : Option Addr) (n c : Nat) => Lib.run_eql_slice_nil (P := Try.prog) w 27 5 A n c 0 0 Try.underlying27
  have hmk := make_64
  rcases hv with ⟨rfl, rfl⟩ | ⟨g, rfl, hg⟩
  · clear hlen
    go_enter Try.func15, Try.ntmps15
    go_wp2_with (go_at_call 47; refine HC.out.mono ?_; rintro e w' ⟨rfl, rfl⟩)
    go_ret2
    refine ⟨_, _, rfl, ?_, zrow_below w⟩
    have := World.ownsRow_lit (e := 5) (size := 1) w zrow 64 (Nat.le_refl _) (by unfold maxLen; omega) (by simp [zrow, zeros64])
    simpa [zrow] using this
  · have hr : Reads w w.heap.size 1 (some ⟨g, 0, none⟩) 64 (s.map byt) := by
      refine ⟨by simp [hlen], fun _ => ⟨_, rfl, hg.lt, fun j u hu => ?_⟩⟩
      have := hg.cell j
      rw [show (⟨g, 0, none⟩ : Addr).add j = ⟨g, j, none⟩ by unfold Addr.add; by_cases e : j = 0 <;> simp [e], this]
      simpa using hu
    have C2 := Lib.hid (clone_bytes_some ⟨g, 0, none⟩ 64 64 (s.map byt) w hr (byt_one s) (by omega))
    clear hlen hg hr
    go_enter Try.func15, Try.ntmps15
    go_wp2_with (first
      | (go_at_call 47; refine HC.out.mono ?_; rintro e w' ⟨rfl, rfl⟩)
      | (go_at_call 48; refine C2.out.mono ?_; rintro e w1 ⟨v1, rfl, hown, hbel, g1, c1', rfl⟩))
    go_ret2
    exact ⟨_, _, rfl, hown, hbel⟩

set_option maxHeartbeats 400000 in
theorem copy_any (d : Dk) (h : DiskAt w b a d) :
    Calls Try.prog 23 #[.pointer (some ⟨b, 0, none⟩)] w fun e w' => ∃ b' a', e = .returned (.pointer (some ⟨b', 0, none⟩)) ∧ DiskAt w' b' a' d ∧ w.heap.size ≤ b' ∧ w.heap.size ≤ a' ∧ Below w.heap.size w w' := by
  have H := h
  have hbl := h.ltb
  have hal := h.lta
  obtain ⟨c, arr, hb, ha, hsz, hlc, hcm, h8, h9, hcut0, hcut1, hsec⟩ := h
  obtain ⟨c0, c1, c2, c3, c4, c5⟩ := disk_cells hb
  have hxs : ∀ (i : Nat) (hi : i < d.S.length), ∃ v, (arr.toList.take d.S.length)[i]? = some v ∧ SecAt w v d.S[i] := by
    intro i hi
    obtain ⟨v, hv, hs⟩ := hsec i _ (List.getElem?_eq_getElem hi)
    exact ⟨v, by rw [List.getElem?_take, if_pos hi]; simpa using hv, hs⟩
  have hlen : (arr.toList.take d.S.length).length = d.S.length := by simp; omega
  obtain ⟨xs, hxe⟩ : ∃ xs, xs = arr.toList.take d.S.length := ⟨_, rfl⟩
  rw [← hxe] at hxs hlen
  have hone : ∀ u ∈ xs, u.oneCell' = true := by
    intro u hu
    obtain ⟨i, hi⟩ := List.mem_iff_getElem?.1 hu
    have hil : i < xs.length := (List.getElem?_eq_some_iff.1 hi).1
    obtain ⟨v, hv, _, hs⟩ := hxs i (by omega)
    rw [hv] at hi
    obtain rfl := Option.some.inj hi
    rcases hs with ⟨rfl, _⟩ | ⟨g, rfl, _⟩ <;> rfl
  have hr : Reads w w.heap.size 1 (some ⟨a, 0, none⟩) d.S.length xs := by
    refine ⟨by simpa using hlen, fun _ => ⟨_, rfl, hal, fun j u hu => ?_⟩⟩
    have hjl : j < xs.length := (List.getElem?_eq_some_iff.1 hu).1
    rw [show (⟨a, 0, none⟩ : Addr).add j = ⟨a, j, none⟩ by unfold Addr.add; by_cases e : j = 0 <;> simp [e], ha.cell j]
    rw [hxe, List.getElem?_take, if_pos (by omega)] at hu
    simpa using hu
  have CL := Lib.hid (fun (o : Obj) => clone_sectors ⟨a, 0, none⟩ d.S.length c xs (w.alloc o) ((hr.alloc (Nat.le_refl _) o).more (by simp)) hone h9)
  have HX := Lib.hid hxs
  clear hb ha hsec hsz hxs hxe hlen hone hr hlc hcm h8 h9 hcut0 hcut1
  go_enter Try.func23, Try.ntmps23
  go_wp2_with fail
  refine (CL.out _).mono ?_
  rintro e w1 ⟨v1, rfl, hown, hbel, g1, c1', rfl⟩
  have n0 := (hbel.cell (p := ⟨w.heap.size, 0, none⟩) (by simp)).trans ((Blk.new w 71 _).cell 0)
  have m0 := (hbel.frozen (p := ⟨w.heap.size, 0, none⟩) (by simp)).trans ((Blk.new w 71 _).frozen 0)
  simp only [List.getElem?_toArray, List.getElem?_cons_zero] at n0
  have hlw : w.heap.size < w1.heap.size := by have := hbel.size; simp at this; omega
  go_wp2
  go_ret
  have hb1 : Below w.heap.size w w1 := ((Below.refl _ _).alloc (Nat.le_refl _) _).trans (hbel.mono (by simp))
  have hbn := (Blk.new w 71 #[.slice (some ⟨a, 0, none⟩) d.S.length c, .bool d.off, .int .i64 d.cut, .bool d.odd, .int .i64 d.writes, .int .i64 d.lives]).below hbel (by simp)
  obtain ⟨c, arr, hb, ha, hsz, hlc, hcm, h8, h9, hcut0, hcut1, hsec⟩ := H
  refine ⟨w.heap.size, g1, rfl, ?_, Nat.le_refl _, ?_, hb1.setCell (Nat.le_refl _) _⟩
  · rcases hown.2 with ⟨h', _⟩ | ⟨g', cap', cur, h', hg1, hh, hnc, hcm', hcs, htake⟩
    · simp at h'
    · simp only [Value.slice.injEq, Option.some.injEq, Addr.mk.injEq, and_true, true_and] at h'
      obtain ⟨rfl, rfl⟩ := h'
      have hne : g1 ≠ w.heap.size := by simp at hg1; omega
      refine ⟨c1', cur, ?_, Blk.far (p := ⟨w.heap.size, 0, none⟩) hh hne _, by simpa using hcs, hnc, hcm', h8, h9, hcut0, hcut1, fun i s hs => ?_⟩
      · have := hbn.set_ 0 (.slice (some ⟨g1, 0, none⟩) d.S.length c1')
        simpa using this
      · have hi : i < d.S.length := (List.getElem?_eq_some_iff.1 hs).1
        obtain ⟨v, hv, hsv⟩ := HX.out i hi
        have e : d.S[i] = s := (List.getElem?_eq_some_iff.1 hs).2
        rw [e] at hsv
        refine ⟨v, ?_, hsv.keep fun g cs hg => ?_⟩
        · rw [← htake, List.getElem?_take, if_pos (by omega)] at hv
          simpa using hv
        · exact (hg.below hb1 hg.lt).far (p := ⟨w.heap.size, 0, none⟩) (by have := hg.lt; show g ≠ w.heap.size; omega) _
  · have := hown.lt g1 rfl
    simp at this
    omega
end
end Go.Proofs.Ytifldkcfbggkeaa
