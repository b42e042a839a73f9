/- disk.New, Write, Read, Copy: what each answers, and what it leaves in memory. Conditions: the disk lies in memory as DiskAt says. -/
import Derived.Test.YtifldkcfbggkeaaDisk
import Derived.Laws.CopyOwn
namespace Go.Proofs.Ytifldkcfbggkeaa
open Go.RowKit

theorem info_bytes : (Try.prog.info? 27).map (fun i => (i.zero, i.size, i.bytes)) = some (some (.slice none 0 0), 1, 24) := by kernel_rfl

theorem make_sectors (n : Nat) (hn : n ≤ 4096) (w : World) :
    (Instr.makeSlice 69 (.int .i64 (n : Int)) (.int .i64 (n : Int))).run Try.prog w = .ok (.slice (some ⟨w.heap.size, 0, none⟩) n n) (w.alloc (.cells (madeCells #[.slice none 0 0] n) 27)) := by
  obtain ⟨i0, hi0, hz0, hz1, hz2⟩ := info_parts info_bytes
  have h1 : i0.bytes * (n : Int) ≤ 281474976710656 := by rw [hz2]; omega
  have hr := run_make (P := Try.prog) w 69 27 i0 (.slice none 0 0) Try.underlying69 hi0 hz0 .i64 .i64 (n : Int) (n : Int) (by omega) (by omega) h1 (by omega)
  rw [hz1] at hr
  simpa [Value.cells] using hr

theorem make_64 (w : World) :
    (Instr.makeSlice 27 (.int .i64 64) (.int .i64 64)).run Try.prog w = .ok (.slice (some ⟨w.heap.size, 0, none⟩) 64 64) (w.alloc (.cells zrow 5)) := by
  obtain ⟨i0, hi0, hz0, hz1, hz2⟩ := info_parts info_u8
  have hr := run_make (P := Try.prog) w 27 5 i0 (.int .u8 0) Try.underlying27 hi0 hz0 .i64 .i64 64 64 (by omega) (by omega) (by rw [hz2]; omega) (by omega)
  rw [hz1] at hr
  have e : madeCells (Value.int .u8 0).cells ((64 : Int).toNat * 1) = zrow := by kernel_rfl
  rw [e] at hr
  exact hr

set_option maxHeartbeats 400000 in
theorem new_ok (n : Int) (w : World) (h1 : 1 ≤ n) (h2 : n ≤ 4096) :
    Calls Try.prog 14 #[.int .i64 n] w fun e w' => ∃ b a, e = .returned (.tuple #[.pointer (some ⟨b, 0, none⟩), .int .i64 0]) ∧ DiskAt w' b a (Dk.new n.toNat) ∧ w.heap.size ≤ b ∧ w.heap.size ≤ a ∧ Below w.heap.size w w' := by
  obtain ⟨m, rfl⟩ := Int.eq_ofNat_of_zero_le (show 0 ≤ n by omega)
  have hmk := make_sectors m (by omega)
  go_enter Try.func14, Try.ntmps14
  go_wp2
  go_ret2
  refine ⟨w.heap.size + 1, w.heap.size, rfl, ⟨m, madeCells #[.slice none 0 0] m, ?_, ?_, by simp [size_madeCells], by simp [Dk.new], by unfold maxLen; omega, by simp [Dk.new]; omega, by simp [Dk.new]; omega, by simp [Dk.new], by simp [Dk.new], ?_⟩, by omega, by omega, ((Below.refl _ _).alloc (Nat.le_refl _) _).alloc (by simp) _⟩
  · have := Blk.new (w.alloc (.cells (madeCells #[.slice none 0 0] m) 27)) 71 #[.slice (some ⟨w.heap.size, 0, none⟩) m m, .bool false, .int .i64 0, .bool false, .int .i64 0, .int .i64 1]
    simpa [Dk.new] using this
  · exact (Blk.new w 27 _).alloc _
  · intro i s hs
    simp only [Dk.new, Int.toNat_natCast] at hs
    obtain ⟨hi, rfl⟩ := List.getElem?_eq_some_iff.1 hs
    simp only [List.length_replicate] at hi
    refine ⟨.slice none 0 0, ?_, by simp [zeros64], .inl ⟨rfl, by simp⟩⟩
    have := toList_madeCells_one (.slice none 0 0) m
    rw [← Array.getElem?_toList, this]
    simp [hi]

set_option maxHeartbeats 400000 in
theorem new_no (n : Int) (w : World) (h : n < 1 ∨ 4096 < n) :
    Calls Try.prog 14 #[.int .i64 n] w fun e w' => e = .returned (.tuple #[.pointer none, .int .i64 1]) ∧ w = w' := by
  by_cases h0 : n < 1
  · go_enter Try.func14, Try.ntmps14
    go_wp2
    go_ret2
    exact ⟨rfl, rfl⟩
  · have h1 : 4096 < n := by omega
    clear h
    go_enter Try.func14, Try.ntmps14
    go_wp2
    go_ret2
    exact ⟨rfl, rfl⟩

theorem zrow_blk (w : World) : (w.alloc (.cells zrow 5)).heap[w.heap.size]? = some (.cells (zeros64.map byt).toArray 5 (0, 0)) := heap_alloc_new w _
theorem zrow_below (w : World) : Below w.heap.size w (w.alloc (.cells zrow 5)) := (Below.refl _ _).alloc (Nat.le_refl _) _

section
variable {b a m cc : Nat} {A : Option Addr} {w : World}

theorem may_cases (d : Dk) (sector size : Int) : d.may sector size = 0 ∨ d.may sector size = 1 ∨ d.may sector size = 4 := by
  unfold Dk.may
  split
  · exact .inr (.inl rfl)
  · split
    · exact .inr (.inr rfl)
    · exact .inl rfl
theorem may_zero {d : Dk} {sector size : Int} (h : d.may sector size = 0) : 0 ≤ sector ∧ sector < d.S.length ∧ size ≤ 64 ∧ d.off = false := by
  unfold Dk.may at h
  split at h
  · omega
  · split at h
    · omega
    · rename_i h1 h2
      exact ⟨by omega, by omega, by omega, by simpa using h2⟩

set_option maxHeartbeats 400000 in
theorem write_no (d : Dk) (sector : Int) (l : List UInt8) (h : DiskAt w b a d) (hl : Bts w A m cc l) (hm : d.may sector m ≠ 0) :
    Calls Try.prog 16 #[.pointer (some ⟨b, 0, none⟩), .int .i64 sector, .slice A m cc] w fun e w' => e = .returned (.int .i64 (d.write sector l).2) ∧ DiskAt w' b a (d.write sector l).1 ∧ Kept (DS b a) w w' := by
  have hlen := hl.2.2.2.2
  have C := may_any d sector m h
  have hw : d.write sector l = (d, d.may sector m) := by simp [Dk.write, hlen, hm]
  rw [hw]
  rcases may_cases d sector m with e | e | e
  · exact absurd e hm
  · rw [e] at C ⊢
    have H := Lib.hid C
    clear C hw e hm
    go_enter Try.func16, Try.ntmps16
    go_wp2_with (go_at_call 47; refine H.out.mono ?_; rintro e w' ⟨rfl, rfl⟩)
    go_ret
    exact ⟨rfl, h, Kept.refl⟩
  · rw [e] at C ⊢
    have H := Lib.hid C
    clear C hw e hm
    go_enter Try.func16, Try.ntmps16
    go_wp2_with (go_at_call 47; refine H.out.mono ?_; rintro e w' ⟨rfl, rfl⟩)
    go_ret
    exact ⟨rfl, h, Kept.refl⟩

set_option maxHeartbeats 1000000 in
theorem write_plain (d : Dk) (sector : Int) (l : List UInt8) (h : DiskAt w b a d) (hl : Bts w A m cc l) (hm : d.may sector m = 0) (hc : d.cut = 0) :
    Calls Try.prog 16 #[.pointer (some ⟨b, 0, none⟩), .int .i64 sector, .slice A m cc] w fun e w' => e = .returned (.int .i64 (d.write sector l).2) ∧ DiskAt w' b a (d.write sector l).1 ∧ Kept (DS b a) w w' := by
  obtain ⟨hnil, hrd, hmc, hcm, hlen⟩ := hl
  have C := may_any d sector m h
  have hw : d.write sector l = ((d.put sector l).counted, 0) := by simp [Dk.write, hlen, hm, hc]
  rw [hw]
  obtain ⟨hs0, hs1, hm64, hoff⟩ := may_zero hm
  rw [hm] at C
  have HC := Lib.hid C
  have H := h
  have hab := h.ne
  have hba : ¬ a = b := fun e => hab e.symm
  have hbl := h.ltb
  have hal := h.lta
  obtain ⟨c, arr, hb, ha, hsz, -, -, -, -, -, -, hsec⟩ := h
  obtain ⟨k, rfl⟩ := Int.eq_ofNat_of_zero_le hs0
  have hk : k < d.S.length := by omega
  obtain ⟨vk, hvk, -⟩ := hsec k _ (List.getElem?_eq_getElem hk)
  rw [hc] at hb
  have hck := (ha.cell k).trans hvk
  have fk := ha.frozen k
  have f4 := hb.frozen 4
  obtain ⟨c0, c1, c2, c3, c4, c5⟩ := disk_cells hb
  have HL := Lib.hid hlen
  have HO := Lib.hid hoff
  have HCUT := Lib.hid hc
  clear C hw hm hlen hoff hc hb ha hsec hvk hnil hsz
  have hmk := make_64
  go_enter Try.func16, Try.ntmps16
  go_wp2_with (first
    | (go_at_call 47; refine HC.out.mono ?_; rintro e w' ⟨rfl, rfl⟩)
    | (with_reducible refine wpList_copy_splice rfl (.tmp 18) (.tmp 19) _ _ rfl 5 Try.underlying27 (by kernel_rfl) (some ⟨w.heap.size, 0, none⟩) A 64 64 m cc rfl rfl w.heap.size 0 (zeros64.map byt) 5 (zrow_blk w) (l.map byt) ?cn ?cp ?cf (byt_one l) w.heap.size w (zrow_below w) (Nat.le_refl _) ?ch))
  case cn => have := HL.out; have e := Nat.min_eq_left (show m ≤ 64 by omega); simp only [List.length_map]; exact this.trans e.symm
  case cp => 
    intro hp
    obtain ⟨ad, e, -, hx⟩ := (hrd.alloc (Nat.le_refl _) (.cells zrow 5)).2 (by have := HL.out; omega)
    exact ⟨ad, e, fun j v hv => hx j _ (by simp [hv])⟩
  case cf => have := HL.out; first | omega | (simp [zeros64]; omega)
  case ch =>
    intro w1 hg1 hb1
    have k0 := (hb1.cell (p := ⟨b, 0, none⟩) hbl).trans c0
    have k2 := (hb1.cell (p := ⟨b, 2, none⟩) hbl).trans c2
    have k4 := (hb1.cell (p := ⟨b, 4, none⟩) hbl).trans c4
    have ka := (hb1.cell (p := ⟨a, k, none⟩) hal).trans hck
    have e4 := (hb1.frozen (p := ⟨b, 4, none⟩) hbl).trans f4
    have ea := (hb1.frozen (p := ⟨a, k, none⟩) hal).trans fk
    go_wp2
    go_ret
    have HP := pad_cells l
    have hgb := hg1.out
    rw [HP] at hgb
    refine ⟨rfl, H.put k w.heap.size (pad l) _ (by simp [Dk.put, Dk.counted]) (by have := HCUT.out; simp only [Dk.put, Dk.counted]; omega) (by have := HCUT.out; simp only [Dk.put, Dk.counted]; omega)
      (pad_length l (by have := HL.out; omega)) (fun s0 hb => ?_) (fun arr ha => ?_) ?_ ?_, ?_⟩
    · have := ((hb.below hb1 hbl).far (p := ⟨a, k, none⟩) hab (.slice (some ⟨w.heap.size, 0, none⟩) 64 64)).set_ 4 (.int .i64 (wrap64 (d.writes + 1)))
      simpa [Dk.put, Dk.counted] using this
    · exact ((ha.below hb1 hal).set_ k _).far (p := ⟨b, 4, none⟩) hba _
    · exact (Blk.far (p := ⟨a, k, none⟩) (show Blk w1 w.heap.size _ _ from hgb) (by show w.heap.size ≠ a; omega) _).far (p := ⟨b, 4, none⟩) (by show w.heap.size ≠ b; omega) _
    · exact Kept.set (S := DS b a) (Kept.set (S := DS b a) (Kept.of_below hb1) (.inr rfl)) (.inl rfl)
    · exact Kept.set (S := DS b a) (Kept.set (S := DS b a) (Kept.of_below hb1) (.inr rfl)) (.inl rfl)

set_option maxHeartbeats 1000000 in
theorem write_counts (d : Dk) (sector : Int) (l : List UInt8) (h : DiskAt w b a d) (hl : Bts w A m cc l) (hm : d.may sector m = 0) (hc : 2 ≤ d.cut) (hx : d.cut ≤ 9223372036854775807) :
    Calls Try.prog 16 #[.pointer (some ⟨b, 0, none⟩), .int .i64 sector, .slice A m cc] w fun e w' => e = .returned (.int .i64 (d.write sector l).2) ∧ DiskAt w' b a (d.write sector l).1 ∧ Kept (DS b a) w w' := by
  obtain ⟨hnil, hrd, hmc, hcm, hlen⟩ := hl
  have C := may_any d sector m h
  have hw : d.write sector l = ((d.less.put sector l).counted, 0) := by simp [Dk.write, hlen, hm, show 0 < d.cut by omega, show ¬ d.cut = 1 by omega]
  rw [hw]
  obtain ⟨hs0, hs1, hm64, hoff⟩ := may_zero hm
  rw [hm] at C
  have HC := Lib.hid C
  have H := h
  have hab := h.ne
  have hba : ¬ a = b := fun e => hab e.symm
  have hbl := h.ltb
  have hal := h.lta
  obtain ⟨c, arr, hb, ha, hsz, -, -, -, -, -, -, hsec⟩ := h
  obtain ⟨k, rfl⟩ := Int.eq_ofNat_of_zero_le hs0
  have hk : k < d.S.length := by omega
  obtain ⟨vk, hvk, -⟩ := hsec k _ (List.getElem?_eq_getElem hk)
  have hck := (ha.cell k).trans hvk
  have fk := ha.frozen k
  have f4 := hb.frozen 4
  have f2 := hb.frozen 2
  have f1 := hb.frozen 1
  obtain ⟨c0, c1, c2, c3, c4, c5⟩ := disk_cells hb
  have HL := Lib.hid hlen
  have HO := Lib.hid hoff
  have HCUT := Lib.hid hc
  have HM := Lib.hid hx
  clear C hw hm hlen hoff hb ha hsec hvk hnil hsz
  have hmk := make_64
  go_enter Try.func16, Try.ntmps16
  go_wp2_with (first
    | (go_at_call 47; refine HC.out.mono ?_; rintro e w' ⟨rfl, rfl⟩)
    | (with_reducible refine wpList_copy_splice rfl (.tmp 18) (.tmp 19) _ _ rfl 5 Try.underlying27 (by kernel_rfl) (some ⟨w.heap.size, 0, none⟩) A 64 64 m cc rfl rfl w.heap.size 0 (zeros64.map byt) 5 (zrow_blk w) (l.map byt) ?cn ?cp ?cf (byt_one l) w.heap.size w (zrow_below w) (Nat.le_refl _) ?ch))
  case cn => have := HL.out; have e := Nat.min_eq_left (show m ≤ 64 by omega); simp only [List.length_map]; exact this.trans e.symm
  case cp => 
    intro hp
    obtain ⟨ad, e, -, hx⟩ := (hrd.alloc (Nat.le_refl _) (.cells zrow 5)).2 (by have := HL.out; omega)
    exact ⟨ad, e, fun j v hv => hx j _ (by simp [hv])⟩
  case cf => have := HL.out; first | omega | (simp [zeros64]; omega)
  case ch =>
    intro w1 hg1 hb1
    have k0 := (hb1.cell (p := ⟨b, 0, none⟩) hbl).trans c0
    have k2 := (hb1.cell (p := ⟨b, 2, none⟩) hbl).trans c2
    have k4 := (hb1.cell (p := ⟨b, 4, none⟩) hbl).trans c4
    have ka := (hb1.cell (p := ⟨a, k, none⟩) hal).trans hck
    have k1 := (hb1.cell (p := ⟨b, 1, none⟩) hbl).trans c1
    have k3 := (hb1.cell (p := ⟨b, 3, none⟩) hbl).trans c3
    have e2 := (hb1.frozen (p := ⟨b, 2, none⟩) hbl).trans f2
    have e1 := (hb1.frozen (p := ⟨b, 1, none⟩) hbl).trans f1
    have e4 := (hb1.frozen (p := ⟨b, 4, none⟩) hbl).trans f4
    have ea := (hb1.frozen (p := ⟨a, k, none⟩) hal).trans fk
    go_wp2
    go_ret
    have HP := pad_cells l
    have hgb := hg1.out
    rw [HP] at hgb
    refine ⟨rfl, H.put k w.heap.size (pad l) _ (by simp [Dk.put, Dk.counted, Dk.less]) (by have := HCUT.out; simp only [Dk.put, Dk.counted, Dk.less]; omega) (by have := HCUT.out; have := HM.out; simp only [Dk.put, Dk.counted, Dk.less]; omega)
      (pad_length l (by have := HL.out; omega)) (fun s0 hb => ?_) (fun arr ha => ?_) ?_ ?_, ?_⟩
    · have := (((hb.below hb1 hbl).set_ 2 (.int .i64 (d.cut - 1))).far (p := ⟨a, k, none⟩) hab (.slice (some ⟨w.heap.size, 0, none⟩) 64 64)).set_ 4 (.int .i64 (wrap64 (d.writes + 1)))
      simpa [Dk.put, Dk.counted, Dk.less] using this
    · exact (((ha.below hb1 hal).far (p := ⟨b, 2, none⟩) hba _).set_ k _).far (p := ⟨b, 4, none⟩) hba _
    · exact ((Blk.far (p := ⟨b, 2, none⟩) (show Blk w1 w.heap.size _ _ from hgb) (by show w.heap.size ≠ b; omega) _).far (p := ⟨a, k, none⟩) (by show w.heap.size ≠ a; omega) _).far (p := ⟨b, 4, none⟩) (by show w.heap.size ≠ b; omega) _
    · exact Kept.set (S := DS b a) (Kept.set (S := DS b a) (Kept.set (S := DS b a) (Kept.of_below hb1) (.inl rfl)) (.inr rfl)) (.inl rfl)
    · exact Kept.set (S := DS b a) (Kept.set (S := DS b a) (Kept.set (S := DS b a) (Kept.of_below hb1) (.inl rfl)) (.inr rfl)) (.inl rfl)

set_option maxHeartbeats 1000000 in
theorem write_cut_odd (d : Dk) (sector : Int) (l : List UInt8) (h : DiskAt w b a d) (hl : Bts w A m cc l) (hm : d.may sector m = 0) (hc : d.cut = 1) (ho : d.odd = true) :
    Calls Try.prog 16 #[.pointer (some ⟨b, 0, none⟩), .int .i64 sector, .slice A m cc] w fun e w' => e = .returned (.int .i64 (d.write sector l).2) ∧ DiskAt w' b a (d.write sector l).1 ∧ Kept (DS b a) w w' := by
  obtain ⟨hnil, hrd, hmc, hcm, hlen⟩ := hl
  have C := may_any d sector m h
  have hw : d.write sector l = (d.cutOff.put sector l, 4) := by simp [Dk.write, hlen, hm, hc, ho]
  rw [hw]
  obtain ⟨hs0, hs1, hm64, hoff⟩ := may_zero hm
  rw [hm] at C
  have HC := Lib.hid C
  have H := h
  have hab := h.ne
  have hba : ¬ a = b := fun e => hab e.symm
  have hbl := h.ltb
  have hal := h.lta
  obtain ⟨c, arr, hb, ha, hsz, -, -, -, -, -, -, hsec⟩ := h
  obtain ⟨k, rfl⟩ := Int.eq_ofNat_of_zero_le hs0
  have hk : k < d.S.length := by omega
  obtain ⟨vk, hvk, -⟩ := hsec k _ (List.getElem?_eq_getElem hk)
  rw [hc, ho] at hb
  have hck := (ha.cell k).trans hvk
  have fk := ha.frozen k
  have f4 := hb.frozen 4
  have f2 := hb.frozen 2
  have f1 := hb.frozen 1
  obtain ⟨c0, c1, c2, c3, c4, c5⟩ := disk_cells hb
  have HL := Lib.hid hlen
  have HO := Lib.hid hoff
  clear C hw hm hlen hoff hc ho hb ha hsec hvk hnil hsz
  have hmk := make_64
  go_enter Try.func16, Try.ntmps16
  go_wp2_with (first
    | (go_at_call 47; refine HC.out.mono ?_; rintro e w' ⟨rfl, rfl⟩)
    | (with_reducible refine wpList_copy_splice rfl (.tmp 18) (.tmp 19) _ _ rfl 5 Try.underlying27 (by kernel_rfl) (some ⟨w.heap.size, 0, none⟩) A 64 64 m cc rfl rfl w.heap.size 0 (zeros64.map byt) 5 (zrow_blk w) (l.map byt) ?cn ?cp ?cf (byt_one l) w.heap.size w (zrow_below w) (Nat.le_refl _) ?ch))
  case cn => have := HL.out; have e := Nat.min_eq_left (show m ≤ 64 by omega); simp only [List.length_map]; exact this.trans e.symm
  case cp => 
    intro hp
    obtain ⟨ad, e, -, hx⟩ := (hrd.alloc (Nat.le_refl _) (.cells zrow 5)).2 (by have := HL.out; omega)
    exact ⟨ad, e, fun j v hv => hx j _ (by simp [hv])⟩
  case cf => have := HL.out; first | omega | (simp [zeros64]; omega)
  case ch =>
    intro w1 hg1 hb1
    have k0 := (hb1.cell (p := ⟨b, 0, none⟩) hbl).trans c0
    have k2 := (hb1.cell (p := ⟨b, 2, none⟩) hbl).trans c2
    have k4 := (hb1.cell (p := ⟨b, 4, none⟩) hbl).trans c4
    have ka := (hb1.cell (p := ⟨a, k, none⟩) hal).trans hck
    have k1 := (hb1.cell (p := ⟨b, 1, none⟩) hbl).trans c1
    have k3 := (hb1.cell (p := ⟨b, 3, none⟩) hbl).trans c3
    have e2 := (hb1.frozen (p := ⟨b, 2, none⟩) hbl).trans f2
    have e1 := (hb1.frozen (p := ⟨b, 1, none⟩) hbl).trans f1
    have e4 := (hb1.frozen (p := ⟨b, 4, none⟩) hbl).trans f4
    have ea := (hb1.frozen (p := ⟨a, k, none⟩) hal).trans fk
    go_wp2
    go_ret
    have HP := pad_cells l
    have hgb := hg1.out
    rw [HP] at hgb
    refine ⟨rfl, H.put k w.heap.size (pad l) _ (by simp [Dk.put, Dk.cutOff]) (by simp [Dk.put, Dk.cutOff]) (by simp [Dk.put, Dk.cutOff])
      (pad_length l (by have := HL.out; omega)) (fun s0 hb => ?_) (fun arr ha => ?_) ?_ ?_, ?_⟩
    · have := (((hb.below hb1 hbl).set_ 2 (.int .i64 0)).set_ 1 (.bool true)).far (p := ⟨a, k, none⟩) hab (.slice (some ⟨w.heap.size, 0, none⟩) 64 64)
      simpa [Dk.put, Dk.cutOff] using this
    · exact (((ha.below hb1 hal).far (p := ⟨b, 2, none⟩) hba _).far (p := ⟨b, 1, none⟩) hba _).set_ k _
    · exact ((Blk.far (p := ⟨b, 2, none⟩) (show Blk w1 w.heap.size _ _ from hgb) (by show w.heap.size ≠ b; omega) _).far (p := ⟨b, 1, none⟩) (by show w.heap.size ≠ b; omega) _).far (p := ⟨a, k, none⟩) (by show w.heap.size ≠ a; omega) _
    · exact Kept.set (S := DS b a) (Kept.set (S := DS b a) (Kept.set (S := DS b a) (Kept.of_below hb1) (.inl rfl)) (.inl rfl)) (.inr rfl)
    · exact Kept.set (S := DS b a) (Kept.set (S := DS b a) (Kept.set (S := DS b a) (Kept.of_below hb1) (.inl rfl)) (.inl rfl)) (.inr rfl)

set_option maxHeartbeats 1000000 in
theorem write_cut_even (d : Dk) (sector : Int) (l : List UInt8) (h : DiskAt w b a d) (hl : Bts w A m cc l) (hm : d.may sector m = 0) (hc : d.cut = 1) (ho : d.odd = false) :
    Calls Try.prog 16 #[.pointer (some ⟨b, 0, none⟩), .int .i64 sector, .slice A m cc] w fun e w' => e = .returned (.int .i64 (d.write sector l).2) ∧ DiskAt w' b a (d.write sector l).1 ∧ Kept (DS b a) w w' := by
  obtain ⟨hnil, hrd, hmc, hcm, hlen⟩ := hl
  have C := may_any d sector m h
  have hw : d.write sector l = (d.cutOff, 4) := by simp [Dk.write, hlen, hm, hc, ho]
  rw [hw]
  obtain ⟨hs0, hs1, hm64, hoff⟩ := may_zero hm
  rw [hm] at C
  have HC := Lib.hid C
  have H := h
  have hab := h.ne
  have hba : ¬ a = b := fun e => hab e.symm
  have hbl := h.ltb
  have hal := h.lta
  obtain ⟨c, arr, hb, ha, hsz, -, -, -, -, -, -, hsec⟩ := h
  obtain ⟨k, rfl⟩ := Int.eq_ofNat_of_zero_le hs0
  have hk : k < d.S.length := by omega
  obtain ⟨vk, hvk, -⟩ := hsec k _ (List.getElem?_eq_getElem hk)
  rw [hc, ho] at hb
  have hck := (ha.cell k).trans hvk
  have fk := ha.frozen k
  have f4 := hb.frozen 4
  have f2 := hb.frozen 2
  have f1 := hb.frozen 1
  obtain ⟨c0, c1, c2, c3, c4, c5⟩ := disk_cells hb
  have HL := Lib.hid hlen
  have HO := Lib.hid hoff
  clear C hw hm hlen hoff hc ho hb ha hsec hvk hnil hsz
  have hmk := make_64
  go_enter Try.func16, Try.ntmps16
  go_wp2_with (first
    | (go_at_call 47; refine HC.out.mono ?_; rintro e w' ⟨rfl, rfl⟩)
    | (with_reducible refine wpList_copy_splice rfl (.tmp 18) (.tmp 19) _ _ rfl 5 Try.underlying27 (by kernel_rfl) (some ⟨w.heap.size, 0, none⟩) A 64 64 m cc rfl rfl w.heap.size 0 (zeros64.map byt) 5 (zrow_blk w) (l.map byt) ?cn ?cp ?cf (byt_one l) w.heap.size w (zrow_below w) (Nat.le_refl _) ?ch))
  case cn => have := HL.out; have e := Nat.min_eq_left (show m ≤ 64 by omega); simp only [List.length_map]; exact this.trans e.symm
  case cp => 
    intro hp
    obtain ⟨ad, e, -, hx⟩ := (hrd.alloc (Nat.le_refl _) (.cells zrow 5)).2 (by have := HL.out; omega)
    exact ⟨ad, e, fun j v hv => hx j _ (by simp [hv])⟩
  case cf => have := HL.out; first | omega | (simp [zeros64]; omega)
  case ch =>
    intro w1 hg1 hb1
    have k0 := (hb1.cell (p := ⟨b, 0, none⟩) hbl).trans c0
    have k2 := (hb1.cell (p := ⟨b, 2, none⟩) hbl).trans c2
    have k4 := (hb1.cell (p := ⟨b, 4, none⟩) hbl).trans c4
    have ka := (hb1.cell (p := ⟨a, k, none⟩) hal).trans hck
    have k1 := (hb1.cell (p := ⟨b, 1, none⟩) hbl).trans c1
    have k3 := (hb1.cell (p := ⟨b, 3, none⟩) hbl).trans c3
    have e2 := (hb1.frozen (p := ⟨b, 2, none⟩) hbl).trans f2
    have e1 := (hb1.frozen (p := ⟨b, 1, none⟩) hbl).trans f1
    have e4 := (hb1.frozen (p := ⟨b, 4, none⟩) hbl).trans f4
    have ea := (hb1.frozen (p := ⟨a, k, none⟩) hal).trans fk
    go_wp2
    go_ret
    have HP := pad_cells l
    have hgb := hg1.out
    rw [HP] at hgb
    refine ⟨rfl, (H.below hb1).upd _ (by simp [Dk.cutOff]) (by simp [Dk.cutOff]) (by simp [Dk.cutOff]) (fun s0 hb => ?_) ?_, ?_⟩
    · have := (hb.set_ 2 (.int .i64 0)).set_ 1 (.bool true)
      simpa [Dk.cutOff] using this
    · exact Kept.set (Kept.set Kept.refl (by exact rfl)) (by exact rfl)
    · exact Kept.set (S := DS b a) (Kept.set (S := DS b a) (Kept.of_below hb1) (.inl rfl)) (.inl rfl)

/-- Write, whatever comes. -/
theorem write_any (d : Dk) (sector : Int) (l : List UInt8) (h : DiskAt w b a d) (hl : Bts w A m cc l) :
    Calls Try.prog 16 #[.pointer (some ⟨b, 0, none⟩), .int .i64 sector, .slice A m cc] w fun e w' => e = .returned (.int .i64 (d.write sector l).2) ∧ DiskAt w' b a (d.write sector l).1 ∧ Kept (DS b a) w w' := by
  by_cases hm : d.may sector m = 0
  · obtain ⟨h0, h1⟩ : 0 ≤ d.cut ∧ d.cut ≤ 9223372036854775807 := by
      obtain ⟨c, arr, _, _, _, _, _, _, _, h8, h9, _⟩ := h
      exact ⟨h8, h9⟩
    by_cases e0 : d.cut = 0
    · exact write_plain d sector l h hl hm e0
    by_cases e1 : d.cut = 1
    · cases ho : d.odd with
      | true => exact write_cut_odd d sector l h hl hm e1 ho
      | false => exact write_cut_even d sector l h hl hm e1 ho
    · exact write_counts d sector l h hl hm (by omega) h1
  · exact write_no d sector l h hl hm
end
end Go.Proofs.Ytifldkcfbggkeaa
