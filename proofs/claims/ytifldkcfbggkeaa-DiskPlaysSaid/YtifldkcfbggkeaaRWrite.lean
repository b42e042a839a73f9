/- The reference's Write answers as the plain disk does. Conditions: the disk lies in memory as RDiskAt says. -/
import Derived.Test.YtifldkcfbggkeaaRDisk
import Derived.Test.YtifldkcfbggkeaaDiskW
namespace Go.Proofs.Ytifldkcfbggkeaa
open Go.RowKit

theorem str_pad (l : List UInt8) : (.string (⟨l.toArray⟩ ++ ⟨(zs (64 - l.length)).toArray⟩) : Value) = str (pad l) := by
  unfold str
  have e : (⟨l.toArray⟩ ++ ⟨(zs (64 - l.length)).toArray⟩ : ByteArray) = ⟨(pad l).toArray⟩ := by
    apply ByteArray.ext
    simp [pad, zs]
  rw [e]

section
variable {b a : Nat} {w : World}

set_option maxHeartbeats 1000000 in
theorem rwrite_plain (d : Dk) (sector : Int) (l : List UInt8) (h : RDiskAt w b a d) (hm : d.may sector l.length = 0) (hc : d.cut = 0) :
    Calls Try.prog 18 #[.pointer (some ⟨b, 0, none⟩), .int .i64 sector, .string ⟨l.toArray⟩] w fun e w' => e = .returned (.int .i64 (d.write sector l).2) ∧ RDiskAt w' b a (d.write sector l).1 ∧ Kept (DS b a) w w' := by
  have hw : d.write sector l = ((d.put sector l).counted, 0) := by simp [Dk.write, hm, hc]
  rw [hw]
  obtain ⟨hs0, hs1, hm64, hoff⟩ := may_zero hm
  have H := h
  have hab := h.ne
  have hba : ¬ a = b := fun e => hab e.symm
  have hbl := h.ltb
  have hal := h.lta
  obtain ⟨c, arr, how, hb, -, ha, hsz, hlc, hcm, -, -, -, -, hsec⟩ := h
  obtain ⟨k, rfl⟩ := Int.eq_ofNat_of_zero_le hs0
  have hk : k < d.S.length := by omega
  have hvk := hsec k _ (List.getElem?_eq_getElem hk)
  rw [hc, hoff] at hb
  have hck := (ha.cell k).trans hvk
  have fk := ha.frozen k
  have f4 := hb.frozen 4
  obtain ⟨c0, c1, c2, c3, c4, c5⟩ := rdisk_cells hb
  have HCUT := Lib.hid hc
  have hzl : (zs (64 - l.length)).length = 64 - l.length := by simp [zs]
  have hsize : ByteArray.size ⟨l.toArray⟩ = l.length := rfl
  have HZ := Lib.hid (fun W => zeros_any (64 - l.length) (by omega) W)
  clear hw hm hoff hc hb ha hsec hvk hsz
  unfold maxLen at hcm
  go_enter Try.func18, Try.ntmps18
  go_wp2_with fail
  rw [show (64 - (l.length : Int)) = ((64 - l.length : Nat) : Int) from by omega]
  refine (HZ.out _).mono ?_
  rintro e w1 ⟨rfl, rfl⟩
  go_wp2
  go_ret
  refine ⟨rfl, H.put k (pad l) _ (by simp [Dk.put, Dk.counted]) (by have := HCUT.out; simp only [Dk.put, Dk.counted]; omega) (by have := HCUT.out; simp only [Dk.put, Dk.counted]; omega)
    (fun s0 how1 ho hb => ⟨how1, ho, ?_⟩) (fun arr ha => ?_), ?_⟩
  · have := ((hb.far (p := ⟨a, k, none⟩) hab (str (pad l))).set_ 4 (.int .i64 (wrap64 (d.writes + 1)))).alloc (.cells (zsrow (64 - l.length)) 5)
    rw [← str_pad] at this
    simpa [Dk.put, Dk.counted] using this
  · have := ((ha.set_ k (str (pad l))).far (p := ⟨b, 4, none⟩) hba (.int .i64 (wrap64 (d.writes + 1)))).alloc (.cells (zsrow (64 - l.length)) 5)
    rw [← str_pad] at this ⊢
    simpa using this
  · repeat (first | exact Kept.refl | refine Kept.alloc ?_ _ | refine Kept.set ?_ (by first | exact Or.inl rfl | exact Or.inr rfl))

set_option maxHeartbeats 1000000 in
theorem rwrite_counts (d : Dk) (sector : Int) (l : List UInt8) (h : RDiskAt w b a d) (hm : d.may sector l.length = 0) (hc : 2 ≤ d.cut) (hx : d.cut ≤ 9223372036854775807) :
    Calls Try.prog 18 #[.pointer (some ⟨b, 0, none⟩), .int .i64 sector, .string ⟨l.toArray⟩] w fun e w' => e = .returned (.int .i64 (d.write sector l).2) ∧ RDiskAt w' b a (d.write sector l).1 ∧ Kept (DS b a) w w' := by
  have hw : d.write sector l = ((d.less.put sector l).counted, 0) := by simp [Dk.write, hm, show 0 < d.cut by omega, show ¬ d.cut = 1 by omega]
  rw [hw]
  obtain ⟨hs0, hs1, hm64, hoff⟩ := may_zero hm
  have H := h
  have hab := h.ne
  have hba : ¬ a = b := fun e => hab e.symm
  have hbl := h.ltb
  have hal := h.lta
  obtain ⟨c, arr, how, hb, -, ha, hsz, hlc, hcm, -, -, -, -, hsec⟩ := h
  obtain ⟨k, rfl⟩ := Int.eq_ofNat_of_zero_le hs0
  have hk : k < d.S.length := by omega
  have hvk := hsec k _ (List.getElem?_eq_getElem hk)
  rw [hoff] at hb
  have hck := (ha.cell k).trans hvk
  have fk := ha.frozen k
  have f4 := hb.frozen 4
  have f2 := hb.frozen 2
  have f1 := hb.frozen 1
  obtain ⟨c0, c1, c2, c3, c4, c5⟩ := rdisk_cells hb
  have HCUT := Lib.hid hc
  have HX := Lib.hid hx
  have hzl : (zs (64 - l.length)).length = 64 - l.length := by simp [zs]
  have hsize : ByteArray.size ⟨l.toArray⟩ = l.length := rfl
  have HZ := Lib.hid (fun W => zeros_any (64 - l.length) (by omega) W)
  clear hw hm hoff hb ha hsec hvk hsz
  unfold maxLen at hcm
  go_enter Try.func18, Try.ntmps18
  go_wp2_with fail
  rw [show (64 - (l.length : Int)) = ((64 - l.length : Nat) : Int) from by omega]
  refine (HZ.out _).mono ?_
  rintro e w1 ⟨rfl, rfl⟩
  go_wp2
  go_ret
  refine ⟨rfl, H.put k (pad l) _ (by simp [Dk.put, Dk.counted, Dk.less]) (by have := HCUT.out; simp only [Dk.put, Dk.counted, Dk.less]; omega) (by have := HCUT.out; have := HX.out; simp only [Dk.put, Dk.counted, Dk.less]; omega)
    (fun s0 how1 ho hb => ⟨how1, ho, ?_⟩) (fun arr ha => ?_), ?_⟩
  · have := (((hb.set_ 2 (.int .i64 (d.cut - 1))).far (p := ⟨a, k, none⟩) hab (str (pad l))).set_ 4 (.int .i64 (wrap64 (d.writes + 1)))).alloc (.cells (zsrow (64 - l.length)) 5)
    rw [← str_pad] at this
    simpa [Dk.put, Dk.counted, Dk.less] using this
  · have := (((ha.far (p := ⟨b, 2, none⟩) hba (.int .i64 (d.cut - 1))).set_ k (str (pad l))).far (p := ⟨b, 4, none⟩) hba (.int .i64 (wrap64 (d.writes + 1)))).alloc (.cells (zsrow (64 - l.length)) 5)
    rw [← str_pad] at this ⊢
    simpa using this
  · repeat (first | exact Kept.refl | refine Kept.alloc ?_ _ | refine Kept.set ?_ (by first | exact Or.inl rfl | exact Or.inr rfl))

set_option maxHeartbeats 1000000 in
theorem rwrite_cut_odd (d : Dk) (sector : Int) (l : List UInt8) (h : RDiskAt w b a d) (hm : d.may sector l.length = 0) (hc : d.cut = 1) (ho1 : d.odd = true) :
    Calls Try.prog 18 #[.pointer (some ⟨b, 0, none⟩), .int .i64 sector, .string ⟨l.toArray⟩] w fun e w' => e = .returned (.int .i64 (d.write sector l).2) ∧ RDiskAt w' b a (d.write sector l).1 ∧ Kept (DS b a) w w' := by
  have hw : d.write sector l = (d.cutOff.put sector l, 4) := by simp [Dk.write, hm, hc, ho1]
  rw [hw]
  obtain ⟨hs0, hs1, hm64, hoff⟩ := may_zero hm
  have H := h
  have hab := h.ne
  have hba : ¬ a = b := fun e => hab e.symm
  have hbl := h.ltb
  have hal := h.lta
  obtain ⟨c, arr, how, hb, hodd, ha, hsz, hlc, hcm, -, -, -, -, hsec⟩ := h
  obtain ⟨k, rfl⟩ := Int.eq_ofNat_of_zero_le hs0
  have hk : k < d.S.length := by omega
  have hvk := hsec k _ (List.getElem?_eq_getElem hk)
  rw [hc, hoff] at hb
  rw [ho1] at hodd
  have hck := (ha.cell k).trans hvk
  have fk := ha.frozen k
  have f4 := hb.frozen 4
  have f2 := hb.frozen 2
  have f1 := hb.frozen 1
  obtain ⟨c0, c1, c2, c3, c4, c5⟩ := rdisk_cells hb
  have hzl : (zs (64 - l.length)).length = 64 - l.length := by simp [zs]
  have hsize : ByteArray.size ⟨l.toArray⟩ = l.length := rfl
  have HZ := Lib.hid (fun W => zeros_any (64 - l.length) (by omega) W)
  clear hw hm hoff hc ho1 hb ha hsec hvk hsz
  unfold maxLen at hcm
  go_enter Try.func18, Try.ntmps18
  go_wp2_with fail
  rw [show (64 - (l.length : Int)) = ((64 - l.length : Nat) : Int) from by omega]
  refine (HZ.out _).mono ?_
  rintro e w1 ⟨rfl, rfl⟩
  go_wp2
  go_ret
  refine ⟨rfl, H.put k (pad l) _ (by simp [Dk.put, Dk.cutOff]) (by simp [Dk.put, Dk.cutOff]) (by simp [Dk.put, Dk.cutOff])
    (fun s0 how1 ho hb => ⟨how1, ho, ?_⟩) (fun arr ha => ?_), ?_⟩
  · have := (((hb.set_ 2 (.int .i64 0)).set_ 1 (.bool true)).far (p := ⟨a, k, none⟩) hab (str (pad l))).alloc (.cells (zsrow (64 - l.length)) 5)
    rw [← str_pad] at this
    simpa [Dk.put, Dk.cutOff] using this
  · have := (((ha.far (p := ⟨b, 2, none⟩) hba (.int .i64 0)).far (p := ⟨b, 1, none⟩) hba (.bool true)).set_ k (str (pad l))).alloc (.cells (zsrow (64 - l.length)) 5)
    rw [← str_pad] at this ⊢
    simpa using this
  · repeat (first | exact Kept.refl | refine Kept.alloc ?_ _ | refine Kept.set ?_ (by first | exact Or.inl rfl | exact Or.inr rfl))

set_option maxHeartbeats 1000000 in
theorem rwrite_cut_even (d : Dk) (sector : Int) (l : List UInt8) (h : RDiskAt w b a d) (hm : d.may sector l.length = 0) (hc : d.cut = 1) (ho1 : d.odd = false) :
    Calls Try.prog 18 #[.pointer (some ⟨b, 0, none⟩), .int .i64 sector, .string ⟨l.toArray⟩] w fun e w' => e = .returned (.int .i64 (d.write sector l).2) ∧ RDiskAt w' b a (d.write sector l).1 ∧ Kept (DS b a) w w' := by
  have hw : d.write sector l = (d.cutOff, 4) := by simp [Dk.write, hm, hc, ho1]
  rw [hw]
  obtain ⟨hs0, hs1, hm64, hoff⟩ := may_zero hm
  have H := h
  have hab := h.ne
  have hba : ¬ a = b := fun e => hab e.symm
  have hbl := h.ltb
  have hal := h.lta
  obtain ⟨c, arr, how, hb, hodd, ha, hsz, hlc, hcm, -, -, -, -, hsec⟩ := h
  obtain ⟨k, rfl⟩ := Int.eq_ofNat_of_zero_le hs0
  have hk : k < d.S.length := by omega
  have hvk := hsec k _ (List.getElem?_eq_getElem hk)
  rw [hc, hoff] at hb
  rw [ho1] at hodd
  have hck := (ha.cell k).trans hvk
  have fk := ha.frozen k
  have f4 := hb.frozen 4
  have f2 := hb.frozen 2
  have f1 := hb.frozen 1
  obtain ⟨c0, c1, c2, c3, c4, c5⟩ := rdisk_cells hb
  have hzl : (zs (64 - l.length)).length = 64 - l.length := by simp [zs]
  have hsize : ByteArray.size ⟨l.toArray⟩ = l.length := rfl
  have HZ := Lib.hid (fun W => zeros_any (64 - l.length) (by omega) W)
  clear hw hm hoff hc ho1 hb ha hsec hvk hsz
  unfold maxLen at hcm
  go_enter Try.func18, Try.ntmps18
  go_wp2_with fail
  rw [show (64 - (l.length : Int)) = ((64 - l.length : Nat) : Int) from by omega]
  refine (HZ.out _).mono ?_
  rintro e w1 ⟨rfl, rfl⟩
  go_wp2
  go_ret
  refine ⟨rfl, H.upd _ (by simp [Dk.cutOff]) (by simp [Dk.cutOff]) (by simp [Dk.cutOff])
    (fun s0 how1 ho hb => ⟨how1, ho, ?_⟩) ?_, ?_⟩
  · have := ((hb.set_ 2 (.int .i64 0)).set_ 1 (.bool true)).alloc (.cells (zsrow (64 - l.length)) 5)
    simpa [Dk.cutOff] using this
  · exact (Kept.set (Kept.set Kept.refl (by exact rfl)) (by exact rfl)).alloc _
  · repeat (first | exact Kept.refl | refine Kept.alloc ?_ _ | refine Kept.set ?_ (by first | exact Or.inl rfl | exact Or.inr rfl))

set_option maxHeartbeats 1000000 in
theorem rwrite_no (d : Dk) (sector : Int) (l : List UInt8) (h : RDiskAt w b a d) (hl : l.length ≤ 9223372036854775807) (hm : d.may sector l.length ≠ 0) :
    Calls Try.prog 18 #[.pointer (some ⟨b, 0, none⟩), .int .i64 sector, .string ⟨l.toArray⟩] w fun e w' => e = .returned (.int .i64 (d.write sector l).2) ∧ RDiskAt w' b a (d.write sector l).1 ∧ Kept (DS b a) w w' := by
  have hw : d.write sector l = (d, d.may sector l.length) := by simp [Dk.write, hm]
  rw [hw]
  have H := h
  obtain ⟨c, arr, how, hb, -, -, -, hlc, hcm, -, h4, -⟩ := h
  have hsize : ByteArray.size ⟨l.toArray⟩ = l.length := rfl
  unfold maxLen at hcm
  by_cases e1 : sector < 0
  · have hv : d.may sector l.length = 1 := by simp [Dk.may, e1]
    rw [hv]
    obtain ⟨c0, c1, -, -, -, -⟩ := rdisk_cells hb
    clear hb hw hm hv
    go_enter Try.func18, Try.ntmps18
    go_wp2
    go_ret
    exact ⟨rfl, H, Kept.refl⟩
  by_cases e2 : (d.S.length : Int) ≤ sector
  · have hv : d.may sector l.length = 1 := by simp [Dk.may, e2]
    rw [hv]
    obtain ⟨c0, c1, -, -, -, -⟩ := rdisk_cells hb
    clear hb hw hm hv
    go_enter Try.func18, Try.ntmps18
    go_wp2
    go_ret
    exact ⟨rfl, H, Kept.refl⟩
  by_cases e3 : 64 < (l.length : Int)
  · have hv : d.may sector l.length = 1 := by simp only [Dk.may]; rw [if_pos (by omega)]
    rw [hv]
    obtain ⟨c0, c1, -, -, -, -⟩ := rdisk_cells hb
    clear hb hw hm hv
    go_enter Try.func18, Try.ntmps18
    go_wp2
    go_ret
    exact ⟨rfl, H, Kept.refl⟩
  · have hoff : d.off = true := by
      rcases Bool.eq_false_or_eq_true d.off with h | h
      · exact h
      · exact absurd (by simp only [Dk.may]; rw [if_neg (by omega), if_neg (by simp [h])]) hm
    have hv : d.may sector l.length = 4 := by simp only [Dk.may]; rw [if_neg (by omega), if_pos hoff]
    rw [hv]
    rw [hoff] at hb
    obtain ⟨c0, c1, -, -, -, -⟩ := rdisk_cells hb
    clear hb hw hm hv hoff
    go_enter Try.func18, Try.ntmps18
    go_wp2
    go_ret
    exact ⟨rfl, H, Kept.refl⟩

/-- Write, whatever comes. -/
theorem rwrite_any (d : Dk) (sector : Int) (l : List UInt8) (h : RDiskAt w b a d) (hl : l.length ≤ 9223372036854775807) :
    Calls Try.prog 18 #[.pointer (some ⟨b, 0, none⟩), .int .i64 sector, .string ⟨l.toArray⟩] w fun e w' => e = .returned (.int .i64 (d.write sector l).2) ∧ RDiskAt w' b a (d.write sector l).1 ∧ Kept (DS b a) w w' := by
  by_cases hm : d.may sector l.length = 0
  · obtain ⟨h0, h1⟩ : 0 ≤ d.cut ∧ d.cut ≤ 9223372036854775807 := by
      obtain ⟨c, arr, how, _, _, _, _, _, _, _, _, h8, h9, _⟩ := h
      exact ⟨h8, h9⟩
    by_cases e0 : d.cut = 0
    · exact rwrite_plain d sector l h hm e0
    by_cases e1 : d.cut = 1
    · rcases Bool.eq_false_or_eq_true d.odd with ho | ho
      · exact rwrite_cut_odd d sector l h hm e1 ho
      · exact rwrite_cut_even d sector l h hm e1 ho
    · exact rwrite_counts d sector l h hm (by omega) h1
  · exact rwrite_no d sector l h hl hm
end
end Go.Proofs.Ytifldkcfbggkeaa
