/- The disk's small methods: what each answers, and what it leaves in memory. Conditions: the disk lies in memory as DiskAt says. -/
import Derived.Test.YtifldkcfbggkeaaDiskM
import Derived.Test.YtifldkcfbggkeaaClone
namespace Go.Proofs.Ytifldkcfbggkeaa
open Go.RowKit

section
variable {b a n c : Nat} {off odd : Bool} {cut writes lives : Int} {w : World}

/-- The struct's cells, for a walk. -/
theorem disk_cells {v0 v1 v2 v3 v4 v5 : Value} (h : Blk w b 71 #[v0, v1, v2, v3, v4, v5]) :
    w.cell? ⟨b, 0, none⟩ = some v0 ∧ w.cell? ⟨b, 1, none⟩ = some v1 ∧ w.cell? ⟨b, 2, none⟩ = some v2 ∧ w.cell? ⟨b, 3, none⟩ = some v3 ∧ w.cell? ⟨b, 4, none⟩ = some v4 ∧ w.cell? ⟨b, 5, none⟩ = some v5 :=
  ⟨(h.cell 0).trans rfl, (h.cell 1).trans rfl, (h.cell 2).trans rfl, (h.cell 3).trans rfl, (h.cell 4).trans rfl, (h.cell 5).trans rfl⟩

set_option maxHeartbeats 400000 in
theorem may_any (d : Dk) (sector size : Int) (h : DiskAt w b a d) :
    Calls Try.prog 47 #[.pointer (some ⟨b, 0, none⟩), .int .i64 sector, .int .i64 size] w fun e w' => e = .returned (.int .i64 (d.may sector size)) ∧ w = w' := by
  obtain ⟨S, off, cut, odd, writes, lives⟩ := d
  obtain ⟨c, arr, hb, -, -, -, -, h1, h2, -⟩ := h
  simp only at hb h1 h2
  obtain ⟨c0, c1, -, -, -, -⟩ := disk_cells hb
  clear hb
  by_cases e1 : sector < 0
  · have hm : Dk.may ⟨S, off, cut, odd, writes, lives⟩ sector size = 1 := by simp [Dk.may, e1]
    rw [hm]
    go_enter Try.func47, Try.ntmps47
    go_wp2
    go_ret
    exact ⟨rfl, rfl⟩
  by_cases e2 : (S.length : Int) ≤ sector
  · have hm : Dk.may ⟨S, off, cut, odd, writes, lives⟩ sector size = 1 := by simp [Dk.may, e2]
    rw [hm]
    go_enter Try.func47, Try.ntmps47
    go_wp2
    go_ret
    exact ⟨rfl, rfl⟩
  by_cases e3 : 64 < size
  · have hm : Dk.may ⟨S, off, cut, odd, writes, lives⟩ sector size = 1 := by simp [Dk.may, e3]
    rw [hm]
    go_enter Try.func47, Try.ntmps47
    go_wp2
    go_ret
    exact ⟨rfl, rfl⟩
  have hm : Dk.may ⟨S, off, cut, odd, writes, lives⟩ sector size = if off = true then 4 else 0 := by simp only [Dk.may]; rw [if_neg (by omega)]
  rw [hm]
  cases off with
  | true =>
    go_enter Try.func47, Try.ntmps47
    go_wp2
    go_ret
    exact ⟨rfl, rfl⟩
  | false =>
    go_enter Try.func47, Try.ntmps47
    go_wp2
    go_ret
    exact ⟨rfl, rfl⟩

theorem sectors_any (d : Dk) (h : DiskAt w b a d) :
    Calls Try.prog 46 #[.pointer (some ⟨b, 0, none⟩)] w fun e w' => e = .returned (.int .i64 d.S.length) ∧ w = w' := by
  obtain ⟨c, arr, hb, -, -, -, -, h1, h2, -⟩ := h
  obtain ⟨c0, c1, -, -, -, -⟩ := disk_cells hb
  clear hb
  go_enter Try.func46, Try.ntmps46
  go_wp2
  go_ret
  exact ⟨rfl, rfl⟩

theorem power_any (d : Dk) (h : DiskAt w b a d) :
    Calls Try.prog 24 #[.pointer (some ⟨b, 0, none⟩)] w fun e w' => e = .returned (.bool (!d.off)) ∧ w = w' := by
  obtain ⟨c, arr, hb, -, -, -, -, h1, h2, -⟩ := h
  obtain ⟨c0, c1, -, -, -, -⟩ := disk_cells hb
  clear hb
  go_enter Try.func24, Try.ntmps24
  go_wp2
  go_ret
  exact ⟨rfl, rfl⟩

theorem writes_any (d : Dk) (h : DiskAt w b a d) :
    Calls Try.prog 25 #[.pointer (some ⟨b, 0, none⟩)] w fun e w' => e = .returned (.int .i64 d.writes) ∧ w = w' := by
  obtain ⟨c, arr, hb, -, -, -, -, h1, h2, -⟩ := h
  obtain ⟨-, -, -, -, c4, -⟩ := disk_cells hb
  clear hb
  go_enter Try.func25, Try.ntmps25
  go_wp2
  go_ret
  exact ⟨rfl, rfl⟩

theorem lives_any (d : Dk) (h : DiskAt w b a d) :
    Calls Try.prog 26 #[.pointer (some ⟨b, 0, none⟩)] w fun e w' => e = .returned (.int .i64 d.lives) ∧ w = w' := by
  obtain ⟨c, arr, hb, -, -, -, -, h1, h2, -⟩ := h
  obtain ⟨-, -, -, -, -, c5⟩ := disk_cells hb
  clear hb
  go_enter Try.func26, Try.ntmps26
  go_wp2
  go_ret
  exact ⟨rfl, rfl⟩

theorem cut_any (d : Dk) (n how : Int) (hn : n ≤ 9223372036854775807) (h : DiskAt w b a d) :
    Calls Try.prog 19 #[.pointer (some ⟨b, 0, none⟩), .int .i64 n, .int .i64 how] w fun e w' => e = .returned (.tuple #[]) ∧ DiskAt w' b a (d.armed n how) ∧ Kept (DS b a) w w' := by
  have H := h
  obtain ⟨c, arr, hb, -, -, -, -, h1, h2, -, h4, -⟩ := h
  have f2 := hb.frozen 2
  have f3 := hb.frozen 3
  obtain ⟨c0, c1, c2, c3, c4, c5⟩ := disk_cells hb
  clear hb
  go_enter Try.func19, Try.ntmps19
  go_wp2
  · go_end0
    refine ⟨rfl, H.upd _ rfl (by simp only [Dk.armed]; omega) (by simp only [Dk.armed]; omega) (fun s0 hb => ?_) (by repeat (first | exact Kept.refl | refine Kept.set ?_ (by first | exact rfl | exact Or.inl rfl))), (by repeat (first | exact Kept.refl | refine Kept.set ?_ (by first | exact rfl | exact Or.inl rfl)))⟩
    have := (hb.set_ 2 (.int .i64 0)).set_ 3 (.bool (how.tmod 2 != 0))
    have e : max n 0 = 0 := by omega
    simpa [Dk.armed, e] using this
  · go_end0
    refine ⟨rfl, H.upd _ rfl (by simp only [Dk.armed]; omega) (by simp only [Dk.armed]; omega) (fun s0 hb => ?_) (by repeat (first | exact Kept.refl | refine Kept.set ?_ (by first | exact rfl | exact Or.inl rfl))), (by repeat (first | exact Kept.refl | refine Kept.set ?_ (by first | exact rfl | exact Or.inl rfl)))⟩
    have := (hb.set_ 2 (.int .i64 n)).set_ 3 (.bool (how.tmod 2 != 0))
    have e : max n 0 = n := by omega
    simpa [Dk.armed, e] using this

theorem on_any (d : Dk) (h : DiskAt w b a d) :
    Calls Try.prog 21 #[.pointer (some ⟨b, 0, none⟩)] w fun e w' => e = .returned (.tuple #[]) ∧ DiskAt w' b a d.on ∧ Kept (DS b a) w w' := by
  have H := h
  obtain ⟨c, arr, hb, -, -, -, -, h1, h2, -⟩ := h
  have f2 := hb.frozen 2
  have f1 := hb.frozen 1
  have f5 := hb.frozen 5
  obtain ⟨c0, c1, c2, c3, c4, c5⟩ := disk_cells hb
  clear hb
  go_enter Try.func21, Try.ntmps21
  go_wp2
  go_end0
  refine ⟨rfl, H.upd _ rfl (by simp [Dk.on]) (by simp [Dk.on]) (fun s0 hb => ?_) (by repeat (first | exact Kept.refl | refine Kept.set ?_ (by first | exact rfl | exact Or.inl rfl))), (by repeat (first | exact Kept.refl | refine Kept.set ?_ (by first | exact rfl | exact Or.inl rfl)))⟩
  have := ((hb.set_ 1 (.bool false)).set_ 2 (.int .i64 0)).set_ 5 (.int .i64 (wrap64 (d.lives + 1)))
  simpa [Dk.on] using this
end
end Go.Proofs.Ytifldkcfbggkeaa
