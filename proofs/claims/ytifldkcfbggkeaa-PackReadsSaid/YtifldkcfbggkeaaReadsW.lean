/- The walk of PackReads. Conditions: none. -/
import Derived.Test.YtifldkcfbggkeaaPackA
import Derived.Test.YtifldkcfbggkeaaPackQ
import Derived.Test.YtifldkcfbggkeaaOpenL
import Derived.Deep.QuietTactic
import Derived.BigQuiet
import Derived.Deep.LoopGhost
namespace Go.Proofs.Ytifldkcfbggkeaa
open Go.RowKit

theorem plain_cell {w : World} {a : Addr} {v : Value} (h : w.cell? a = some v) : a = ⟨a.block, a.off, none⟩ := by
  obtain ⟨b, o, sp⟩ := a
  cases sp with
  | none => rfl
  | some x =>
    simp only [World.cell?] at h
    split at h <;> simp at h

/-- A reader stays as it was where another one reads. -/
theorem RdAt.other {t t' : TypeId} {w w' : World} {p q : Nat} {l l' : List UInt8} {bad bad' : Bool} (h : RdAt t w q l bad) (h' : RdAt t' w p l' bad') (hne : q ≠ p) (hk : Kept (fun k => k = p) w w') : RdAt t w' q l bad := by
  obtain ⟨A, n, c, hb, h0, hr, hn⟩ := h
  obtain ⟨A', n', c', hb', _⟩ := h'
  refine ⟨A, n, c, hk.blk hb hne, h0, ⟨hr.1, fun hp => ?_⟩, hn⟩
  obtain ⟨ad, e, hlt, hc⟩ := hr.2 hp
  refine ⟨ad, e, hlt, fun j u hu => ?_⟩
  have h1 := hc j u hu
  have hne' : ad.block ≠ p := by
    intro ep
    have e1 := plain_cell h1
    rw [block_of_add, ep] at e1
    rw [e1, hb'.cell] at h1
    have hu' : u ∈ l.map byt := List.mem_of_getElem? hu
    obtain ⟨b, _, rfl⟩ := List.mem_map.1 hu'
    generalize (ad.add j).off = o at h1
    rcases o with _ | _ | o <;> simp [byt] at h1
  have hlt2 : ad.block < w.heap.size := Nat.lt_trans hlt hb.lt
  rw [← h1]
  exact World.cell?_of_block (by rw [block_of_add]; exact hk.block _ hlt2 hne')

theorem RdAt.ne {w : World} {p q : Nat} {l l' : List UInt8} {bad bad' : Bool} (h : RdAt 62 w q l bad) (h' : RdAt 77 w p l' bad') : q ≠ p := by
  obtain ⟨A, n, c, hb, _⟩ := h
  obtain ⟨A', n', c', hb', _⟩ := h'
  exact hb.ne_ hb' (by decide)

theorem belowN {B : Nat} {a w : World} (h : Below B a w) (n : Nat) : Below B a (w.drewN n) := ⟨h.os, h.tape, h.output, h.size, h.block⟩
theorem quietN {P : Program} {f : FuncId} {args : Array Value} {w : World} {n : Nat} {v : Value}
    (h : Calls P f args (w.drewN n) fun e w' => e = .returned v ∧ w.drewN n = w') : Calls P f args (w.drewN n) fun e w'' => e = .returned v ∧ ∃ m, w'' = w.drewN m :=
  h.mono fun _ _ ⟨he, hm⟩ => ⟨he, n, hm.symm⟩
theorem RdAt.drewN {t : TypeId} {w : World} {p : Nat} {l : List UInt8} {bad : Bool} (h : RdAt t w p l bad) (k : Nat) : RdAt t (w.drewN k) p l bad := h

section
variable {w : World} {A : Option Addr} {n c : Nat}
set_option maxHeartbeats 2000000 in
set_option maxRecDepth 100000 in
theorem reads_main (l : List UInt8) (h : Bts w A n c l) {A2 : Option Addr} {n2 c2 : Nat} {zs : List Int} (h2 : Ints .i64 w A2 n2 c2 zs) (hn : n ≤ 400) (hn2 : n2 ≤ 60) :
    Calls Try.prog 9 #[.slice A n c, .slice A2 n2 c2] w fun e w' => e = .returned (.bool true) ∧ Below w.heap.size w w' := by
  obtain ⟨i0, hi0, hz0, hz1, hz2⟩ := info_parts info_u8
  have t1 : decide ((400 : Int) < (n : Int)) = false := decide_eq_false (by omega)
  have t2 : decide ((60 : Int) < (n2 : Int)) = false := decide_eq_false (by omega)
  have HB := Lib.hid h
  have HI := Lib.hid h2
  have hn' := hn
  have hn2' := hn2
  clear h h2
  go_enter Try.func9, Try.ntmps9
  go_wp2_with fail
  refine (awake3 w).mono ?_
  rintro e w1 ⟨rfl, hB1⟩
  have hb1 : Bts w1 A n c l := HB.out.below hB1
  have HB1 := Lib.hid hb1
  clear hb1 HB
  go_wp2_with (first
    | (at_builtin
       go_must (refine wpList_append_any _ rfl (.tmp 18) (.tmp 19) _ rfl w1.heap.size 5 i0 _ 1 1 Try.underlying27 hi0 hz0 hz1 hz2 rfl (by omega) (.slice (some ⟨w1.heap.size, 0, none⟩) 0 0) 0 [] rfl (World.ownsRow_lit w1 #[] 0 (Nat.le_refl _) (by unfold maxLen; omega) rfl) w1.heap.size A n c (l.map byt) rfl (HB1.out.2.1.alloc (Nat.le_refl _) _) (byt_one _) (by unfold maxLen; omega) (by omega) (by simp) ?_)
       intro v1 w2 hown2 hg2 hat2
       have hown2' : w2.ownsRow w1.heap.size 5 1 v1 n (l.map byt) := by simpa using hown2
       obtain ⟨A3, c3, rfl⟩ := own_shape hown2'
       have hb2 : Below w1.heap.size w1 w2 := ((Below.refl _ _).alloc (Nat.le_refl _) _).grown hg2 (by simp) (fun k hk => by simp [Value.ownBlock] at hk; omega)
       have hbt2 : Bts w2 A3 n c3 l := own_bts hown2'
       clear hown2 hg2 hat2 hown2'))
  refine (read_new hbt2 (by omega)).mono ?_
  rintro e w3 ⟨p, rfl, hr3, hp3, hb3⟩
  have hw12 := hb2.size
  have hB3 : Below w1.heap.size w1 w3 := hb2.trans (hb3.mono hb2.size)
  have hb3' : Bts w3 A n c l := HB1.out.below hB3
  have HR3 := Lib.hid hr3
  have HB3 := Lib.hid hb3'
  clear hr3 hb3' hb3 hb2 hbt2 HB1
  go_wp2_with (first
    | (at_builtin
       go_must (refine wpList_append_any _ rfl (.tmp 22) (.tmp 23) _ rfl w3.heap.size 5 i0 _ 1 1 Try.underlying27 hi0 hz0 hz1 hz2 rfl (by omega) (.slice (some ⟨w3.heap.size, 0, none⟩) 0 0) 0 [] rfl (World.ownsRow_lit w3 #[] 0 (Nat.le_refl _) (by unfold maxLen; omega) rfl) w3.heap.size A n c (l.map byt) rfl (HB3.out.2.1.alloc (Nat.le_refl _) _) (byt_one _) (by unfold maxLen; omega) (by omega) (by simp) ?_)
       intro v4 w4 hown4 hg4 hat4
       have hown4' : w4.ownsRow w3.heap.size 5 1 v4 n (l.map byt) := by simpa using hown4
       obtain ⟨A5, c5, rfl⟩ := own_shape hown4'
       have hb4 : Below w3.heap.size w3 w4 := ((Below.refl _ _).alloc (Nat.le_refl _) _).grown hg4 (by simp) (fun k hk => by simp [Value.ownBlock] at hk; omega)
       have hbt4 : Bts w4 A5 n c5 l := own_bts hown4'
       have hr4 := HR3.out.below hb4
       have HBT4 := Lib.hid hbt4
       have HR4 := Lib.hid hr4
       have HBW4 := Lib.hid hb4
       clear hown4 hg4 hat4 hown4' hbt4 hr4 hb4))
  have hrp : RdAt 77 (w4.alloc (.cells #[.slice A5 n c5, .bool false] 62)) p l false := HR4.out.below ((Below.refl _ _).alloc (Nat.le_refl _) _)
  have hrq : RdAt 62 (w4.alloc (.cells #[.slice A5 n c5, .bool false] 62)) w4.heap.size l false :=
    ⟨A5, n, c5, Blk.new _ _ _, (show BtsB w4 w4.heap.size A5 n c5 l from HBT4.out).below ((Below.refl _ _).alloc (Nat.le_refl _) _)⟩
  have hB5 : Below w.heap.size w (w4.alloc (.cells #[.slice A5 n c5, .bool false] 62)) :=
    ((hB1.trans (hB3.mono hB1.size)).trans (HBW4.out.mono (Nat.le_trans hB1.size hB3.size))).alloc (by have := hB1.size; have := hB3.size; have := HBW4.out.size; omega) _
  have hq : w.heap.size ≤ w4.heap.size := by have := hB1.size; have := hB3.size; have := HBW4.out.size; omega
  have hp : w.heap.size ≤ p := by have := hB1.size; omega
  generalize w4.heap.size = q at *
  clear HR3 HB3 HBT4 HR4 HBW4 hB3 hB1
  go_loopg [7] n2 (fun k i wr => ∃ (j : Nat) (l' : List UInt8) (bad : Bool), j + k = n2 ∧ i = .int .i64 (j : Int) ∧ RdAt 77 wr p l' bad ∧ RdAt 62 wr q l' bad ∧ Below w.heap.size w wr)
  case atStart => exact ⟨0, l, false, by omega, rfl, hrp, hrq, hB5⟩
  case round =>
    obtain ⟨j, l', bad, hj, rfl, hrp, hrq, hB⟩ := hrel
    by_cases hlt : j < n2
    · have HJ := Lib.hid hj
      clear hj
      obtain ⟨⟨_, hrd, _, _⟩, hzl, hzw⟩ := HI.out
      obtain ⟨ab, ao, u, rfl, hcell⟩ : ∃ ab ao u, A2 = some ⟨ab, ao, none⟩ ∧ wr.cell? ⟨ab, ao + j, none⟩ = some (.int .i64 u) ∧ (Lit.int .i64 u).wf = true := by
        obtain ⟨ad, v, e, _, h1, h2⟩ := (hrd.below hB).at_ hlt
        obtain ⟨ad0, v0, e0, _, h10, h20⟩ := (hrd.below hB).at_ (k := 0) (by omega)
        rw [List.getElem?_map] at h1
        obtain ⟨z, hz, rfl⟩ := Option.map_eq_some_iff.1 h1
        obtain rfl : ad0 = ad := by rw [e] at e0; injection e0 with e0; exact e0.symm
        have hpl := plain_cell h20
        obtain ⟨b, o, sp⟩ := ad0
        obtain rfl : sp = none := by simp [Addr.add] at hpl; exact hpl
        refine ⟨b, o, z, e, ?_, hzw z (List.mem_of_getElem? hz)⟩
        rw [← h2]
        congr 1
        unfold Addr.add
        by_cases e : j = 0 <;> simp [e]
      obtain ⟨cell, hwf⟩ := hcell
      clear hrd hzl hzw
      have hwr : IntKind.i64.wrap (u.tmod 3) = u.tmod 3 := by
        have h1 : u.tmod 3 < 3 := by have := Int.tmod_lt_of_pos u (show (0 : Int) < 3 by omega); exact this
        have h2 : -3 < u.tmod 3 := by have := Int.lt_tmod_of_pos u (show (0 : Int) < 3 by omega); exact this
        exact IntWalk.i64_in _ (by omega)
      clear hwf
      have HRP := Lib.hid hrp
      have HRQ := Lib.hid hrq
      have HB' := Lib.hid hB
      clear hrp hrq hB
      by_cases e1 : u.tmod 3 = 1
      · have g1 : (u.tmod 3 == 1) = true := beq_iff_eq.2 e1
        have CP := Lib.hid (readI_any HRP.out)
        have CQ := Lib.hid (fun (w : World) (h : RdAt 62 w q l' bad) => readI_ref h)
        generalize (rdInt l' bad).1 = v at *
        generalize (rdInt l' bad).2.1 = l2 at *
        generalize (rdInt l' bad).2.2 = bad2 at *
        go_wp2_with fail
        refine CP.out.mono ?_
        rintro e wa ⟨rfl, hpa, hka⟩
        have hqa := HRQ.out.other HRP.out (HRQ.out.ne HRP.out) hka
        have hBa := low HB'.out (Nat.le_refl _) hp hka
        go_wp2_with fail
        refine (CQ.out _ hqa).mono ?_
        rintro e wb ⟨rfl, hqb, hkb⟩
        have hpb := hpa.other hqa (fun h => hqa.ne hpa h.symm) hkb
        have hBb := low hBa (Nat.le_refl _) hq hkb
        clear hqa hBa hpa hka hkb CP CQ
        obtain ⟨A9, n9, c9, hb9, hl9⟩ := id hqb
        obtain ⟨r0, r1⟩ := rd_cells hb9
        obtain rfl : l2.length = n9 := hl9.2.2.2.2
        clear hb9 hl9
        have CL := Lib.hid (fun m => left_any (hpb.drewN m))
        have CB := Lib.hid (fun m => bad_any (hpb.drewN m))
        have HPB := Lib.hid hpb
        have HQB := Lib.hid hqb
        clear hpb hqb
        go_wp2_with fail
        go_quiet (first
          | (go_at_call 33; exact quietN (CL.out _))
          | (go_at_call 32; exact quietN (CB.out _)))
        go_wp2
        go_roundg (n2 - (j + 1))
        case measure => have := HJ.out; omega
        case rel => exact ⟨j + 1, l2, bad2, by have := HJ.out; omega, by go_num, HPB.out.drewN _, HQB.out.drewN _, belowN hBb _⟩
      · have g1 : (u.tmod 3 == 1) = false := beq_eq_false_iff_ne.2 e1
        by_cases e2 : u.tmod 3 = 2
        · have g2 : (u.tmod 3 == 2) = true := beq_iff_eq.2 e2
          have CP := Lib.hid (readS_any HRP.out)
          have CQ := Lib.hid (fun (w : World) (h : RdAt 62 w q l' bad) => readS_ref h)
          generalize (rdStr l' bad).1 = v at *
          generalize (rdStr l' bad).2.1 = l2 at *
          generalize (rdStr l' bad).2.2 = bad2 at *
          go_wp2_with fail
          refine CP.out.mono ?_
          rintro e wa ⟨rfl, hpa, hka⟩
          have hqa := HRQ.out.other HRP.out (HRQ.out.ne HRP.out) hka
          have hBa := low HB'.out (Nat.le_refl _) hp hka
          go_wp2_with fail
          refine (CQ.out _ hqa).mono ?_
          rintro e wb ⟨rfl, hqb, hkb⟩
          have hpb := hpa.other hqa (fun h => hqa.ne hpa h.symm) hkb
          have hBb := low hBa (Nat.le_refl _) hq hkb
          clear hqa hBa hpa hka hkb CP CQ
          obtain ⟨A9, n9, c9, hb9, hl9⟩ := id hqb
          obtain ⟨r0, r1⟩ := rd_cells hb9
          obtain rfl : l2.length = n9 := hl9.2.2.2.2
          clear hb9 hl9
          have CL := Lib.hid (fun m => left_any (hpb.drewN m))
          have CB := Lib.hid (fun m => bad_any (hpb.drewN m))
          have HPB := Lib.hid hpb
          have HQB := Lib.hid hqb
          clear hpb hqb
          go_wp2_with fail
          go_quiet (first
            | (go_at_call 33; exact quietN (CL.out _))
            | (go_at_call 32; exact quietN (CB.out _)))
          go_wp2
          go_roundg (n2 - (j + 1))
          case measure => have := HJ.out; omega
          case rel => exact ⟨j + 1, l2, bad2, by have := HJ.out; omega, by go_num, HPB.out.drewN _, HQB.out.drewN _, belowN hBb _⟩
        · have g2 : (u.tmod 3 == 2) = false := beq_eq_false_iff_ne.2 e2
          have CP := Lib.hid (readU_any HRP.out)
          have CQ := Lib.hid (fun (w : World) (h : RdAt 62 w q l' bad) => readU_ref h)
          generalize (rdNum l' bad).1 = v at *
          generalize (rdNum l' bad).2.1 = l2 at *
          generalize (rdNum l' bad).2.2 = bad2 at *
          go_wp2_with fail
          refine CP.out.mono ?_
          rintro e wa ⟨rfl, hpa, hka⟩
          have hqa := HRQ.out.other HRP.out (HRQ.out.ne HRP.out) hka
          have hBa := low HB'.out (Nat.le_refl _) hp hka
          go_wp2_with fail
          refine (CQ.out _ hqa).mono ?_
          rintro e wb ⟨rfl, hqb, hkb⟩
          have hpb := hpa.other hqa (fun h => hqa.ne hpa h.symm) hkb
          have hBb := low hBa (Nat.le_refl _) hq hkb
          clear hqa hBa hpa hka hkb CP CQ
          obtain ⟨A9, n9, c9, hb9, hl9⟩ := id hqb
          obtain ⟨r0, r1⟩ := rd_cells hb9
          obtain rfl : l2.length = n9 := hl9.2.2.2.2
          clear hb9 hl9
          have CL := Lib.hid (fun m => left_any (hpb.drewN m))
          have CB := Lib.hid (fun m => bad_any (hpb.drewN m))
          have HPB := Lib.hid hpb
          have HQB := Lib.hid hqb
          clear hpb hqb
          go_wp2_with fail
          go_quiet (first
            | (go_at_call 33; exact quietN (CL.out _))
            | (go_at_call 32; exact quietN (CB.out _)))
          go_wp2
          go_roundg (n2 - (j + 1))
          case measure => have := HJ.out; omega
          case rel => exact ⟨j + 1, l2, bad2, by have := HJ.out; omega, by go_num, HPB.out.drewN _, HQB.out.drewN _, belowN hBb _⟩
    · obtain rfl : n2 = j := by omega
      go_wp2
      go_ret
      exact ⟨rfl, hB⟩

theorem reads_all (l : List UInt8) (h : Bts w A n c l) {A2 : Option Addr} {n2 c2 : Nat} {zs : List Int} (h2 : Ints .i64 w A2 n2 c2 zs) :
    Calls Try.prog 9 #[.slice A n c, .slice A2 n2 c2] w fun e w' => e = .returned (.bool true) ∧ Below w.heap.size w w' := by
  by_cases t1 : n ≤ 400
  · by_cases t2 : n2 ≤ 60
    · exact reads_main l h h2 t1 t2
    · have e1 : decide ((400 : Int) < (n : Int)) = false := decide_eq_false (by omega)
      have e2 : decide ((60 : Int) < (n2 : Int)) = true := decide_eq_true (by omega)
      have hm := Nat.le_trans h.2.2.1 h.2.2.2.1
      have hm2 := Nat.le_trans h2.1.2.2.1 h2.1.2.2.2
      unfold maxLen at hm hm2
      clear h h2
      go_enter Try.func9, Try.ntmps9
      go_wp2_with fail
      refine (awake3 w).mono ?_
      rintro e w1 ⟨rfl, hB1⟩
      go_wp2
      go_ret
      exact ⟨rfl, hB1⟩
  · have e1 : decide ((400 : Int) < (n : Int)) = true := decide_eq_true (by omega)
    have hm := Nat.le_trans h.2.2.1 h.2.2.2.1
    have hm2 := Nat.le_trans h2.1.2.2.1 h2.1.2.2.2
    unfold maxLen at hm hm2
    clear h h2
    go_enter Try.func9, Try.ntmps9
    go_wp2_with fail
    refine (awake3 w).mono ?_
    rintro e w1 ⟨rfl, hB1⟩
    go_wp2
    go_ret
    exact ⟨rfl, hB1⟩
end
end Go.Proofs.Ytifldkcfbggkeaa
