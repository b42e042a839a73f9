/- The walk of PackBack (printed by backgen.py). Conditions: none. -/
import Derived.Test.YtifldkcfbggkeaaBackM
import Derived.Deep.RegionHeld3
import Derived.Deep.LoopGhost
namespace Go.Proofs.Ytifldkcfbggkeaa
open Go.RowKit

section
variable {w : World} {A1 A2 A3 : Option Addr} {n1 n2 n3 c1 c2 c3 : Nat} {us vs : List Int} {ss : List ByteArray}
set_option maxHeartbeats 4000000 in
set_option maxRecDepth 100000 in
theorem back_main (h1 : Ints .u64 w A1 n1 c1 us) (h2 : Ints .i64 w A2 n2 c2 vs) (h3 : Strs w A3 n3 c3 ss) (m1 : n1 ≤ 30) (m2 : n2 ≤ 30) (m3 : n3 ≤ 30) :
    Calls Try.prog 10 #[.slice A1 n1 c1, .slice A2 n2 c2, .slice A3 n3 c3] w fun e w' => e = .returned (.bool true) ∧ Below w.heap.size w w' := by
  have t1 : decide ((30 : Int) < (n1 : Int)) = false := decide_eq_false (by omega)
  have t2 : decide ((30 : Int) < (n2 : Int)) = false := decide_eq_false (by omega)
  have t3 : decide ((30 : Int) < (n3 : Int)) = false := decide_eq_false (by omega)
  have HU := Lib.hid h1
  have HI := Lib.hid h2
  have HS := Lib.hid h3
  clear h1 h2 h3
  go_enter Try.func10, Try.ntmps10
  go_wp2_with fail
  refine (awake3 w).mono ?_
  rintro e w1 ⟨rfl, hB1⟩
  clear t1 t2 t3
  go_wp2_with fail
  go_loopg [8] n3 (fun k i wr => ∃ j : Nat, j + k = n3 ∧ i = .int .i64 (j : Int) ∧ (∀ x ∈ ss.take j, x.size ≤ 100) ∧ Below w.heap.size w wr)
  case atStart => exact ⟨0, by omega, rfl, by simp, hB1⟩
  case round =>
    obtain ⟨j, hj, rfl, hall, hB⟩ := hrel
    by_cases hlt : j < n3
    · obtain ⟨ab, ao, z, rfl, hz, hget, hcell⟩ := strs_at HS.out hlt
      have cell := hcell _ hB
      have HJ := Lib.hid hj
      have HG := Lib.hid hget
      have HA := Lib.hid hall
      have hzm : z.size ≤ 9223372036854775807 := by unfold maxLen at hz; omega
      clear hj hget hcell hall hz
      by_cases hs : 100 < z.size
      · go_wp2
        go_ret
        exact ⟨rfl, hB⟩
      · go_wp2
        go_roundg (n3 - (j + 1))
        case measure => have := HJ.out; omega
        case rel =>
          refine ⟨j + 1, by have := HJ.out; omega, by go_num, fun x hx => ?_, hB⟩
          rw [List.take_add_one, HG.out] at hx
          rcases List.mem_append.1 hx with hx | hx
          · exact HA.out x hx
          · simp at hx; subst hx; omega
    · obtain rfl : n3 = j := by omega
      have hall3 : ∀ x ∈ ss, x.size ≤ 100 := by
        have : ss.take n3 = ss := List.take_of_length_le (by have := HS.out.2.1; omega)
        rwa [this] at hall
      have HALL := Lib.hid hall3
      clear hall hall3 hj hlt
      go_wp2_with fail
      go_loopg [7, 9] n1 (fun k b i wr => ∃ (j : Nat) (A : Option Addr) (c : Nat) (l : List UInt8), j + k = n1 ∧ i = .int .i64 (j : Int) ∧ b = .slice A l.length c ∧ Bts wr A l.length c l ∧ Hid (l = [] ++ (us.take j).flatMap eU) ∧ Below w.heap.size w wr)
      case atStart => exact ⟨0, none, 0, [], by omega, rfl, rfl, bts_nil _, Lib.hid (by simp), hB⟩
      case round =>
        clear hB
        obtain ⟨j, A, c, l, hj, rfl, rfl, hbt, HL, hB⟩ := hrel
        have hlen : l.length ≤ 0 + 10 * n1 := by
          rw [HL.out, List.length_append]
          have e1 := enc_le eU (m := 10) (us.take j) (fun x hx => eU_le (HU.out.2.2 x (List.mem_of_mem_take hx)))
          have e2 : (us.take j).length ≤ n1 := by rw [List.length_take]; have := HU.out.2.1; omega
          have e4 : (us.take j).length * 10 ≤ 10 * n1 := by rw [Nat.mul_comm]; exact Nat.mul_le_mul_left _ e2
          simp only [List.length_nil]
          omega
        by_cases hlt : j < n1
        · obtain ⟨ab, ao, z, rfl, hz, hget, hcell⟩ := ints_at HU.out hlt
          have cell := hcell _ hB
          obtain ⟨u, rfl, hu⟩ := u64_nat hz
          have C := packU_any u hbt (by omega) hu
          have hE : l ++ putU u = l ++ eU (u : Int) := by simp [eU]
          rw [hE] at C
          have hR : ∃ r, r = l ++ eU (u : Int) := ⟨_, rfl⟩
          obtain ⟨r, hR⟩ := hR
          rw [← hR] at C
          have CC := Lib.hid C
          have HR := Lib.hid hR
          have HJ := Lib.hid hj
          have HG := Lib.hid hget
          have HBT := Lib.hid hbt
          clear C hE hR hj hget hcell hz hbt
          go_wp2_with fail
          refine CC.out.mono ?_
          rintro e w2 ⟨g, c9, rfl, hown, hb2⟩
          have hbt2 := Put.bts hown
          have HBT2 := Lib.hid hbt2
          have hB2 := hB.trans (hb2.mono hB.size)
          clear hown hb2 hbt2 CC HBT
          go_wp2
          go_roundg (n1 - (j + 1))
          case measure => have := HJ.out; omega
          case rel => exact ⟨j + 1, _, c9, r, by have := HJ.out; omega, by go_num, rfl, HBT2.out, Lib.hid (by rw [HR.out, HL.out, enc_take eU HG.out, List.append_assoc]), hB2⟩
        · obtain rfl : n1 = j := by omega
          have HL2 : Hid (l = [] ++ us.flatMap eU) := by
            have : us.take n1 = us := List.take_of_length_le (by have := HU.out.2.1; omega)
            have h := HL.out
            rw [this] at h
            exact Lib.hid h
          clear HL
          have HL := HL2
          clear HL2 hj hlt
          go_wp2_with fail
          go_loopg [7, 10] n2 (fun k b i wr => ∃ (j : Nat) (A : Option Addr) (c : Nat) (l : List UInt8), j + k = n2 ∧ i = .int .i64 (j : Int) ∧ b = .slice A l.length c ∧ Bts wr A l.length c l ∧ Hid (l = us.flatMap eU ++ (vs.take j).flatMap eI) ∧ Below w.heap.size w wr)
          case atStart => exact ⟨0, A, c, l, by omega, rfl, rfl, hbt, Lib.hid (by simp [HL.out]), hB⟩
          case round =>
            clear hlen hbt HL hB l c A
            obtain ⟨j, A, c, l, hj, rfl, rfl, hbt, HL, hB⟩ := hrel
            have hlen : l.length ≤ 300 + 10 * n2 := by
              rw [HL.out, List.length_append]
              have e1 := enc_le eI (m := 10) (vs.take j) (fun x hx => eI_le (HI.out.2.2 x (List.mem_of_mem_take hx)))
              have e2 : (vs.take j).length ≤ n2 := by rw [List.length_take]; have := HI.out.2.1; omega
              have e4 : (vs.take j).length * 10 ≤ 10 * n2 := by rw [Nat.mul_comm]; exact Nat.mul_le_mul_left _ e2
              have e3 := enc_le eU (m := 10) us (fun x hx => eU_le (HU.out.2.2 x hx))
              have e5 : us.length ≤ 30 := by have := HU.out.2.1; omega
              omega
            by_cases hlt : j < n2
            · obtain ⟨ab, ao, z, rfl, hz, hget, hcell⟩ := ints_at HI.out hlt
              have cell := hcell _ hB
              have C := packI_any z hbt (by omega) (i64_in' hz).1 (i64_in' hz).2
              have hE : l ++ putU (zig z) = l ++ eI z := rfl
              rw [hE] at C
              have hR : ∃ r, r = l ++ eI z := ⟨_, rfl⟩
              obtain ⟨r, hR⟩ := hR
              rw [← hR] at C
              have CC := Lib.hid C
              have HR := Lib.hid hR
              have HJ := Lib.hid hj
              have HG := Lib.hid hget
              have HBT := Lib.hid hbt
              clear C hE hR hj hget hcell hz hbt
              go_wp2_with fail
              refine CC.out.mono ?_
              rintro e w2 ⟨g, c9, rfl, hown, hb2⟩
              have hbt2 := Put.bts hown
              have HBT2 := Lib.hid hbt2
              have hB2 := hB.trans (hb2.mono hB.size)
              clear hown hb2 hbt2 CC HBT
              go_wp2
              go_roundg (n2 - (j + 1))
              case measure => have := HJ.out; omega
              case rel => exact ⟨j + 1, _, c9, r, by have := HJ.out; omega, by go_num, rfl, HBT2.out, Lib.hid (by rw [HR.out, HL.out, enc_take eI HG.out, List.append_assoc]), hB2⟩
            · obtain rfl : n2 = j := by omega
              have HL2 : Hid (l = us.flatMap eU ++ vs.flatMap eI) := by
                have : vs.take n2 = vs := List.take_of_length_le (by have := HI.out.2.1; omega)
                have h := HL.out
                rw [this] at h
                exact Lib.hid h
              clear HL
              have HL := HL2
              clear HL2 hj hlt
              go_wp2_with fail
              go_loopg [7, 11] n3 (fun k b i wr => ∃ (j : Nat) (A : Option Addr) (c : Nat) (l : List UInt8), j + k = n3 ∧ i = .int .i64 (j : Int) ∧ b = .slice A l.length c ∧ Bts wr A l.length c l ∧ Hid (l = (us.flatMap eU ++ vs.flatMap eI) ++ (ss.take j).flatMap eS) ∧ Below w.heap.size w wr)
              case atStart => exact ⟨0, A, c, l, by omega, rfl, rfl, hbt, Lib.hid (by simp [HL.out]), hB⟩
              case round =>
                clear hlen hbt HL hB l c A
                obtain ⟨j, A, c, l, hj, rfl, rfl, hbt, HL, hB⟩ := hrel
                have hlen : l.length ≤ 600 + 110 * n3 := by
                  rw [HL.out, List.length_append]
                  have e1 := enc_le eS (m := 110) (ss.take j) (fun x hx => eS_le (HALL.out x (List.mem_of_mem_take hx)))
                  have e2 : (ss.take j).length ≤ n3 := by rw [List.length_take]; have := HS.out.2.1; omega
                  have e4 : (ss.take j).length * 110 ≤ 110 * n3 := by rw [Nat.mul_comm]; exact Nat.mul_le_mul_left _ e2
                  have e3 := enc_le eU (m := 10) us (fun x hx => eU_le (HU.out.2.2 x hx))
                  have e5 : us.length ≤ 30 := by have := HU.out.2.1; omega
                  have e6 := enc_le eI (m := 10) vs (fun x hx => eI_le (HI.out.2.2 x hx))
                  have e7 : vs.length ≤ 30 := by have := HI.out.2.1; omega
                  rw [List.length_append]
                  omega
                by_cases hlt : j < n3
                · obtain ⟨ab, ao, z, rfl, hz, hget, hcell⟩ := strs_at HS.out hlt
                  have cell := hcell _ hB
                  have hz100 := HALL.out z (List.mem_of_getElem? hget)
                  have C := packS_any z.data.toList hbt (by have : z.data.toList.length = z.size := Array.length_toList; omega)
                  have hE : l ++ putU z.data.toList.length ++ z.data.toList = l ++ eS z := by unfold eS; simp
                  rw [show (⟨z.data.toList.toArray⟩ : ByteArray) = z by cases z; simp] at C
                  rw [hE] at C
                  have hR : ∃ r, r = l ++ eS z := ⟨_, rfl⟩
                  obtain ⟨r, hR⟩ := hR
                  rw [← hR] at C
                  have CC := Lib.hid C
                  have HR := Lib.hid hR
                  have HJ := Lib.hid hj
                  have HG := Lib.hid hget
                  have HBT := Lib.hid hbt
                  clear C hE hR hj hget hcell hz hbt hz100
                  go_wp2_with fail
                  refine CC.out.mono ?_
                  rintro e w2 ⟨g, c9, rfl, hown, hb2⟩
                  have hbt2 := Put.bts hown
                  have HBT2 := Lib.hid hbt2
                  have hB2 := hB.trans (hb2.mono hB.size)
                  clear hown hb2 hbt2 CC HBT
                  go_wp2
                  go_roundg (n3 - (j + 1))
                  case measure => have := HJ.out; omega
                  case rel => exact ⟨j + 1, _, c9, r, by have := HJ.out; omega, by go_num, rfl, HBT2.out, Lib.hid (by rw [HR.out, HL.out, enc_take eS HG.out, List.append_assoc]), hB2⟩
                · obtain rfl : n3 = j := by omega
                  have HL2 : Hid (l = (us.flatMap eU ++ vs.flatMap eI) ++ ss.flatMap eS) := by
                    have : ss.take n3 = ss := List.take_of_length_le (by have := HS.out.2.1; omega)
                    have h := HL.out
                    rw [this] at h
                    exact Lib.hid h
                  clear HL
                  have HL := HL2
                  clear HL2 hj hlt
                  have hlen9 := hlen
                  go_wp2_with fail
                  refine (read_new hbt (by omega)).mono ?_
                  rintro e w2 ⟨p, rfl, hrd, hp, hb2⟩
                  have hB2 := hB.trans (hb2.mono hB.size)
                  have hpw : w.heap.size ≤ p := by have := hB.size; omega
                  have hrd0 : RdAt 77 w2 p (us.flatMap eU ++ (vs.flatMap eI ++ ss.flatMap eS)) false := by
                    have e : l = us.flatMap eU ++ (vs.flatMap eI ++ ss.flatMap eS) := by rw [HL.out]; simp
                    rw [← e]
                    exact hrd
                  clear hrd hbt HL hlen hlen9 hb2 hp hB
                  go_wp2_with fail
                  go_loopg [13] n1 (fun k i wr => ∃ (j : Nat) (l : List UInt8), j + k = n1 ∧ i = .int .i64 (j : Int) ∧ RdAt 77 wr p l false ∧ Hid (l = (us.drop j).flatMap eU ++ (vs.flatMap eI ++ ss.flatMap eS)) ∧ Below w.heap.size w wr)
                  case atStart => exact ⟨0, _, by omega, rfl, hrd0, Lib.hid (by simp), hB2⟩
                  case round =>
                    clear hrd0 hB2
                    obtain ⟨j, l, hj, rfl, hrd, HL, hB⟩ := hrel
                    by_cases hlt : j < n1
                    · obtain ⟨ab, ao, z, rfl, hz, hget, hcell⟩ := ints_at HU.out hlt
                      have e0 : l = eU z ++ ((us.drop (j + 1)).flatMap eU ++ (vs.flatMap eI ++ ss.flatMap eS)) := by rw [HL.out, enc_drop eU hget, List.append_assoc]
                      rw [e0] at hrd
                      clear e0 HL
                      obtain ⟨u, rfl, hu⟩ := u64_nat hz
                      have hrd' : RdAt 77 wr p (putU u ++ ((us.drop (j + 1)).flatMap eU ++ (vs.flatMap eI ++ ss.flatMap eS))) false := by simpa [eU] using hrd
                      obtain ⟨r, hR⟩ : ∃ r, r = (us.drop (j + 1)).flatMap eU ++ (vs.flatMap eI ++ ss.flatMap eS) := ⟨_, rfl⟩
                      rw [← hR] at hrd'
                      have CD := Lib.hid (back_U hu (show RdAt 77 wr.drew p _ false from hrd'))
                      have HR := Lib.hid hR
                      have HJ := Lib.hid hj
                      have HC := Lib.hid hcell
                      have HB' := Lib.hid hB
                      have cell := hcell _ hB
                      clear hR hj hcell hget hz hrd hrd' hB
                      go_wp2_with fail
                      go_region_held3 (fun w' => w'.cell? ⟨ab, ao + j, none⟩ = some (.int .u64 (u : Int)))
                        (first
                          | exact HC.out _ HB'.out.drew
                          | exact HC.out _ hB3)
                        (first
                          | (go_simp; go_at_call 30; go_must (refine CD.out.mono ?_); rintro e w3 ⟨rfl, hrd3, hk3⟩
                             have hB3 := low HB'.out.drew (Nat.le_refl _) hpw hk3))
                      clear CD HC
                      go_wp2
                      go_roundg (n1 - (j + 1))
                      case measure => have := HJ.out; omega
                      case rel => exact ⟨j + 1, r, by have := HJ.out; omega, by go_num, hrd3, HR, hB3⟩
                    · obtain rfl : n1 = j := by omega
                      have hrd0 : RdAt 77 wr p ((vs.flatMap eI ++ ss.flatMap eS)) false := by
                        have e1 : us.drop n1 = [] := List.drop_eq_nil_of_le (by have := HU.out.2.1; omega)
                        have h := HL.out
                        rw [e1] at h
                        rw [show ((vs.flatMap eI ++ ss.flatMap eS) : List UInt8) = l by rw [h]; simp]
                        exact hrd
                      have hB2 := hB
                      clear hrd HL hB hj hlt l
                      go_wp2_with fail
                      go_loopg [14] n2 (fun k i wr => ∃ (j : Nat) (l : List UInt8), j + k = n2 ∧ i = .int .i64 (j : Int) ∧ RdAt 77 wr p l false ∧ Hid (l = (vs.drop j).flatMap eI ++ ss.flatMap eS) ∧ Below w.heap.size w wr)
                      case atStart => exact ⟨0, _, by omega, rfl, hrd0, Lib.hid (by simp), hB2⟩
                      case round =>
                        clear hrd0 hB2
                        obtain ⟨j, l, hj, rfl, hrd, HL, hB⟩ := hrel
                        by_cases hlt : j < n2
                        · obtain ⟨ab, ao, z, rfl, hz, hget, hcell⟩ := ints_at HI.out hlt
                          have e0 : l = eI z ++ ((vs.drop (j + 1)).flatMap eI ++ ss.flatMap eS) := by rw [HL.out, enc_drop eI hget, List.append_assoc]
                          rw [e0] at hrd
                          clear e0 HL
                          obtain ⟨r, hR⟩ : ∃ r, r = (vs.drop (j + 1)).flatMap eI ++ ss.flatMap eS := ⟨_, rfl⟩
                          rw [← hR] at hrd
                          have CD := Lib.hid (back_I hz (show RdAt 77 wr.drew p _ false from hrd))
                          have HR := Lib.hid hR
                          have HJ := Lib.hid hj
                          have HC := Lib.hid hcell
                          have HB' := Lib.hid hB
                          have cell := hcell _ hB
                          clear hR hj hcell hget hz hrd hB
                          go_wp2_with fail
                          go_region_held3 (fun w' => w'.cell? ⟨ab, ao + j, none⟩ = some (.int .i64 z))
                            (first
                              | exact HC.out _ HB'.out.drew
                              | exact HC.out _ hB3)
                            (first
                              | (go_simp; go_at_call 31; go_must (refine CD.out.mono ?_); rintro e w3 ⟨rfl, hrd3, hk3⟩
                                 have hB3 := low HB'.out.drew (Nat.le_refl _) hpw hk3))
                          clear CD HC
                          go_wp2
                          go_roundg (n2 - (j + 1))
                          case measure => have := HJ.out; omega
                          case rel => exact ⟨j + 1, r, by have := HJ.out; omega, by go_num, hrd3, HR, hB3⟩
                        · obtain rfl : n2 = j := by omega
                          have hrd0 : RdAt 77 wr p (ss.flatMap eS) false := by
                            have e1 : vs.drop n2 = [] := List.drop_eq_nil_of_le (by have := HI.out.2.1; omega)
                            have h := HL.out
                            rw [e1] at h
                            rw [show (ss.flatMap eS : List UInt8) = l by rw [h]; simp]
                            exact hrd
                          have hB2 := hB
                          clear hrd HL hB hj hlt l
                          go_wp2_with fail
                          go_loopg [15] n3 (fun k i wr => ∃ (j : Nat) (l : List UInt8), j + k = n3 ∧ i = .int .i64 (j : Int) ∧ RdAt 77 wr p l false ∧ Hid (l = (ss.drop j).flatMap eS ++ []) ∧ Below w.heap.size w wr)
                          case atStart => exact ⟨0, _, by omega, rfl, hrd0, Lib.hid (by simp), hB2⟩
                          case round =>
                            clear hrd0 hB2
                            obtain ⟨j, l, hj, rfl, hrd, HL, hB⟩ := hrel
                            by_cases hlt : j < n3
                            · obtain ⟨ab, ao, z, rfl, hz, hget, hcell⟩ := strs_at HS.out hlt
                              have e0 : l = eS z ++ ((ss.drop (j + 1)).flatMap eS ++ []) := by rw [HL.out, enc_drop eS hget, List.append_assoc]
                              rw [e0] at hrd
                              clear e0 HL
                              have hz100 := HALL.out z (List.mem_of_getElem? hget)
                              obtain ⟨r, hR⟩ : ∃ r, r = (ss.drop (j + 1)).flatMap eS ++ [] := ⟨_, rfl⟩
                              rw [← hR] at hrd
                              have CD := Lib.hid (back_S hz100 (show RdAt 77 wr.drew p _ false from hrd))
                              have HR := Lib.hid hR
                              have HJ := Lib.hid hj
                              have HC := Lib.hid hcell
                              have HB' := Lib.hid hB
                              have cell := hcell _ hB
                              clear hR hj hcell hget hz hrd hz100 hB
                              go_wp2_with fail
                              go_region_held3 (fun w' => w'.cell? ⟨ab, ao + j, none⟩ = some (.string z))
                                (first
                                  | exact HC.out _ HB'.out.drew
                                  | exact HC.out _ hB3)
                                (first
                                  | (go_simp; go_at_call 34; go_must (refine CD.out.mono ?_); rintro e w3 ⟨rfl, hrd3, hk3⟩
                                     have hB3 := low HB'.out.drew (Nat.le_refl _) hpw hk3))
                              clear CD HC
                              go_wp2
                              go_roundg (n3 - (j + 1))
                              case measure => have := HJ.out; omega
                              case rel => exact ⟨j + 1, r, by have := HJ.out; omega, by go_num, hrd3, HR, hB3⟩
                            · obtain rfl : n3 = j := by omega
                              have hrd0 : RdAt 77 wr p ([]) false := by
                                have e1 : ss.drop n3 = [] := List.drop_eq_nil_of_le (by have := HS.out.2.1; omega)
                                have h := HL.out
                                rw [e1] at h
                                rw [show ([] : List UInt8) = l by rw [h]; simp]
                                exact hrd
                              have hB2 := hB
                              clear hrd HL hB hj hlt l
                              go_wp2_with fail
                              refine (left_any hrd0).mono ?_
                              rintro e w9 ⟨rfl, rfl⟩
                              go_wp2_with fail
                              refine (bad_any hrd0).mono ?_
                              rintro e w9 ⟨rfl, rfl⟩
                              go_wp2
                              go_ret
                              exact ⟨rfl, hB2⟩

theorem back_all (h1 : Ints .u64 w A1 n1 c1 us) (h2 : Ints .i64 w A2 n2 c2 vs) (h3 : Strs w A3 n3 c3 ss) :
    Calls Try.prog 10 #[.slice A1 n1 c1, .slice A2 n2 c2, .slice A3 n3 c3] w fun e w' => e = .returned (.bool true) ∧ Below w.heap.size w w' := by
  have b1 := Nat.le_trans h1.1.2.2.1 h1.1.2.2.2
  have b2 := Nat.le_trans h2.1.2.2.1 h2.1.2.2.2
  have b3 := Nat.le_trans h3.1.2.2.1 h3.1.2.2.2
  unfold maxLen at b1 b2 b3
  by_cases m1 : n1 ≤ 30
  · have t1 : decide ((30 : Int) < (n1 : Int)) = false := decide_eq_false (by omega)
    by_cases m2 : n2 ≤ 30
    · have t2 : decide ((30 : Int) < (n2 : Int)) = false := decide_eq_false (by omega)
      by_cases m3 : n3 ≤ 30
      · exact back_main h1 h2 h3 m1 m2 m3
      · have t3 : decide ((30 : Int) < (n3 : Int)) = true := decide_eq_true (by omega)
        clear h1 h2 h3
        go_enter Try.func10, Try.ntmps10
        go_wp2_with fail
        refine (awake3 w).mono ?_
        rintro e w1 ⟨rfl, hB1⟩
        go_wp2
        go_ret
        exact ⟨rfl, hB1⟩
    · have t2 : decide ((30 : Int) < (n2 : Int)) = true := decide_eq_true (by omega)
      clear h1 h2 h3
      go_enter Try.func10, Try.ntmps10
      go_wp2_with fail
      refine (awake3 w).mono ?_
      rintro e w1 ⟨rfl, hB1⟩
      go_wp2
      go_ret
      exact ⟨rfl, hB1⟩
  · have t1 : decide ((30 : Int) < (n1 : Int)) = true := decide_eq_true (by omega)
    clear h1 h2 h3
    go_enter Try.func10, Try.ntmps10
    go_wp2_with fail
    refine (awake3 w).mono ?_
    rintro e w1 ⟨rfl, hB1⟩
    go_wp2
    go_ret
    exact ⟨rfl, hB1⟩
end
end Go.Proofs.Ytifldkcfbggkeaa
