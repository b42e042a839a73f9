/- acts: calls on a disk, one behind the other. Conditions: the disk and the calls lie in memory as said. -/
import Derived.Test.YtifldkcfbggkeaaKeepsW
namespace Go.Proofs.Ytifldkcfbggkeaa
open Go.RowKit

structure Ac where
  op : Int
  sector : Int
  n : Int
  how : Int
  B : List UInt8

def Ac.fits (x : Ac) : Prop := x.n ≤ 9223372036854775807

/-- A slice of bytes that lies below block B0. -/
def BtsB (w : World) (B0 : Nat) (A : Option Addr) (n c : Nat) (l : List UInt8) : Prop :=
  (A = none → n = 0 ∧ c = 0) ∧ Reads w B0 1 A n (l.map u8) ∧ n ≤ c ∧ c ≤ maxLen ∧ l.length = n
theorem BtsB.bts {w : World} {B0 n c : Nat} {A : Option Addr} {l : List UInt8} (h : BtsB w B0 A n c l) (hB : B0 ≤ w.heap.size) : Bts w A n c l := ⟨h.1, h.2.1.more hB, h.2.2⟩
theorem BtsB.below {w w' : World} {B0 n c : Nat} {A : Option Addr} {l : List UInt8} (h : BtsB w B0 A n c l) (hb : Below B0 w w') : BtsB w' B0 A n c l := ⟨h.1, h.2.1.below hb, h.2.2⟩

/-- The calls, below block B0: five cells each. -/
def ActsAt (w : World) (B0 : Nat) (A : Option Addr) (len : Nat) (L : List Ac) : Prop :=
  L.length = len ∧ ∀ (i : Nat) (x : Ac), L[i]? = some x → x.fits ∧ ∃ bb oo, A = some ⟨bb, oo, none⟩ ∧ bb < B0 ∧
    w.cell? ⟨bb, oo + i * 5, none⟩ = some (.int .i64 x.op) ∧ w.cell? ⟨bb, oo + i * 5 + 1, none⟩ = some (.int .i64 x.sector) ∧ w.cell? ⟨bb, oo + i * 5 + 2, none⟩ = some (.int .i64 x.n) ∧
    w.cell? ⟨bb, oo + i * 5 + 3, none⟩ = some (.int .i64 x.how) ∧ ∃ A' m c, w.cell? ⟨bb, oo + i * 5 + 4, none⟩ = some (.slice A' m c) ∧ BtsB w B0 A' m c x.B

theorem ActsAt.below {w w' : World} {B0 len : Nat} {A : Option Addr} {L : List Ac} (h : ActsAt w B0 A len L) (hb : Below B0 w w') : ActsAt w' B0 A len L := by
  refine ⟨h.1, fun i x hx => ?_⟩
  obtain ⟨hf, bb, oo, rfl, hB, h0, h1, h2, h3, A', m, c, h4, h5⟩ := h.2 i x hx
  have k : ∀ j, w'.cell? ⟨bb, j, none⟩ = w.cell? ⟨bb, j, none⟩ := fun j => hb.cell hB
  exact ⟨hf, bb, oo, rfl, hB, (k _).trans h0, (k _).trans h1, (k _).trans h2, (k _).trans h3, A', m, c, (k _).trans h4, h5.below hb⟩

def Dk.act (d : Dk) (x : Ac) : Dk :=
  if x.op = 0 then (d.write x.sector x.B).1 else if x.op = 2 then d.armed x.n x.how else if x.op = 3 then d.on else d
def Dk.acts (d : Dk) (L : List Ac) : Dk := L.foldl Dk.act d

section
variable {b a len cap B0 : Nat} {A : Option Addr} {w : World}

set_option maxHeartbeats 2000000 in
set_option maxRecDepth 100000 in
theorem acts_any (d : Dk) (L : List Ac) (hd : DiskAt w b a d) (hL : ActsAt w B0 A len L) (hb : B0 ≤ b) (ha : B0 ≤ a) (hB0 : B0 ≤ w.heap.size) (hlen : len ≤ 40) (hlc : len ≤ cap) (hcap : cap ≤ maxLen) :
    Calls Try.prog 27 #[.pointer (some ⟨b, 0, none⟩), .slice A len cap] w fun e w' => e = .returned (.tuple #[]) ∧ DiskAt w' b a (d.acts L) ∧ Kept (DS b a) w w' := by
  have HL := Lib.hid hL
  have hLl := Lib.hid hL.1
  clear hL
  unfold maxLen at hcap
  go_enter Try.func27, Try.ntmps27
  go_wp2_with fail
  go_loopg [4] len (fun k i wr => ∃ j : Nat, j + k = len ∧ i = .int .i64 (j : Int) ∧ DiskAt wr b a (d.acts (L.take j)) ∧ Kept (DS b a) w wr)
  case atStart => exact ⟨0, by omega, rfl, hd, Kept.refl⟩
  case round =>
    obtain ⟨j, hj, rfl, hd, hK⟩ := hrel
    by_cases hlt : j < len
    · have hBw : Below B0 w wr := hK.below hB0 (by rintro i (rfl | rfl) <;> omega)
      have hjL : j < L.length := by have := hLl.out; omega
      obtain ⟨hf, bb, oo, rfl, hadB, h0, h1, h2, h3, A', m, c, h4, hB5⟩ := (HL.out.below hBw).2 j L[j] (List.getElem?_eq_getElem hjL)
      have hnext : d.acts (L.take (j + 1)) = (d.acts (L.take j)).act L[j] := by
        rw [List.take_succ_eq_append_getElem hjL]
        simp only [Dk.acts, List.foldl_append, List.foldl_cons, List.foldl_nil]
      generalize L[j] = x at *
      have HN := Lib.hid hnext
      have HJ := Lib.hid hj
      have HB5 := Lib.hid hB5
      clear hnext hj hB5
      have hBw' : B0 ≤ wr.heap.size := Nat.le_trans hB0 hK.size
      by_cases e0 : x.op = 0
      · go_wp2_with fail
        refine (write_any _ _ _ (hd.below ((Below.refl _ _).alloc (Nat.le_refl _) _)) ((HB5.out.below ((Below.refl B0 wr).alloc hBw' _)).bts (by simp; omega))).mono ?_
        rintro e w4 ⟨rfl, hd4, hk4⟩
        have hK4 : Kept (DS b a) w w4 := (hK.alloc _).trans hk4 (fun _ _ h => h)
        clear hk4
        go_wp2
        go_roundg (len - (j + 1))
        case measure => have := HJ.out; omega
        case rel => exact ⟨j + 1, by omega, by go_num, by rw [HN.out]; unfold Dk.act; rw [if_pos e0]; exact hd4, hK4⟩
      by_cases e2 : x.op = 2
      · go_wp2_with fail
        refine (cut_any _ _ _ hf (hd.below ((Below.refl _ _).alloc (Nat.le_refl _) _))).mono ?_
        rintro e w4 ⟨rfl, hd4, hk4⟩
        have hK4 : Kept (DS b a) w w4 := (hK.alloc _).trans hk4 (fun _ _ h => h)
        clear hk4
        go_wp2
        go_roundg (len - (j + 1))
        case measure => have := HJ.out; omega
        case rel => exact ⟨j + 1, by omega, by go_num, by rw [HN.out]; unfold Dk.act; rw [if_neg e0, if_pos e2]; exact hd4, hK4⟩
      by_cases e3 : x.op = 3
      · go_wp2_with fail
        refine (on_any _ (hd.below ((Below.refl _ _).alloc (Nat.le_refl _) _))).mono ?_
        rintro e w4 ⟨rfl, hd4, hk4⟩
        have hK4 : Kept (DS b a) w w4 := (hK.alloc _).trans hk4 (fun _ _ h => h)
        clear hk4
        go_wp2
        go_roundg (len - (j + 1))
        case measure => have := HJ.out; omega
        case rel => exact ⟨j + 1, by omega, by go_num, by rw [HN.out]; unfold Dk.act; rw [if_neg e0, if_neg e2, if_pos e3]; exact hd4, hK4⟩
      · have g0 : (x.op == 0) = false := beq_eq_false_iff_ne.2 e0
        have g2 : (x.op == 2) = false := beq_eq_false_iff_ne.2 e2
        have g3 : (x.op == 3) = false := beq_eq_false_iff_ne.2 e3
        go_wp2_with fail
        go_roundg (len - (j + 1))
        case measure => have := HJ.out; omega
        case rel => exact ⟨j + 1, by omega, by go_num, by rw [HN.out]; unfold Dk.act; rw [if_neg e0, if_neg e2, if_neg e3]; exact hd.below ((Below.refl _ _).alloc (Nat.le_refl _) _), hK.alloc _⟩
    · obtain rfl : j = len := by omega
      clear hj
      go_wp2
      go_end0
      refine ⟨rfl, ?_, hK⟩
      rwa [List.take_of_length_le (by have := hLl.out; omega)] at hd
end
end Go.Proofs.Ytifldkcfbggkeaa
