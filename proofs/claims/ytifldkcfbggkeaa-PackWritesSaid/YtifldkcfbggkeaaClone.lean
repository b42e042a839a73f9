/- slices.Clone at []byte: what it hands back holds the bytes of what came in, in new memory; nothing else turns. Conditions: the slice can be read, and fits the reach. -/
import Derived.Test.YtifldkcfbggkeaaRows
import Derived.Test.YtifldkcfbggkeaaBase
namespace Go.Proofs.Ytifldkcfbggkeaa
open Go.RowKit

theorem info_u8 : (Try.prog.info? 5).map (fun i => (i.zero, i.size, i.bytes)) = some (some (.int .u8 0), 1, 1) := by kernel_rfl

set_option maxHeartbeats 400000 in
theorem clone_bytes_some (ad : Addr) (n c : Nat) (xs : List Value) (w : World) (hr : Reads w w.heap.size 1 (some ad) n xs) (h1 : ∀ u ∈ xs, u.oneCell' = true) (hn : n ≤ 140737488355328) :
    Calls Try.prog 48 #[.slice (some ad) n c] w fun e w' => ∃ v, e = .returned v ∧ w'.ownsRow w.heap.size 5 1 v n xs ∧ Below w.heap.size w w' ∧ (∃ g c, v = .slice (some ⟨g, 0, none⟩) n c) := by
  obtain ⟨i0, hi0, hz0, hz1, hz2⟩ := info_parts info_u8
  have q := fun (w : World) => Lib.run_eql_slice_nil (P := Try.prog) w 27 5 (some ad) n c 0 0 Try.underlying27
  go_enter Try.func48, Try.ntmps48
  go_wp2_with (at_builtin; refine wpList_append_any _ rfl (.tmp 5) (.tmp 6) _ rfl w.heap.size 5 i0 _ 1 1 Try.underlying27 hi0 hz0 hz1 hz2 rfl (by omega) (.slice (some ⟨w.heap.size, 0, none⟩) 0 0) 0 [] rfl (World.ownsRow_lit w #[] 0 (Nat.le_refl _) (by unfold maxLen; omega) rfl) w.heap.size (some ad) n c xs rfl (hr.alloc (Nat.le_refl _) _) h1 (by simp only [maxLen]; omega) (by omega) (by simp) ?_; intro v1 w1 hown1 hg1 hat1)
  go_ret
  refine ⟨v1, rfl, by simpa using hown1, ((Below.refl _ _).alloc (Nat.le_refl _) _).grown hg1 (by simp) (fun k hk => by simp [Value.ownBlock] at hk; omega), ?_⟩
  have hown1 : w1.ownsRow w.heap.size 5 1 v1 n xs := by simpa using hown1
  rcases hat1 with e | e
  · obtain ⟨c', hv, _⟩ := own_form hown1 (k := w.heap.size) (by rw [e]; rfl)
    exact ⟨_, c', hv⟩
  · obtain ⟨c', hv, _⟩ := own_form hown1 e
    exact ⟨_, c', hv⟩

theorem clone_bytes_nil (w : World) :
    Calls Try.prog 48 #[.slice none 0 0] w fun e w' => e = .returned (.slice none 0 0) ∧ w = w' := by
  have q := fun (w : World) => Lib.run_eql_slice_nil (P := Try.prog) w 27 5 none 0 0 0 0 Try.underlying27
  go_enter Try.func48, Try.ntmps48
  go_wp2
  go_ret
  exact ⟨rfl, rfl⟩
end Go.Proofs.Ytifldkcfbggkeaa
