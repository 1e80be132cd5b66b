/- The walk over slices.Clone of blocks. -/
import Derived.Test.YtpcaaobninnkaaaDskQuW
import Derived.Lib.SliceRun
namespace Go.Proofs.Ytpcaaobninnkaaa
open Go.RowKit

theorem sureC_one (l : List (List UInt8)) : ∀ u ∈ (sureC l).toList, u.oneCell' = true := fun u hu => by
  simp only [sureC, fl, List.mem_flatMap] at hu
  obtain ⟨x, _, hx⟩ := hu
  simp only [blkC, u8s, List.mem_map] at hx
  obtain ⟨a, _, rfl⟩ := hx
  rfl
theorem sureC_list (l : List (List UInt8)) (hl : ∀ x ∈ l, x.length = 64) : (sureC l).toList.length = l.length * 64 := by
  rw [← sureC_size l hl]; simp
/-- Sizes and zero values, kept whole in a walk. -/
def szK_clone_any : Sem Nat := sizeOf 67
theorem szK_clone_any_keep : sizeOf 67 = szK_clone_any := rfl
def zvK_clone_any : Sem Value := zeroValue 67
theorem zvK_clone_any_keep : zeroValue 67 = zvK_clone_any := rfl
def szL_clone_any : Sem Nat := sizeOf 69
theorem szL_clone_any_keep : sizeOf 69 = szL_clone_any := rfl
attribute [local go_sem ↓] szK_clone_any_keep zvK_clone_any_keep szL_clone_any_keep in
theorem clone_any (w : World) (s c : Nat) (l : List (List UInt8)) (pad : Array Value) (h : Blk w s 67 (sureC l ++ pad)) (hl : ∀ x ∈ l, x.length = 64) (h1 : 1 ≤ l.length) (h2 : l.length ≤ 4096) :
    Calls Try.prog 25 #[.slice (some ⟨s, 0, none⟩) l.length c] w fun e w' => ∃ g cap pad', e = .returned (.slice (some ⟨g, 0, none⟩) l.length cap) ∧ w.heap.size ≤ g ∧ Blk w' g 67 (sureC l ++ pad') ∧ Below w.heap.size w w' := by
  obtain ⟨k, hk⟩ : ∃ k, k = 64 := ⟨_, rfl⟩
  have ks : ∀ w, szK_clone_any.run Try.prog w = .ok k w := fun w => by rw [hk]; exact Try.sizeOf67 w
  have hz : (Try.prog.info? 67).map (fun i => (i.zero, i.size, i.bytes)) = some (some (.agg (u8s zero64).toArray), 64, 64) := by kernel_rfl
  obtain ⟨ie, hie, z1, z2, z3⟩ := info_parts hz
  have H := hide h
  have HE := hide (And.intro hie (And.intro z1 (And.intro z2 z3)))
  have hk0 : ¬ k = 0 := by omega
  clear h hk hz hie z1 z2 z3
  have hq := fun W => Lib.run_eql_slice_nil (P := Try.prog) W 62 67 (some ⟨s, 0, none⟩) l.length c 0 0 Try.underlying62
  have hown : Hid ((w.alloc (.cells #[] 67)).ownsRow w.heap.size 67 64 (.slice (some ⟨w.heap.size, 0, none⟩) 0 0) 0 []) :=
    hide ⟨rfl, .inr ⟨w.heap.size, 0, #[], rfl, Nat.le_refl _, heap_alloc_new w _, Nat.le_refl _, by simp [maxLen], rfl, rfl⟩⟩
  have hnews : Hid (∀ j u, (sureC l).toList[j]? = some u → (w.alloc (.cells #[] 67)).cell? ((⟨s, 0, none⟩ : Addr).add j) = some u) := hide fun j u hu => by
    rw [Addr.add_mid, Nat.zero_add, (H.out.alloc _).cell]
    exact get_app_left (by simpa using hu)
  go_enter Try.func25, Try.ntmps25
  go_wp2_with (
    at_builtin
    obtain ⟨hie, z1, z2, z3⟩ := HE.out
    refine wpList_append_lies _ rfl (.tmp 5) (.tmp 6) _ rfl w.heap.size 67 ie _ 64 64 Try.underlying62 hie z1 z2 z3 (by simp [Value.cells, u8s_length, zero64]) (by decide) (.slice (some ⟨w.heap.size, 0, none⟩) 0 0) 0 [] rfl hown.out ⟨s, 0, none⟩ l.length c (sureC l).toList rfl
      (sureC_list l hl) hnews.out (sureC_one l) (by omega) (by simp only [maxLen]; omega) (by omega) (by simp) _ rfl ?_
    intro g cap w2 hown2 hgrow hat hlt
    have HX := hide (And.intro hown2 (And.intro hgrow hat))
    clear hown2 hgrow hat)
  simp only [Nat.zero_add, List.nil_append] at HX
  go_ret
  obtain ⟨hown2, hgrow, hat⟩ := HX.out
  have hg : w.heap.size ≤ g := by
    rcases hat with h | h
    · simp only [Value.ownBlock, Option.some.injEq] at h; omega
    · rw [h]; simp
  refine ⟨g, cap, ?_⟩
  rcases hown2.2 with ⟨h0, _⟩ | ⟨g', cap', cur, e, e2, e3, e4, e5, e6, e7⟩
  · cases h0
  · injection e with x1 x2 x3
    injection x1 with x1
    injection x1 with x1
    subst x1
    refine ⟨(cur.toList.drop (l.length * 64)).toArray, rfl, hg, ?_, bel_grow ((Below.refl _ _).alloc (Nat.le_refl _) _) hgrow (fun k hk => ?_)⟩
    · have ec : cur = sureC l ++ (cur.toList.drop (l.length * 64)).toArray := by
        apply Array.toList_inj.1
        rw [Array.toList_append, ← e7, List.take_append_drop]
      rw [← ec]
      exact e3
    · simp only [Value.ownBlock, Option.some.injEq] at hk; omega
end Go.Proofs.Ytpcaaobninnkaaa
