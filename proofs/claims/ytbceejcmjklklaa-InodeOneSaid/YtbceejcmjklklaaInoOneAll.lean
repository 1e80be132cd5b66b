/- The walk of marllaw05.InodeOne: the whole. -/
import Derived.Test.YtbceejcmjklklaaInoOneBad
import Derived.Test.YtbceejcmjklklaaInoLits
namespace Go.Proofs.Ytbceejcmjklklaa
open Go.RowKit

theorem enc_code (a v k l s : Int) (p0 p1 p2 p3 p4 p5 p6 p7 p8 : Nat) (i0 : p0 < 4294967296) (i1 : p1 < 4294967296) (i2 : p2 < 4294967296) (i3 : p3 < 4294967296) (i4 : p4 < 4294967296) (i5 : p5 < 4294967296) (i6 : p6 < 4294967296) (i7 : p7 < 4294967296) (i8 : p8 < 4294967296) : ∃ c : Int, ((c != 0) = true ∧ ¬ InoP a v k l s ∨ c = 0 ∧ InoP a v k l s) ∧
    ∀ w, Calls Try.prog 13 #[inoV a v k l s p0 p1 p2 p3 p4 p5 p6 p7 p8] w fun e w' => ∃ X n cx, e = .returned (.tuple #[.slice X n cx, .int .i64 c]) ∧ Below w.heap.size w w' := by
  by_cases h : InoP a v k l s
  · refine ⟨0, .inr ⟨rfl, h⟩, fun w => ?_⟩
    obtain ⟨a, rfl⟩ := Int.eq_ofNat_of_zero_le (show 0 ≤ a by have := h.1; omega)
    obtain ⟨v, rfl⟩ := Int.eq_ofNat_of_zero_le (show 0 ≤ v by have := h.2.1; omega)
    obtain ⟨k, rfl⟩ := Int.eq_ofNat_of_zero_le (show 0 ≤ k by have := h.2.2.1; omega)
    obtain ⟨l, rfl⟩ := Int.eq_ofNat_of_zero_le (show 0 ≤ l by have := h.2.2.2.1; omega)
    obtain ⟨s, rfl⟩ := Int.eq_ofNat_of_zero_le (show 0 ≤ s by have := h.2.2.2.2; omega)
    refine (enc_yes a v k l s p0 p1 p2 p3 p4 p5 p6 p7 p8 w h i0 i1 i2 i3 i4 i5 i6 i7 i8).mono ?_
    rintro e w' ⟨A, c, rfl, _, hb⟩
    exact ⟨A, 64, c, rfl, hb⟩
  · refine ⟨22, .inl ⟨rfl, h⟩, fun w => ?_⟩
    refine (enc_no a v k l s p0 p1 p2 p3 p4 p5 p6 p7 p8 w h).mono ?_
    rintro e w' ⟨rfl, hb⟩
    exact ⟨none, 0, 0, rfl, hb⟩
theorem one_all (a v k l s a' v' k' l' s' : Int) (p0 p1 p2 p3 p4 p5 p6 p7 p8 q0 q1 q2 q3 q4 q5 q6 q7 q8 : Nat) (w : World) (i0 : p0 < 4294967296) (i1 : p1 < 4294967296) (i2 : p2 < 4294967296) (i3 : p3 < 4294967296) (i4 : p4 < 4294967296) (i5 : p5 < 4294967296) (i6 : p6 < 4294967296) (i7 : p7 < 4294967296) (i8 : p8 < 4294967296) (j0 : q0 < 4294967296) (j1 : q1 < 4294967296) (j2 : q2 < 4294967296) (j3 : q3 < 4294967296) (j4 : q4 < 4294967296) (j5 : q5 < 4294967296) (j6 : q6 < 4294967296) (j7 : q7 < 4294967296) (j8 : q8 < 4294967296) :
    Calls Try.prog 4 #[inoV a v k l s p0 p1 p2 p3 p4 p5 p6 p7 p8, inoV a' v' k' l' s' q0 q1 q2 q3 q4 q5 q6 q7 q8] w fun e w' => e = .returned (.bool true) ∧ Below w.heap.size w w' := by
  obtain ⟨c1, h1, C1⟩ := enc_code a v k l s p0 p1 p2 p3 p4 p5 p6 p7 p8 i0 i1 i2 i3 i4 i5 i6 i7 i8
  obtain ⟨c2, h2, C2⟩ := enc_code a' v' k' l' s' q0 q1 q2 q3 q4 q5 q6 q7 q8 j0 j1 j2 j3 j4 j5 j6 j7 j8
  rcases h1 with ⟨h1, _⟩ | ⟨rfl, g1⟩
  · exact one_bad a v k l s a' v' k' l' s' p0 p1 p2 p3 p4 p5 p6 p7 p8 q0 q1 q2 q3 q4 q5 q6 q7 q8 w c1 c2 (.inl h1) C1 C2
  · rcases h2 with ⟨h2, _⟩ | ⟨rfl, g2⟩
    · exact one_bad a v k l s a' v' k' l' s' p0 p1 p2 p3 p4 p5 p6 p7 p8 q0 q1 q2 q3 q4 q5 q6 q7 q8 w 0 c2 (.inr ⟨rfl, h2⟩) C1 C2
    · clear C1 C2
      obtain ⟨a, rfl⟩ := Int.eq_ofNat_of_zero_le (show 0 ≤ a by have := g1.1; omega)
      obtain ⟨v, rfl⟩ := Int.eq_ofNat_of_zero_le (show 0 ≤ v by have := g1.2.1; omega)
      obtain ⟨k, rfl⟩ := Int.eq_ofNat_of_zero_le (show 0 ≤ k by have := g1.2.2.1; omega)
      obtain ⟨l, rfl⟩ := Int.eq_ofNat_of_zero_le (show 0 ≤ l by have := g1.2.2.2.1; omega)
      obtain ⟨s, rfl⟩ := Int.eq_ofNat_of_zero_le (show 0 ≤ s by have := g1.2.2.2.2; omega)
      obtain ⟨a', rfl⟩ := Int.eq_ofNat_of_zero_le (show 0 ≤ a' by have := g2.1; omega)
      obtain ⟨v', rfl⟩ := Int.eq_ofNat_of_zero_le (show 0 ≤ v' by have := g2.2.1; omega)
      obtain ⟨k', rfl⟩ := Int.eq_ofNat_of_zero_le (show 0 ≤ k' by have := g2.2.2.1; omega)
      obtain ⟨l', rfl⟩ := Int.eq_ofNat_of_zero_le (show 0 ≤ l' by have := g2.2.2.2.1; omega)
      obtain ⟨s', rfl⟩ := Int.eq_ofNat_of_zero_le (show 0 ≤ s' by have := g2.2.2.2.2; omega)
      by_cases he : (a = a' ∧ v = v' ∧ k = k' ∧ l = l' ∧ s = s' ∧ [p0, p1, p2, p3, p4, p5, p6, p7, p8] = [q0, q1, q2, q3, q4, q5, q6, q7, q8])
      · obtain ⟨rfl, rfl, rfl, rfl, rfl, hp⟩ := he
        simp only [List.cons.injEq, and_true] at hp
        obtain ⟨rfl, rfl, rfl, rfl, rfl, rfl, rfl, rfl, rfl⟩ := hp
        exact one_yes a v k l s p0 p1 p2 p3 p4 p5 p6 p7 p8 a v k l s p0 p1 p2 p3 p4 p5 p6 p7 p8 w g1 g2 i0 i1 i2 i3 i4 i5 i6 i7 i8 i0 i1 i2 i3 i4 i5 i6 i7 i8 true (ino_same a v k l s p0 p1 p2 p3 p4 p5 p6 p7 p8 g1 i0 i1 i2 i3 i4 i5 i6 i7 i8) (by simp)
      · refine one_yes a v k l s p0 p1 p2 p3 p4 p5 p6 p7 p8 a' v' k' l' s' q0 q1 q2 q3 q4 q5 q6 q7 q8 w g1 g2 i0 i1 i2 i3 i4 i5 i6 i7 i8 j0 j1 j2 j3 j4 j5 j6 j7 j8 false (ino_other a v k l s a' v' k' l' s' p0 p1 p2 p3 p4 p5 p6 p7 p8 q0 q1 q2 q3 q4 q5 q6 q7 q8 g1 g2 i0 i1 i2 i3 i4 i5 i6 i7 i8 j0 j1 j2 j3 j4 j5 j6 j7 j8 he) (txt_beq_false (fun e => he ?_))
        exact ino_inj g1 g2 (by intro x hx; simp at hx; omega) (by intro x hx; simp at hx; omega) rfl rfl e
end Go.Proofs.Ytbceejcmjklklaa
