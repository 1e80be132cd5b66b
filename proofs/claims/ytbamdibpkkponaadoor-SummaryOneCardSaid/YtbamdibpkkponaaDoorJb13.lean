import Derived.Test.YtbamdibpkkponaaDoorJb08
import Derived.Test.YtbamdibpkkponaaDoorJb02
import Derived.Test.YtbamdibpkkponaaDoorJb01
import Derived.Deep.DeepCutAuto
import Derived.Deep.QuietTactic
import Derived.BigQuiet
import Derived.Deep.DrawnRows
import Derived.Test.YtbamdibpkkponaaDoorJb12
set_option linter.unusedVariables false
set_option linter.unusedSimpArgs false
/- The walks of marllaw06.awake, few. -/
namespace Go.Proofs.YtbamdibpkkponaaDoor
open Go.RowKit
attribute [local go_sem ↓] Go.wp_at_zero Go.wp_at_succ

theorem DecAns.of_enc {l : List UInt8} {v : PV} {s base : Nat} {r : Ending} {w' : World} (h : DecAns l base r w') (hE : IsEnc l v s) :
    ∃ B1 d1 B2 d2 cs, r = .returned (.tuple #[.agg (partC v.e v.c v.i v.p v.x B1 v.fs.length d1 B2 v.is.length d2), .int .u32 (s : Int), .int .i64 0]) ∧ ORow base w' B1 v.fs.length d1 cs v.fs ∧ w'.ownsRow base 3 1 (.slice B2 v.is.length d2) v.is.length (intC v.is) := by
  rcases h with ⟨v', s', hE', h⟩ | ⟨hn, -⟩
  · obtain ⟨rfl, rfl⟩ := enc_inj hE.1 hE'.1 hE.2.1 hE'.2.1 (hE.2.2.symm.trans hE'.2.2)
    exact h
  · exact absurd hE (hn v s)
theorem DecAns.of_no {l : List UInt8} {base : Nat} {r : Ending} {w' : World} (h : DecAns l base r w') (hE : ∀ v s, ¬ IsEnc l v s) : r = .returned (.tuple #[zeroPart, .int .u32 0, .int .i64 100]) := by
  rcases h with ⟨v', s', hE', -⟩ | ⟨-, h⟩
  · exact absurd hE' (hE v' s')
  · exact h
set_option maxHeartbeats 1000000 in
set_option maxRecDepth 100000 in
theorem awake_any (w : World) (sp : SpanAt w) : Calls Tryd.prog 9 #[] w fun e w' => e = .returned (.bool true) ∧ Below w.heap.size w w' := by
  have HCK := hide (show checkP 0 0 0 1 0 [] [] = 0 by decide)
  obtain ⟨w1, hw1⟩ : ∃ W, W = w.alloc (.cells #[.int .i64 0, .int .i64 0, .int .i64 0, .int .i64 1, .int .i64 0, .slice none 0 0, .slice none 0 0] 25) := ⟨_, rfl⟩
  have K1 : Hid (Blk w1 w.heap.size 25 #[.int .i64 0, .int .i64 0, .int .i64 0, .int .i64 1, .int .i64 0, .slice none 0 0, .slice none 0 0]) := hide (by rw [hw1]; exact Blk.new _ _ _)
  have B1 : Hid (Below w.heap.size w w1) := hide (by rw [hw1]; exact (Below.refl _ _).alloc (Nat.le_refl _) _)
  have SP := hide sp
  clear sp
  have CP := hide (fun (w' : World) (hb : Below w1.heap.size w1 w') => show w'.cell? ⟨w.heap.size, 0, none⟩ = some (.int .i64 0) ∧ w'.cell? ⟨w.heap.size, 1, none⟩ = some (.int .i64 0) ∧ w'.cell? ⟨w.heap.size, 2, none⟩ = some (.int .i64 0) ∧ w'.cell? ⟨w.heap.size, 3, none⟩ = some (.int .i64 1) ∧ w'.cell? ⟨w.heap.size, 4, none⟩ = some (.int .i64 0) ∧ w'.cell? ⟨w.heap.size, 5, none⟩ = some (.slice none 0 0) ∧ w'.cell? ⟨w.heap.size, 6, none⟩ = some (.slice none 0 0) from
    ⟨(K1.out.below hb).cell 0, (K1.out.below hb).cell 1, (K1.out.below hb).cell 2, (K1.out.below hb).cell 3, (K1.out.below hb).cell 4, (K1.out.below hb).cell 5, (K1.out.below hb).cell 6⟩)
  go_enter Tryd.func9, Tryd.ntmps9
  go_upto_region 2 with fail
  rw [← hw1]
  clear hw1
  obtain ⟨y0, y1, y2, y3, y4, y5, y6⟩ := CP.out _ (Below.refl _ _)
  go_wp2_with fail
  clear y0 y1 y2 y3 y4 y5 y6
  refine (enc_good 0 0 0 1 0 7 (by decide) none none 0 0 0 0 0 0 0 0 [] [] w1 (SP.out.bel B1.out) FisAt.nil RwAt.nil (by simp) HCK.out).mono ?_
  rintro r w2 ⟨A2, k2, rfl, ho, hb⟩
  obtain ⟨gA, hA, -, -, hk1, hk2⟩ := own_some ho (by decide)
  have O2 := hide ho
  have B2 := hide (B1.out.trans (hb.mono B1.out.size))
  have B12 := hide hb
  have D := hide (dec_any A2 128 k2 w2.heap.size _ w2 (RwAt.lo_ (RwAt.of_own ho) (Nat.zero_le _)) (Nat.le_refl _) hk1 hk2 (SP.out.bel B2.out))
  clear ho hb hA hk1 hk2
  go_wp2_with fail
  refine D.out.mono ?_
  rintro r w3 ⟨hd, hb⟩
  obtain ⟨C1, c1, C2, c2, cs, rfl, -, -⟩ := hd.of_enc (v := ⟨0, 0, 0, 1, 0, [], []⟩) (s := 7) ⟨HCK.out, by decide, rfl⟩
  have B3 := hide (B2.out.trans (hb.mono B2.out.size))
  have B13 := hide (B12.out.trans (hb.mono B12.out.size))
  clear hd hb D O2
  dsimp only
  unfold partC
  obtain ⟨y0, y1, y2, y3, y4, y5, y6⟩ := CP.out _ (B13.out.alloc B13.out.size (.cells #[.int .i64 0, .int .i64 0, .int .i64 0, .int .i64 1, .int .i64 0, .slice C1 0 c1, .slice C2 0 c2] 25))
  go_wp2_with fail
  clear y0 y1 y2 y3 y4 y5 y6
  have FN := hide (FisAt.nil (lo := 0) (base := 0) (w := (w3.alloc (.cells #[.int .i64 0, .int .i64 0, .int .i64 0, .int .i64 1, .int .i64 0, .slice C1 0 c1, .slice C2 0 c2] 25))) (A := none))
  have B4 := hide (B3.out.alloc B3.out.size (.cells #[.int .i64 0, .int .i64 0, .int .i64 0, .int .i64 1, .int .i64 0, .slice C1 0 c1, .slice C2 0 c2] 25))
  have B14 := hide (B13.out.alloc B13.out.size (.cells #[.int .i64 0, .int .i64 0, .int .i64 0, .int .i64 1, .int .i64 0, .slice C1 0 c1, .slice C2 0 c2] 25))
  have X4 := hide (Blk.new w3 25 #[.int .i64 0, .int .i64 0, .int .i64 0, .int .i64 1, .int .i64 0, .slice C1 0 c1, .slice C2 0 c2])
  obtain ⟨gq, hgq⟩ : ∃ g, g = w3.heap.size := ⟨_, rfl⟩
  rw [← hgq] at X4 ⊢
  clear hgq
  generalize w3.alloc (.cells #[.int .i64 0, .int .i64 0, .int .i64 0, .int .i64 1, .int .i64 0, .slice C1 0 c1, .slice C2 0 c2] 25) = w4 at *
  refine (size_any 0 0 0 1 0 none none 0 0 0 0 0 0 [] w4 FN.out (by omega) (by omega) (by decide)).mono ?_
  rintro r w5 ⟨rfl, hb⟩
  have B15 := hide (B14.out.trans (hb.mono B14.out.size))
  have B5 := hide (B4.out.trans (hb.mono B4.out.size))
  have FN5 := hide (FN.out.below hb)
  have X5 := hide (X4.out.below hb)
  clear hb
  rw [show ((10 + 0 + (4 * 0 + 2 * lsN []) : Nat) : Int) = 10 from rfl]
  obtain ⟨y0, y1, y2, y3, y4, y5, y6⟩ := CP.out _ B15.out
  go_wp2_with fail
  clear y0 y1 y2 y3 y4 y5 y6
  refine (sblocks_any 0 0 0 1 0 none none 0 0 0 0 0 0 [] w5 FN5.out (by omega) (by omega) (by decide)).mono ?_
  rintro r w6 ⟨rfl, hb⟩
  have B6 := hide (B5.out.trans (hb.mono B5.out.size))
  have X6 := hide (X5.out.below hb)
  clear hb
  rw [show ((2 + 0 + lsN [] : Nat) : Int) = 2 from rfl]
  have x3 := X6.out.cell 3
  simp only [List.getElem?_toArray, List.getElem?_cons_succ, List.getElem?_cons_zero] at x3
  go_wp2_with fail
  go_ret
  exact ⟨rfl, B6.out⟩
def FewAns (n1 n2 : Nat) (fs : List FI) (r : Ending) : Prop := ∃ b : Bool, r = .returned (.bool b) ∧ (b = true → n1 ≤ 40 ∧ n2 ≤ 150 ∧ n2 + lsN fs ≤ 150)
theorem few_any (e c i p x : Int) (A1 A2 : Option Addr) (n1 c1 n2 c2 lo base : Nat) (fs : List FI) (w : World) (h : FisAt lo base w A1 n1 fs) (hn1 : n1 ≤ 9223372036854775807) (hn2 : n2 ≤ 9223372036854775807) (hl : ∀ f ∈ fs, f.ls.length ≤ 9223372036854775807) :
    Calls Tryd.prog 10 #[.agg (partC e c i p x A1 n1 c1 A2 n2 c2)] w fun r w' => FewAns n1 n2 fs r ∧ Below w.heap.size w w' := by
  have H := hide h
  have HL := hide h.len
  have HLS := hide hl
  clear h hl
  have K1 := hide (Blk.new w 25 (partC e c i p x A1 n1 c1 A2 n2 c2))
  have B1 := hide ((Below.refl w.heap.size w).alloc (Nat.le_refl _) (.cells (partC e c i p x A1 n1 c1 A2 n2 c2) 25))
  unfold partC at *
  have z5 := K1.out.cell 5
  have z6 := K1.out.cell 6
  simp only [List.getElem?_toArray, List.getElem?_cons_succ, List.getElem?_cons_zero] at z5 z6
  go_enter Tryd.func10, Tryd.ntmps10
  go_upto_region 1 with fail
  generalize w.alloc (.cells #[.int .i64 e, .int .i64 c, .int .i64 i, .int .i64 p, .int .i64 x, .slice A1 n1 c1, .slice A2 n2 c2] 25) = w1 at *
  by_cases h0 : 40 < (n1 : Int)
  · go_wp2_with fail
    go_ret
    exact ⟨⟨_, rfl, fun h => by cases h⟩, B1.out⟩
  by_cases h1 : 150 < (n2 : Int)
  · go_wp2_with fail
    go_ret
    exact ⟨⟨_, rfl, fun h => by cases h⟩, B1.out⟩
  have hn40 : n1 ≤ 40 := by omega
  have hn150 : n2 ≤ 150 := by omega
  go_upto_region 3 with fail
  clear h0 h1
  go_wp2_with fail
  clear z5 z6
  go_loopw [3, 21] (fun y z wr => ∃ j : Nat, j ≤ n1 ∧ z = .int .i64 (j : Int) ∧ y = .int .i64 ((n2 + lsN (fs.take j) : Nat) : Int) ∧ n2 + lsN (fs.take j) ≤ 150 ∧ Below w1.heap.size w1 wr) (fun _ z _ => n1 - (intOf z).toNat)
  case atStart => exact ⟨0, Nat.zero_le _, rfl, by simp [lsN, sumN], by simp [lsN, sumN]; omega, Below.refl _ _⟩
  case round =>
    obtain ⟨j, hj, rfl, rfl, hle, hb⟩ := hrel
    have Hb := hide (B1.out.trans (hb.mono B1.out.size))
    have z5 := (K1.out.below hb).cell 5
    simp only [List.getElem?_toArray, List.getElem?_cons_succ, List.getElem?_cons_zero] at z5
    have HB := hide hb
    clear hb
    by_cases hlt : j < n1
    · obtain ⟨b, off, f, A3, c3, hA, hF, hf, hi, q0, q1, q2⟩ := (H.out.below Hb.out).at hlt
      subst hA
      have HF := hide hf
      have hm5 := HLS.out f (List.mem_of_getElem? hf)
      obtain ⟨m, hm⟩ : ∃ m, m = f.ls.length := ⟨_, rfl⟩
      rw [← hm] at q2 hm5
      have e1 := lsN_take hf
      rw [← hm] at e1
      obtain ⟨M, hM⟩ : ∃ M, M = n2 + lsN (fs.take j) := ⟨_, rfl⟩
      have HM := hide hM
      have E1 := hide (show n2 + lsN (fs.take (j + 1)) = M + m by omega)
      rw [← hM] at hle ⊢
      clear hf hi hF hm e1 hM
      have hjs : (j : Int) < (n1 : Int) := by omega
      have hj64 : IntKind.i64.wrap (j : Int) = (j : Int) := by rw [IntKind.wrap_i64]; omega
      have hs64 : IntKind.i64.wrap (150 - (M : Int)) = 150 - (M : Int) := by rw [IntKind.wrap_i64]; omega
      by_cases hg : 150 - (M : Int) < (m : Int)
      · go_wp2_with fail
        go_ret
        exact ⟨⟨_, rfl, fun h => by cases h⟩, Hb.out⟩
      · have ha64 : IntKind.i64.wrap ((M : Int) + (m : Int)) = (M : Int) + (m : Int) := by rw [IntKind.wrap_i64]; omega
        go_wp2_with fail
        go_roundw
        case rel => exact ⟨j + 1, by omega, by go_num, by rw [E1.out]; congr 1, by rw [E1.out]; omega, HB.out⟩
        case measure => simp [intOf]; omega
    · have hjn : j = n1 := by omega
      subst hjn
      have e := List.take_of_length_le (Nat.le_of_eq HL.out)
      rw [e] at hle
      have HLE := hide hle
      clear hle
      go_wp2_with fail
      go_ret
      exact ⟨⟨_, rfl, fun _ => ⟨hn40, hn150, HLE.out⟩⟩, Hb.out⟩
end Go.Proofs.YtbamdibpkkponaaDoor

/- A summary as an argument. -/
namespace Go.Proofs.YtbamdibpkkponaaDoor
open Go.RowKit

set_option maxRecDepth 100000 in
theorem fis_of_rdK {w : World} {v : Value} {k0 : Nat} (h : Rd Tryd.prog w (k0 + 4) 22 [v]) : ∃ A n c fs, v = .slice A n c ∧ n ≤ c ∧ c ≤ 9223372036854775807 ∧ FisAt 0 w.heap.size w A n fs ∧
    ∀ f ∈ fs, (-9223372036854775808 ≤ f.ino ∧ f.ino ≤ 9223372036854775807) ∧ (-9223372036854775808 ≤ f.ver ∧ f.ver ≤ 9223372036854775807) ∧ (∀ x ∈ f.ls, -9223372036854775808 ≤ x ∧ x ≤ 9223372036854775807) ∧ f.ls.length ≤ 9223372036854775807 := by
  obtain ⟨A, n, c, rows, rfl, hl, hm, hs, hr⟩ := slk_of_rd (n := k0 + 3) (k := 3) Tryd.underlying22 (by kernel_rfl) h
  have hrow := hs.row
  obtain ⟨fs, hfl, hfs⟩ := list_of (Q := fun j (f : FI) => (∃ x, rows[j]? = some x ∧ FiC 0 w.heap.size w x f) ∧ (-9223372036854775808 ≤ f.ino ∧ f.ino ≤ 9223372036854775807) ∧ (-9223372036854775808 ≤ f.ver ∧ f.ver ≤ 9223372036854775807) ∧ (∀ x ∈ f.ls, -9223372036854775808 ≤ x ∧ x ≤ 9223372036854775807) ∧ f.ls.length ≤ 9223372036854775807) n (fun j hj => by
    have hjr : j < rows.length := by rw [hs.len]; exact hj
    have hg : rows[j]? = some (rows[j]'hjr) := List.getElem?_eq_getElem hjr
    have hrd := hr _ (List.getElem_mem hjr)
    have h3 := hrow j hjr
    revert hg hrd h3
    generalize rows[j]'hjr = r
    intro hg hrd h3
    match r, h3 with
    | [c0, c1, c2], _ =>
      obtain ⟨a, rfl, ha⟩ := rd_fld_int (n := k0 + 1) Tryd.underlying46 hrd 0 (u := 3) (o := 0) rfl (by kernel_rfl) Tryd.underlying3 rfl
      obtain ⟨b, rfl, hb⟩ := rd_fld_int (n := k0 + 1) Tryd.underlying46 hrd 1 (u := 3) (o := 1) rfl (by kernel_rfl) Tryd.underlying3 rfl
      have hl := rd_field (n := k0 + 2) Tryd.underlying46 hrd 2 (u := 23) (o := 2) rfl (c := 1) (by kernel_rfl)
      obtain ⟨A1, n1, c1, l, rfl, hnc, hcm, hat, hbd⟩ := ints_of_rdA (m := k0) (v := c2) (by simpa using hl)
      have := hat.len
      subst this
      exact ⟨⟨a, b, l⟩, ⟨_, hg, A1, c1, rfl, hat⟩, wf_bd_i64 ha, wf_bd_i64 hb, hbd, Nat.le_trans hnc hcm⟩)
  refine ⟨A, n, c, fs, rfl, hl, hm, ⟨rows, hfl, hs.len, rw_of_slk hs (by decide), fun j x f hx hf => ?_⟩, fun f hf => ?_⟩
  · obtain ⟨hj, e⟩ := List.getElem?_eq_some_iff.1 hf
    obtain ⟨⟨x', hx', hc⟩, -⟩ := hfs j hj
    rw [hx] at hx'
    injection hx' with hx'
    subst hx' e
    exact hc
  · obtain ⟨j, hj, e⟩ := List.getElem_of_mem hf
    subst e
    exact (hfs j hj).2
/-- What is known of a summary that came in. -/
structure PaA (w : World) (v : Value) (u : Int × Int × Int × Int × Int) (A1 : Option Addr) (n1 c1 : Nat) (A2 : Option Addr) (n2 c2 : Nat) (fs : List FI) (is : List Int) : Prop where
  e : v = .agg (partC u.1 u.2.1 u.2.2.1 u.2.2.2.1 u.2.2.2.2 A1 n1 c1 A2 n2 c2)
  f : FisAt 0 w.heap.size w A1 n1 fs
  i : IntsAt 0 w.heap.size w A2 n2 is
  h1 : n1 ≤ 9223372036854775807
  h2 : n2 ≤ 9223372036854775807
  hl : ∀ f ∈ fs, (∀ x ∈ f.ls, -9223372036854775808 ≤ x ∧ x ≤ 9223372036854775807) ∧ f.ls.length ≤ 9223372036854775807
set_option maxRecDepth 100000 in
theorem part_arg {w : World} {v : Value} (ha : Arg Tryd.prog w 25 v) : ∃ u A1 n1 c1 A2 n2 c2 fs is, PaA w v u A1 n1 c1 A2 n2 c2 fs is := by
  have hc : Tryd.prog.cellsOf 3 = 1 := by kernel_rfl
  have hc7 : Tryd.prog.cellsOf 25 = 7 := by kernel_rfl
  have hcs1 : Tryd.prog.cellsOf 22 = 1 := by kernel_rfl
  have hcs2 : Tryd.prog.cellsOf 23 = 1 := by kernel_rfl
  obtain ⟨⟨l⟩, rfl, h⟩ := arg_agg ha (.inl ⟨_, Tryd.underlying25⟩)
  have hl := rd_len Tryd.underlying25 h
  rw [hc7] at hl
  match l, hl with
  | [c0, c1, c2, c3, c4, c5, c6], _ =>
    obtain ⟨a, rfl, _⟩ := rd_fld_int Tryd.underlying25 h 0 (u := 3) (o := 0) rfl hc Tryd.underlying3 rfl
    obtain ⟨b, rfl, _⟩ := rd_fld_int Tryd.underlying25 h 1 (u := 3) (o := 1) rfl hc Tryd.underlying3 rfl
    obtain ⟨s, rfl, _⟩ := rd_fld_int Tryd.underlying25 h 2 (u := 3) (o := 2) rfl hc Tryd.underlying3 rfl
    obtain ⟨i, rfl, _⟩ := rd_fld_int Tryd.underlying25 h 3 (u := 3) (o := 3) rfl hc Tryd.underlying3 rfl
    obtain ⟨x, rfl, _⟩ := rd_fld_int Tryd.underlying25 h 4 (u := 3) (o := 4) rfl hc Tryd.underlying3 rfl
    have h5 := rd_field (n := 9) Tryd.underlying25 h 5 (u := 22) (o := 5) rfl hcs1
    have h6 := rd_field (n := 9) Tryd.underlying25 h 6 (u := 23) (o := 6) rfl hcs2
    obtain ⟨A1, n1, k1, fs, rfl, q1, q2, hf, hb⟩ := fis_of_rdK (k0 := 5) (v := c5) (by simpa using h5)
    obtain ⟨A2, n2, k2, is, rfl, q3, q4, hi, hbi⟩ := ints_of_rdA (m := 7) (v := c6) (by simpa using h6)
    exact ⟨(a, b, s, i, x), A1, n1, k1, A2, n2, k2, fs, is, ⟨rfl, hf, hi, by omega, by omega, fun f hm => ⟨(hb f hm).2.2.1, (hb f hm).2.2.2⟩⟩⟩
end Go.Proofs.YtbamdibpkkponaaDoor

/- The walk over the reference's Ints. -/
namespace Go.Proofs.YtbamdibpkkponaaDoor
open Go.RowKit
attribute [local go_sem ↓] Go.wp_at_zero Go.wp_at_succ

theorem sl_intI {w : World} {B n : Nat} {A : Option Addr} {l : List Int} (h : Sl w B A n (intC l)) {j : Nat} (hj : j < n) : ∃ (ad : Addr) (x : Int), A = some ad ∧ l[j]? = some x ∧ w.cell? (ad.add j) = some (.int .i64 x) := by
  obtain ⟨ad, u, hA, -, hu, hc⟩ := h.get hj
  have hl := h.len
  rw [intC_len] at hl
  have hx : l[j]? = some (l[j]'(by omega)) := List.getElem?_eq_getElem _
  refine ⟨ad, _, hA, hx, ?_⟩
  simp only [intC, List.getElem?_map, hx, Option.map_some, Option.some.injEq] at hu
  rw [hc, ← hu]
set_option maxHeartbeats 400000 in
theorem ints_eqI (A A' : Option Addr) (n c c' B B' : Nat) (l : List Int) (w : World) (h : Sl w B A n (intC l)) (h' : Sl w B' A' n (intC l)) (hB : B ≤ w.heap.size) (hB' : B' ≤ w.heap.size) (hn : n ≤ 1000000) :
    Calls Tryd.prog 29 #[.slice A n c, .slice A' n c'] w fun e w' => e = .returned (.bool true) ∧ Below w.heap.size w w' := by
  have H := hide h
  have H' := hide h'
  clear h h'
  go_enter Tryd.func29, Tryd.ntmps29
  go_wp2_with fail
  go_loopw [13] (fun x wr => ∃ j : Nat, j ≤ n ∧ x = .int .i64 (j : Int) ∧ Below w.heap.size w wr) (fun x _ => n - (intOf x).toNat)
  case atStart => exact ⟨0, Nat.zero_le _, rfl, Below.refl _ _⟩
  case round =>
    obtain ⟨j, hj, rfl, hb⟩ := hrel
    have Hb := hide hb
    clear hb
    by_cases hlt : j < n
    · obtain ⟨ad, x, hA, hx, hc⟩ := sl_intI (H.out.below (Hb.out.mono hB)) hlt
      obtain ⟨ad', x', hA', hx', hc'⟩ := sl_intI (H'.out.below (Hb.out.mono hB')) hlt
      rw [hx] at hx'
      injection hx' with hx'
      subst hx' hA hA'
      clear hx
      go_wp2_with fail
      refine wp_region_noPanic ?_
      refine wp_region_held_drew (S := (fun w' => w'.cell? (ad.add j) = some (.int .i64 x) ∧ w'.cell? (ad'.add j) = some (.int .i64 x))) (by kernel_rfl) ?_ (fun hHeld => ?_)
      · ((try dsimp only) <;> (first | trivial | assumption | go_keep))
      refine wpAnyH_take (i := 0) (v := ?_) (by simp only [List.getElem?_toArray, List.getElem?_cons_zero]; rfl) (by kernel_rfl) (by kernel_rfl) (by kernel_rfl) (fun _ _ _ h => h) (Or.inl ⟨by rfl, ?_⟩) (by assumption) ?_
      rotate_left 1
      · (intro w hSw; (try dsimp only at hSw); go_simp; try with_reducible rfl)
      try simp only [Act.put, List.setIfInBounds_toArray, List.set_cons_zero, List.set_cons_succ]
      refine wpAnyH_take (i := 1) (v := ?_) (by simp only [List.getElem?_toArray, List.getElem?_cons_succ, List.getElem?_cons_zero]; rfl) (by kernel_rfl) (by kernel_rfl) (by kernel_rfl) (fun _ _ _ h => h) (Or.inl ⟨by rfl, ?_⟩) (by assumption) ?_
      rotate_left 1
      · (intro w hSw; (try dsimp only at hSw); go_simp; try with_reducible rfl)
      try simp only [Act.put, List.setIfInBounds_toArray, List.set_cons_zero, List.set_cons_succ]
      refine wpAnyH_take (i := 2) (v := ?_) (by simp only [List.getElem?_toArray, List.getElem?_cons_succ, List.getElem?_cons_zero]; rfl) (by kernel_rfl) (by kernel_rfl) (by kernel_rfl) (fun _ _ _ h => h) (Or.inl ⟨by rfl, ?_⟩) (by assumption) ?_
      rotate_left 1
      · (intro w hSw; (try dsimp only at hSw); go_simp; try with_reducible rfl)
      try simp only [Act.put, List.setIfInBounds_toArray, List.set_cons_zero, List.set_cons_succ]
      refine wpAnyH_take (i := 3) (v := ?_) (by simp only [List.getElem?_toArray, List.getElem?_cons_succ, List.getElem?_cons_zero]; rfl) (by kernel_rfl) (by kernel_rfl) (by kernel_rfl) (fun _ _ _ h => h) (Or.inl ⟨by rfl, ?_⟩) (by assumption) ?_
      rotate_left 1
      · (intro w hSw; (try dsimp only at hSw); go_simp; try with_reducible rfl)
      try simp only [Act.put, List.setIfInBounds_toArray, List.set_cons_zero, List.set_cons_succ]
      refine wpAnyH_take (i := 4) (v := ?_) (by simp only [List.getElem?_toArray, List.getElem?_cons_succ, List.getElem?_cons_zero]; rfl) (by kernel_rfl) (by kernel_rfl) (by kernel_rfl) (fun _ _ _ h => h) (Or.inl ⟨by rfl, ?_⟩) (by assumption) ?_
      rotate_left 1
      · (intro w hSw; (try dsimp only at hSw); go_simp; try with_reducible rfl)
      try simp only [Act.put, List.setIfInBounds_toArray, List.set_cons_zero, List.set_cons_succ]
      refine wpAnyH_take (i := 5) (v := ?_) (by simp only [List.getElem?_toArray, List.getElem?_cons_succ, List.getElem?_cons_zero]; rfl) (by kernel_rfl) (by kernel_rfl) (by kernel_rfl) (fun _ _ _ h => h) (Or.inl ⟨by rfl, ?_⟩) (by assumption) ?_
      rotate_left 1
      · (intro w hSw; (try dsimp only at hSw); go_simp; try with_reducible rfl)
      try simp only [Act.put, List.setIfInBounds_toArray, List.set_cons_zero, List.set_cons_succ]
      refine wpAnyH_take (i := 6) (v := ?_) (by simp only [List.getElem?_toArray, List.getElem?_cons_succ, List.getElem?_cons_zero]; rfl) (by kernel_rfl) (by kernel_rfl) (by kernel_rfl) (fun _ _ _ h => h) (Or.inl ⟨by rfl, ?_⟩) (by assumption) ?_
      rotate_left 1
      · (intro w hSw; (try dsimp only at hSw); go_simp; try with_reducible rfl)
      try simp only [Act.put, List.setIfInBounds_toArray, List.set_cons_zero, List.set_cons_succ]
      refine wpAnyH_take (i := 7) (v := ?_) (by simp only [List.getElem?_toArray, List.getElem?_cons_succ, List.getElem?_cons_zero]; rfl) (by kernel_rfl) (by kernel_rfl) (by kernel_rfl) (fun _ _ _ h => h) (Or.inl ⟨by rfl, ?_⟩) (by assumption) ?_
      rotate_left 1
      · (intro w hSw; (try dsimp only at hSw); go_simp; try with_reducible rfl)
      try simp only [Act.put, List.setIfInBounds_toArray, List.set_cons_zero, List.set_cons_succ]
      refine wpAnyH_take (i := 8) (v := ?_) (by simp only [List.getElem?_toArray, List.getElem?_cons_succ, List.getElem?_cons_zero]; rfl) (by kernel_rfl) (by kernel_rfl) (by kernel_rfl) (fun _ _ _ h => h) (Or.inl ⟨by rfl, ?_⟩) (by assumption) ?_
      rotate_left 1
      · (intro w hSw; (try dsimp only at hSw); go_simp; try with_reducible rfl)
      try simp only [Act.put, List.setIfInBounds_toArray, List.set_cons_zero, List.set_cons_succ]
      refine wpAnyH_done (by kernel_rfl) ?_ _
      refine NoPanic.normal ?_
      go_wp2_with fail
      go_roundw
      case rel => exact ⟨j + 1, by omega, by go_num, Hb.out.drew⟩
      case measure => simp [intOf]; omega
    · go_wp2_with fail
      go_ret
      exact ⟨rfl, Hb.out⟩
theorem ints_neL (A A' : Option Addr) (n n' c c' : Nat) (w : World) (_hn : n ≤ 1000000) (_hn' : n' ≤ 1000000) (hne : n ≠ n') :
    Calls Tryd.prog 29 #[.slice A n c, .slice A' n' c'] w fun e w' => e = .returned (.bool false) ∧ Below w.heap.size w w' := by
  go_enter Tryd.func29, Tryd.ntmps29
  go_wp2_with fail
  go_ret
  exact ⟨rfl, Below.refl _ _⟩
set_option maxHeartbeats 400000 in
theorem ints_neI (A A' : Option Addr) (n c c' B B' : Nat) (l l' : List Int) (w : World) (h : Sl w B A n (intC l)) (h' : Sl w B' A' n (intC l')) (hB : B ≤ w.heap.size) (hB' : B' ≤ w.heap.size) (hn : n ≤ 1000000) (hne : l ≠ l') :
    Calls Tryd.prog 29 #[.slice A n c, .slice A' n c'] w fun e w' => e = .returned (.bool false) ∧ Below w.heap.size w w' := by
  have H := hide h
  have H' := hide h'
  have HN := hide hne
  have hl := hide h.len
  have hl' := hide h'.len
  clear h h' hne
  go_enter Tryd.func29, Tryd.ntmps29
  go_wp2_with fail
  go_loopw [13] (fun x wr => ∃ j : Nat, j ≤ n ∧ x = .int .i64 (j : Int) ∧ l.take j = l'.take j ∧ Below w.heap.size w wr) (fun x _ => n - (intOf x).toNat)
  case atStart => exact ⟨0, Nat.zero_le _, rfl, rfl, Below.refl _ _⟩
  case round =>
    obtain ⟨j, hj, rfl, ht, hb⟩ := hrel
    have Hb := hide hb
    have HT := hide ht
    clear hb ht
    by_cases hlt : j < n
    · obtain ⟨ad, x, hA, hx, hc⟩ := sl_intI (H.out.below (Hb.out.mono hB)) hlt
      obtain ⟨ad', x', hA', hx', hc'⟩ := sl_intI (H'.out.below (Hb.out.mono hB')) hlt
      subst hA hA'
      by_cases hxx : x = x'
      · subst hxx
        have hT2 : Hid (l.take (j + 1) = l'.take (j + 1)) := hide (by rw [List.take_add_one, List.take_add_one, HT.out, hx, hx'])
        clear hx hx'
        go_wp2_with fail
        refine wp_region_noPanic ?_
        refine wp_region_held_drew (S := (fun w' => w'.cell? (ad.add j) = some (.int .i64 x) ∧ w'.cell? (ad'.add j) = some (.int .i64 x))) (by kernel_rfl) ?_ (fun hHeld => ?_)
        · ((try dsimp only) <;> (first | trivial | assumption | go_keep))
        refine wpAnyH_take (i := 0) (v := ?_) (by simp only [List.getElem?_toArray, List.getElem?_cons_zero]; rfl) (by kernel_rfl) (by kernel_rfl) (by kernel_rfl) (fun _ _ _ h => h) (Or.inl ⟨by rfl, ?_⟩) (by assumption) ?_
        rotate_left 1
        · (intro w hSw; (try dsimp only at hSw); go_simp; try with_reducible rfl)
        try simp only [Act.put, List.setIfInBounds_toArray, List.set_cons_zero, List.set_cons_succ]
        refine wpAnyH_take (i := 1) (v := ?_) (by simp only [List.getElem?_toArray, List.getElem?_cons_succ, List.getElem?_cons_zero]; rfl) (by kernel_rfl) (by kernel_rfl) (by kernel_rfl) (fun _ _ _ h => h) (Or.inl ⟨by rfl, ?_⟩) (by assumption) ?_
        rotate_left 1
        · (intro w hSw; (try dsimp only at hSw); go_simp; try with_reducible rfl)
        try simp only [Act.put, List.setIfInBounds_toArray, List.set_cons_zero, List.set_cons_succ]
        refine wpAnyH_take (i := 2) (v := ?_) (by simp only [List.getElem?_toArray, List.getElem?_cons_succ, List.getElem?_cons_zero]; rfl) (by kernel_rfl) (by kernel_rfl) (by kernel_rfl) (fun _ _ _ h => h) (Or.inl ⟨by rfl, ?_⟩) (by assumption) ?_
        rotate_left 1
        · (intro w hSw; (try dsimp only at hSw); go_simp; try with_reducible rfl)
        try simp only [Act.put, List.setIfInBounds_toArray, List.set_cons_zero, List.set_cons_succ]
        refine wpAnyH_take (i := 3) (v := ?_) (by simp only [List.getElem?_toArray, List.getElem?_cons_succ, List.getElem?_cons_zero]; rfl) (by kernel_rfl) (by kernel_rfl) (by kernel_rfl) (fun _ _ _ h => h) (Or.inl ⟨by rfl, ?_⟩) (by assumption) ?_
        rotate_left 1
        · (intro w hSw; (try dsimp only at hSw); go_simp; try with_reducible rfl)
        try simp only [Act.put, List.setIfInBounds_toArray, List.set_cons_zero, List.set_cons_succ]
        refine wpAnyH_take (i := 4) (v := ?_) (by simp only [List.getElem?_toArray, List.getElem?_cons_succ, List.getElem?_cons_zero]; rfl) (by kernel_rfl) (by kernel_rfl) (by kernel_rfl) (fun _ _ _ h => h) (Or.inl ⟨by rfl, ?_⟩) (by assumption) ?_
        rotate_left 1
        · (intro w hSw; (try dsimp only at hSw); go_simp; try with_reducible rfl)
        try simp only [Act.put, List.setIfInBounds_toArray, List.set_cons_zero, List.set_cons_succ]
        refine wpAnyH_take (i := 5) (v := ?_) (by simp only [List.getElem?_toArray, List.getElem?_cons_succ, List.getElem?_cons_zero]; rfl) (by kernel_rfl) (by kernel_rfl) (by kernel_rfl) (fun _ _ _ h => h) (Or.inl ⟨by rfl, ?_⟩) (by assumption) ?_
        rotate_left 1
        · (intro w hSw; (try dsimp only at hSw); go_simp; try with_reducible rfl)
        try simp only [Act.put, List.setIfInBounds_toArray, List.set_cons_zero, List.set_cons_succ]
        refine wpAnyH_take (i := 6) (v := ?_) (by simp only [List.getElem?_toArray, List.getElem?_cons_succ, List.getElem?_cons_zero]; rfl) (by kernel_rfl) (by kernel_rfl) (by kernel_rfl) (fun _ _ _ h => h) (Or.inl ⟨by rfl, ?_⟩) (by assumption) ?_
        rotate_left 1
        · (intro w hSw; (try dsimp only at hSw); go_simp; try with_reducible rfl)
        try simp only [Act.put, List.setIfInBounds_toArray, List.set_cons_zero, List.set_cons_succ]
        refine wpAnyH_take (i := 7) (v := ?_) (by simp only [List.getElem?_toArray, List.getElem?_cons_succ, List.getElem?_cons_zero]; rfl) (by kernel_rfl) (by kernel_rfl) (by kernel_rfl) (fun _ _ _ h => h) (Or.inl ⟨by rfl, ?_⟩) (by assumption) ?_
        rotate_left 1
        · (intro w hSw; (try dsimp only at hSw); go_simp; try with_reducible rfl)
        try simp only [Act.put, List.setIfInBounds_toArray, List.set_cons_zero, List.set_cons_succ]
        refine wpAnyH_take (i := 8) (v := ?_) (by simp only [List.getElem?_toArray, List.getElem?_cons_succ, List.getElem?_cons_zero]; rfl) (by kernel_rfl) (by kernel_rfl) (by kernel_rfl) (fun _ _ _ h => h) (Or.inl ⟨by rfl, ?_⟩) (by assumption) ?_
        rotate_left 1
        · (intro w hSw; (try dsimp only at hSw); go_simp; try with_reducible rfl)
        try simp only [Act.put, List.setIfInBounds_toArray, List.set_cons_zero, List.set_cons_succ]
        refine wpAnyH_done (by kernel_rfl) ?_ _
        refine NoPanic.normal ?_
        go_wp2_with fail
        go_roundw
        case rel => exact ⟨j + 1, by omega, by go_num, hT2.out, Hb.out.drew⟩
        case measure => simp [intOf]; omega
      · have hb1 : (x == x') = false := by rw [beq_eq_false_iff_ne]; exact hxx
        have hb2 : (x != x') = true := by rw [bne_iff_ne]; exact hxx
        clear hx hx' hxx
        go_wp2_with fail
        refine wp_region_noPanic ?_
        refine wp_region_held_drew (S := (fun w' => w'.cell? (ad.add j) = some (.int .i64 x) ∧ w'.cell? (ad'.add j) = some (.int .i64 x'))) (by kernel_rfl) ?_ (fun hHeld => ?_)
        · ((try dsimp only) <;> (first | trivial | assumption | go_keep))
        refine wpAnyH_take (i := 0) (v := ?_) (by simp only [List.getElem?_toArray, List.getElem?_cons_zero]; rfl) (by kernel_rfl) (by kernel_rfl) (by kernel_rfl) (fun _ _ _ h => h) (Or.inl ⟨by rfl, ?_⟩) (by assumption) ?_
        rotate_left 1
        · (intro w hSw; (try dsimp only at hSw); go_simp; try with_reducible rfl)
        try simp only [Act.put, List.setIfInBounds_toArray, List.set_cons_zero, List.set_cons_succ]
        refine wpAnyH_take (i := 1) (v := ?_) (by simp only [List.getElem?_toArray, List.getElem?_cons_succ, List.getElem?_cons_zero]; rfl) (by kernel_rfl) (by kernel_rfl) (by kernel_rfl) (fun _ _ _ h => h) (Or.inl ⟨by rfl, ?_⟩) (by assumption) ?_
        rotate_left 1
        · (intro w hSw; (try dsimp only at hSw); go_simp; try with_reducible rfl)
        try simp only [Act.put, List.setIfInBounds_toArray, List.set_cons_zero, List.set_cons_succ]
        refine wpAnyH_take (i := 2) (v := ?_) (by simp only [List.getElem?_toArray, List.getElem?_cons_succ, List.getElem?_cons_zero]; rfl) (by kernel_rfl) (by kernel_rfl) (by kernel_rfl) (fun _ _ _ h => h) (Or.inl ⟨by rfl, ?_⟩) (by assumption) ?_
        rotate_left 1
        · (intro w hSw; (try dsimp only at hSw); go_simp; try with_reducible rfl)
        try simp only [Act.put, List.setIfInBounds_toArray, List.set_cons_zero, List.set_cons_succ]
        refine wpAnyH_take (i := 3) (v := ?_) (by simp only [List.getElem?_toArray, List.getElem?_cons_succ, List.getElem?_cons_zero]; rfl) (by kernel_rfl) (by kernel_rfl) (by kernel_rfl) (fun _ _ _ h => h) (Or.inl ⟨by rfl, ?_⟩) (by assumption) ?_
        rotate_left 1
        · (intro w hSw; (try dsimp only at hSw); go_simp; try with_reducible rfl)
        try simp only [Act.put, List.setIfInBounds_toArray, List.set_cons_zero, List.set_cons_succ]
        refine wpAnyH_take (i := 4) (v := ?_) (by simp only [List.getElem?_toArray, List.getElem?_cons_succ, List.getElem?_cons_zero]; rfl) (by kernel_rfl) (by kernel_rfl) (by kernel_rfl) (fun _ _ _ h => h) (Or.inl ⟨by rfl, ?_⟩) (by assumption) ?_
        rotate_left 1
        · (intro w hSw; (try dsimp only at hSw); go_simp; try with_reducible rfl)
        try simp only [Act.put, List.setIfInBounds_toArray, List.set_cons_zero, List.set_cons_succ]
        refine wpAnyH_take (i := 5) (v := ?_) (by simp only [List.getElem?_toArray, List.getElem?_cons_succ, List.getElem?_cons_zero]; rfl) (by kernel_rfl) (by kernel_rfl) (by kernel_rfl) (fun _ _ _ h => h) (Or.inl ⟨by rfl, ?_⟩) (by assumption) ?_
        rotate_left 1
        · (intro w hSw; (try dsimp only at hSw); go_simp; try with_reducible rfl)
        try simp only [Act.put, List.setIfInBounds_toArray, List.set_cons_zero, List.set_cons_succ]
        refine wpAnyH_take (i := 6) (v := ?_) (by simp only [List.getElem?_toArray, List.getElem?_cons_succ, List.getElem?_cons_zero]; rfl) (by kernel_rfl) (by kernel_rfl) (by kernel_rfl) (fun _ _ _ h => h) (Or.inl ⟨by rfl, ?_⟩) (by assumption) ?_
        rotate_left 1
        · (intro w hSw; (try dsimp only at hSw); go_simp; try with_reducible rfl)
        try simp only [Act.put, List.setIfInBounds_toArray, List.set_cons_zero, List.set_cons_succ]
        refine wpAnyH_take (i := 7) (v := ?_) (by simp only [List.getElem?_toArray, List.getElem?_cons_succ, List.getElem?_cons_zero]; rfl) (by kernel_rfl) (by kernel_rfl) (by kernel_rfl) (fun _ _ _ h => h) (Or.inl ⟨by rfl, ?_⟩) (by assumption) ?_
        rotate_left 1
        · (intro w hSw; (try dsimp only at hSw); go_simp; try with_reducible rfl)
        try simp only [Act.put, List.setIfInBounds_toArray, List.set_cons_zero, List.set_cons_succ]
        refine wpAnyH_take (i := 8) (v := ?_) (by simp only [List.getElem?_toArray, List.getElem?_cons_succ, List.getElem?_cons_zero]; rfl) (by kernel_rfl) (by kernel_rfl) (by kernel_rfl) (fun _ _ _ h => h) (Or.inl ⟨by rfl, ?_⟩) (by assumption) ?_
        rotate_left 1
        · (intro w hSw; (try dsimp only at hSw); go_simp; try with_reducible rfl)
        try simp only [Act.put, List.setIfInBounds_toArray, List.set_cons_zero, List.set_cons_succ]
        refine wpAnyH_done (by kernel_rfl) ?_ _
        refine NoPanic.normal ?_
        go_wp2_with fail
        go_ret
        exact ⟨rfl, Hb.out.drew⟩
    · exfalso
      refine HN.out ?_
      have h1 := hl.out
      have h2 := hl'.out
      rw [intC_len] at h1 h2
      have := HT.out
      rwa [List.take_of_length_le (by omega), List.take_of_length_le (by omega)] at this
/-- Both ways. -/
theorem ints_any (A A' : Option Addr) (n n' c c' B B' : Nat) (l l' : List Int) (w : World) (h : Sl w B A n (intC l)) (h' : Sl w B' A' n' (intC l')) (hB : B ≤ w.heap.size) (hB' : B' ≤ w.heap.size) (hn : n ≤ 1000000) (hn' : n' ≤ 1000000) :
    Calls Tryd.prog 29 #[.slice A n c, .slice A' n' c'] w fun e w' => e = .returned (.bool (decide (l = l'))) ∧ Below w.heap.size w w' := by
  by_cases hnn : n = n'
  · subst hnn
    by_cases hl : l = l'
    · subst hl
      rw [decide_eq_true rfl]
      exact ints_eqI A A' n c c' B B' l w h h' hB hB' hn
    · rw [decide_eq_false hl]
      exact ints_neI A A' n c c' B B' l l' w h h' hB hB' hn hl
  · rw [decide_eq_false (fun e => by
      have h1 := h.len
      have h2 := h'.len
      rw [intC_len] at h1 h2
      subst e
      omega)]
    exact ints_neL A A' n n' c c' w hn hn' hnn
end Go.Proofs.YtbamdibpkkponaaDoor
