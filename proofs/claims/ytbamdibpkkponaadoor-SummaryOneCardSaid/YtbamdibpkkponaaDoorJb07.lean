import Derived.Test.YtbamdibpkkponaaDoorJb06
set_option linter.unusedVariables false
set_option linter.unusedSimpArgs false
/- The walk of summary.Encode (printed by gen_smenc.py). -/
namespace Go.Proofs.YtbamdibpkkponaaDoor
open Go.RowKit Go.Shelf
attribute [local go_sem ↓] Go.wp_at_zero Go.wp_at_succ
attribute [local go_sem] Oper.semAt_some

theorem checkP_ok {e c i p x : Int} {fs : List FI} {is : List Int} (h : checkP e c i p x fs is = 0) : gdP e c i p x fs is ∧ szN fs is ≤ 88 := by
  unfold checkP at h
  by_cases h1 : gdP e c i p x fs is
  · rw [if_pos h1] at h
    by_cases h2 : 88 < szN fs is
    · rw [if_pos h2] at h; cases h
    · exact ⟨h1, by omega⟩
  · rw [if_neg h1] at h; cases h
/-- Bytes that a row of the call's own, or one that was built, holds. -/
theorem by_row {w : World} {base : Nat} {v : Value} {l : List UInt8} (h : RowF 5 base (u8s l) v w) : ∃ A n c, v = .slice A n c ∧ l.length = n ∧ By w w.heap.size A n l := by
  obtain ⟨A, n, c, rfl, h⟩ := h
  exact ⟨A, n, c, rfl, by have := h.1; rw [u8s_length] at this; omega, Sl.of_own h⟩
theorem by_buf {w : World} {base : Nat} {v : Value} {l : List UInt8} (h : BufF 5 base (u8s l) v w) : ∃ A c, v = .slice A l.length c ∧ By w w.heap.size A l.length l := by
  obtain ⟨A, c, hv, h2⟩ := bufF_sl h
  rw [u8s_length] at hv h2
  exact ⟨A, c, hv, h2⟩
theorem by_up {w : World} {A : Option Addr} {n : Nat} {l : List UInt8} (h : By w w.heap.size A n l) (o : Obj) : By (w.alloc o) (w.heap.size + 1) A n l := Sl.more (Sl.alloc h (Nat.le_refl _) o) (Nat.le_succ _)
/-- Concat of rows that lie in a row just built. -/
theorem concat_as (rs : List Row) (N k : Nat) (L : List UInt8) (w : World) (t : TypeId) (hr : ∀ r ∈ rs, By w w.heap.size r.a r.n r.l) (hk : rs.length = k) (hkm : k ≤ 100) (hN : rowsN rs = N) (hNm : N ≤ 100000) (hL : rowsL rs = L) (cs : Array Value) (hcs : cs = (rs.map Row.v).toArray) :
    Calls Tryd.prog 23 #[.slice (some ⟨w.heap.size, 0, none⟩) k k] (w.alloc (.cells cs t)) fun e w' => ∃ A' c', e = .returned (.slice A' N c') ∧ OwnBy w' w.heap.size A' N c' L ∧ Below w.heap.size w w' := by
  subst hk hN hL hcs
  have h1 := sl_newS w (rs.map Row.v) t
  rw [List.length_map] at h1
  refine (concat_any rs _ rs.length rs.length (w.heap.size + 1) _ h1 (fun r hrm => by_up (hr r hrm) _) (by simp) (by omega) (by omega)).mono ?_
  rintro e w' ⟨A', c', rfl, ho, hb⟩
  exact ⟨A', c', rfl, own_bq ho (by simp), ((Below.refl _ _).alloc (Nat.le_refl _) _).trans (hb.mono (by simp))⟩
theorem ofInt_32 (a : Nat) (ha : a < 4294967296) : (BitVec.ofInt 32 (a : Int)).toNat = a := by
  rw [BitVec.ofInt_natCast, BitVec.toNat_ofNat]; exact Nat.mod_eq_of_lt (by omega)
theorem low16 (a : Nat) (ha : a < 4294967296) : IntKind.i64.wrap (bits .and .u32 (a : Int) 65535) = ((a % 65536 : Nat) : Int) := by
  have hx : a &&& 65535 = a % 65536 := Nat.and_two_pow_sub_one_eq_mod a 16
  have h : bits .and .u32 (a : Int) ((65535 : Nat) : Int) = ((a % 65536 : Nat) : Int) := by
    show IntKind.u32.wrap ((BitVec.ofInt 32 (a : Int) &&& BitVec.ofInt 32 ((65535 : Nat) : Int)).toNat : Int) = _
    rw [BitVec.toNat_and, ofInt_32 a ha, ofInt_32 65535 (by decide), hx]
    simp [IntKind.wrap, IntKind.bits, IntKind.signed]
    omega
  have h' : bits .and .u32 (a : Int) 65535 = ((a % 65536 : Nat) : Int) := h
  rw [h', IntKind.wrap_i64]
  omega
theorem high16 (a : Nat) (ha : a < 4294967296) : IntKind.i64.wrap ((a : Int) / 65536) = ((a / 65536 : Nat) : Int) := by
  rw [IntKind.wrap_i64]; omega
theorem own_bb {w w' : World} {base n c : Nat} {A : Option Addr} {l : List UInt8} (h : OwnBy w base A n c l) (hb : Below w.heap.size w w') : OwnBy w' base A n c l := own_bel h hb

theorem enc_bad (e c i p x : Int) (sum : Nat) (A1 A2 : Option Addr) (n1 c1 n2 c2 lo base lo2 base2 : Nat) (fs : List FI) (is : List Int) (w : World) (sp : SpanAt w) (hf : FisAt lo base w A1 n1 fs) (hi : IntsAt lo2 base2 w A2 n2 is) (hn1 : n1 ≤ 1000) (hn2 : n2 ≤ 100000) (hls : lsN fs ≤ 100000)
    (h64 : ∀ f ∈ fs, ∀ x ∈ f.ls, I64 x) (hck : checkP e c i p x fs is ≠ 0) :
    Calls Tryd.prog 12 #[.agg (partC e c i p x A1 n1 c1 A2 n2 c2), .int .u32 (sum : Int)] w fun r w' => r = .returned (.tuple #[.slice none 0 0, .int .i64 (checkP e c i p x fs is)]) ∧ Below w.heap.size w w' := by
  have hb1 : Below w.heap.size w (w.alloc (.cells (partC e c i p x A1 n1 c1 A2 n2 c2) 25)) := (Below.refl _ _).alloc (Nat.le_refl _) _
  have C1 := hide (check_any e c i p x A1 A2 n1 c1 n2 c2 lo base lo2 base2 fs is _ (sp.bel hb1) (hf.below hb1) (RwAt.below hi hb1) hn1 hn2 hls h64)
  have B1 := hide hb1
  clear hb1 hf hi sp h64 hls
  generalize checkP e c i p x fs is = z at *
  have hz : (z != 0) = true := bne_iff_ne.2 hck
  clear hck
  unfold partC at *
  go_enter Tryd.func12, Tryd.ntmps12
  go_wp2_with fail
  refine C1.out.mono ?_
  rintro r w2 ⟨rfl, hb⟩
  have B2 := hide (B1.out.trans (hb.mono B1.out.size))
  clear hb C1
  go_wp2_with fail
  go_ret2
  exact ⟨rfl, B2.out⟩
set_option maxRecDepth 100000 in
set_option maxHeartbeats 8000000 in
theorem enc_good (e c i p x : Int) (sum : Nat) (hsum : sum < 4294967296) (A1 A2 : Option Addr) (n1 c1 n2 c2 lo base lo2 base2 : Nat) (fs : List FI) (is : List Int) (w : World) (sp : SpanAt w) (hf : FisAt lo base w A1 n1 fs) (hi : IntsAt lo2 base2 w A2 n2 is)
    (h64 : ∀ f ∈ fs, ∀ x ∈ f.ls, I64 x) (hck : checkP e c i p x fs is = 0) :
    Calls Tryd.prog 12 #[.agg (partC e c i p x A1 n1 c1 A2 n2 c2), .int .u32 (sum : Int)] w fun r w' => ∃ A k, r = .returned (.tuple #[.slice A 128 k, .int .i64 0]) ∧ OwnBy w' w.heap.size A 128 k (encB e c (wordsB i p x fs is sum)) ∧ Below w.heap.size w w' := by
  have hsz := (checkP_ok hck).2
  have HG := hide (checkP_ok hck).1.2.1
  have HL1 := hide hf.len
  have HL2 := hide (IntsAt.len hi)
  have hsz' : 10 + n2 + (4 * n1 + 2 * lsN fs) ≤ 88 := by have h1 := HL1.out; have h2 := HL2.out; unfold szN at hsz; rw [h1, h2] at hsz; exact hsz
  have HSZ := hide hsz'
  have HSZ2 := hide hsz
  have hn1 : n1 ≤ 19 := by omega
  have hn2 : n2 ≤ 78 := by omega
  have HF := hide hf
  have HI := hide hi
  have hb1 : Below w.heap.size w (w.alloc (.cells (partC e c i p x A1 n1 c1 A2 n2 c2) 25)) := (Below.refl _ _).alloc (Nat.le_refl _) _
  have C1 := hide (check_any e c i p x A1 A2 n1 c1 n2 c2 lo base lo2 base2 fs is _ (sp.bel hb1) (hf.below hb1) (RwAt.below hi hb1) (by omega) (by omega) (by omega) h64)
  have B1 := hide hb1
  have K1 := hide (Blk.new w 25 (partC e c i p x A1 n1 c1 A2 n2 c2))
  rw [hck] at C1
  clear hb1 hf hi sp h64 hck hsz hsz'
  unfold partC at *
  refine (callsIn_wide (n := 8)).1 ?_
  refine callsIn_of_wp_marks Tryd.func12 rfl trivial ?_ rfl
  simp only [Tryd.ntmps12, List.size_toArray, List.length_cons, List.length_nil, Nat.reduceAdd, Nat.reduceSub, Array.replicate_succ, Array.replicate_zero, List.push_toArray, List.append_toArray, List.nil_append, List.cons_append]
  refine wpIn_wide.2 ?_
  go_wp2_with fail
  refine C1.out.mono ?_
  rintro r w2 ⟨rfl, hb⟩
  have B2 := hide (B1.out.trans (hb.mono B1.out.size))
  obtain ⟨g2, hg2⟩ : ∃ g, g = w.heap.size := ⟨_, rfl⟩
  have HG2 := hide hg2
  replace K1 := hide (K1.out.below hb)
  rw [← hg2] at K1 ⊢
  clear hb C1 B1 hg2
  go_upto_region 4 with fail
  have CC := hide (fun (w' : World) (hb : Below w2.heap.size w2 w') => show w'.cell? ⟨g2, 2, none⟩ = some (.int .i64 i) ∧ w'.cell? ⟨g2, 3, none⟩ = some (.int .i64 p) ∧ w'.cell? ⟨g2, 4, none⟩ = some (.int .i64 x) ∧ w'.cell? ⟨g2, 5, none⟩ = some (.slice A1 n1 c1) ∧ w'.cell? ⟨g2, 6, none⟩ = some (.slice A2 n2 c2) from ⟨(K1.out.below hb).cell 2, (K1.out.below hb).cell 3, (K1.out.below hb).cell 4, (K1.out.below hb).cell 5, (K1.out.below hb).cell 6⟩)
  have s0 := CC.out _ (Below.refl _ _).drew
  refine wp_region_noPanic ?_
  refine wp_region_held_drew (S := (fun w' => w'.cell? ⟨g2, 2, none⟩ = some (.int .i64 i) ∧ w'.cell? ⟨g2, 3, none⟩ = some (.int .i64 p) ∧ w'.cell? ⟨g2, 4, none⟩ = some (.int .i64 x) ∧ w'.cell? ⟨g2, 5, none⟩ = some (.slice A1 n1 c1) ∧ w'.cell? ⟨g2, 6, none⟩ = some (.slice A2 n2 c2))) (by kernel_rfl) ?_ (fun hHeld => ?_)
  · ((try dsimp only) <;> (first | trivial | assumption | go_keep))
  clear s0
  have BD := hide ((Below.refl w2.heap.size w2).drew)
  have ws : Hid (w2.heap.size ≤ w2.drew.heap.size) := hide (Nat.le_refl _)
  generalize w2.drew = wa at *
  refine wpAnyH_take (i := 0) (v := ?_) (by simp only [List.getElem?_toArray, List.getElem?_cons_zero]; rfl) (by kernel_rfl) (by kernel_rfl) (by kernel_rfl) (fun _ _ _ h => h) (Or.inl ⟨by rfl, ?_⟩) (by assumption) ?_
  rotate_left 1
  · (intro w hSw; (try dsimp only at hSw); go_simp; try with_reducible rfl)
  try simp only [Act.put, List.setIfInBounds_toArray, List.set_cons_zero, List.set_cons_succ]
  refine wpAnyH_take (i := 1) (v := ?_) (by simp only [List.getElem?_toArray, List.getElem?_cons_succ, List.getElem?_cons_zero]; rfl) (by kernel_rfl) (by kernel_rfl) (by kernel_rfl) (fun _ _ _ h => h) (Or.inl ⟨by rfl, ?_⟩) (by assumption) ?_
  rotate_left 1
  · (intro w hSw; (try dsimp only at hSw); go_simp; try with_reducible rfl)
  try simp only [Act.put, List.setIfInBounds_toArray, List.set_cons_zero, List.set_cons_succ]
  refine wpAnyH_take (i := 2) (v := ?_) (by simp only [List.getElem?_toArray, List.getElem?_cons_succ, List.getElem?_cons_zero]; rfl) (by kernel_rfl) (by kernel_rfl) (by kernel_rfl) (fun _ _ _ h => h) (Or.inl ⟨by rfl, ?_⟩) (by assumption) ?_
  rotate_left 1
  · (intro w hSw; (try dsimp only at hSw); go_simp; try with_reducible rfl)
  try simp only [Act.put, List.setIfInBounds_toArray, List.set_cons_zero, List.set_cons_succ]
  refine wpAnyH_take (i := 3) (v := ?_) (by simp only [List.getElem?_toArray, List.getElem?_cons_succ, List.getElem?_cons_zero]; rfl) (by kernel_rfl) (by kernel_rfl) (by kernel_rfl) (fun _ _ _ h => h) (Or.inl ⟨by rfl, ?_⟩) (by assumption) ?_
  rotate_left 1
  · (intro w hSw; (try dsimp only at hSw); go_simp; try with_reducible rfl)
  try simp only [Act.put, List.setIfInBounds_toArray, List.set_cons_zero, List.set_cons_succ]
  refine wpAnyH_take (i := 4) (v := ?_) (by simp only [List.getElem?_toArray, List.getElem?_cons_succ, List.getElem?_cons_zero]; rfl) (by kernel_rfl) (by kernel_rfl) (by kernel_rfl) (fun _ _ _ h => h) (Or.inl ⟨by rfl, ?_⟩) (by assumption) ?_
  rotate_left 1
  · (intro w hSw; (try dsimp only at hSw); go_simp; try with_reducible rfl)
  try simp only [Act.put, List.setIfInBounds_toArray, List.set_cons_zero, List.set_cons_succ]
  refine wpAnyH_take (i := 5) (v := ?_) (by simp only [List.getElem?_toArray, List.getElem?_cons_succ, List.getElem?_cons_zero]; rfl) (by kernel_rfl) (by kernel_rfl) (by kernel_rfl) (fun _ _ _ h => h) (Or.inl ⟨by rfl, ?_⟩) (by assumption) ?_
  rotate_left 1
  · (intro w hSw; (try dsimp only at hSw); go_simp; try with_reducible rfl)
  try simp only [Act.put, List.setIfInBounds_toArray, List.set_cons_zero, List.set_cons_succ]
  refine wpAnyH_take (i := 7) (v := ?_) (by simp only [List.getElem?_toArray, List.getElem?_cons_succ, List.getElem?_cons_zero]; rfl) (by kernel_rfl) (by kernel_rfl) (by kernel_rfl) (fun _ _ _ h => h) (Or.inl ⟨by rfl, ?_⟩) (by assumption) ?_
  rotate_left 1
  · (intro w hSw; (try dsimp only at hSw); go_simp; try with_reducible rfl)
  try simp only [Act.put, List.setIfInBounds_toArray, List.set_cons_zero, List.set_cons_succ]
  refine wpAnyH_take (i := 8) (v := ?_) (by simp only [List.getElem?_toArray, List.getElem?_cons_succ, List.getElem?_cons_zero]; rfl) (by kernel_rfl) (by kernel_rfl) (by kernel_rfl) (fun _ _ _ h => h) (Or.inl ⟨by rfl, ?_⟩) (by assumption) ?_
  rotate_left 1
  · (intro w hSw; (try dsimp only at hSw); go_simp; try with_reducible rfl)
  try simp only [Act.put, List.setIfInBounds_toArray, List.set_cons_zero, List.set_cons_succ]
  refine wpAnyH_take (i := 10) (v := ?_) (by simp only [List.getElem?_toArray, List.getElem?_cons_succ, List.getElem?_cons_zero]; rfl) (by kernel_rfl) (by kernel_rfl) (by kernel_rfl) (fun _ _ _ h => h) (Or.inl ⟨by rfl, ?_⟩) (by assumption) ?_
  rotate_left 1
  · (intro w hSw; (try dsimp only at hSw); go_simp; try with_reducible rfl)
  try simp only [Act.put, List.setIfInBounds_toArray, List.set_cons_zero, List.set_cons_succ]
  refine wpAnyH_take (i := 11) (v := ?_) (by simp only [List.getElem?_toArray, List.getElem?_cons_succ, List.getElem?_cons_zero]; rfl) (by kernel_rfl) (by kernel_rfl) (by kernel_rfl) (fun _ _ _ h => h) (Or.inl ⟨by rfl, ?_⟩) (by assumption) ?_
  rotate_left 1
  · (intro w hSw; (try dsimp only at hSw); go_simp; try with_reducible rfl)
  try simp only [Act.put, List.setIfInBounds_toArray, List.set_cons_zero, List.set_cons_succ]
  refine wpAnyH_take (i := 12) (v := ?_) (by simp only [List.getElem?_toArray, List.getElem?_cons_succ, List.getElem?_cons_zero]; rfl) (by kernel_rfl) (by kernel_rfl) (by kernel_rfl) (fun _ _ _ h => h) (Or.inl ⟨by rfl, ?_⟩) (by assumption) ?_
  rotate_left 1
  · (intro w hSw; (try dsimp only at hSw); go_simp; try with_reducible rfl)
  try simp only [Act.put, List.setIfInBounds_toArray, List.set_cons_zero, List.set_cons_succ]
  refine wpAnyH_take (i := 13) (v := ?_) (by simp only [List.getElem?_toArray, List.getElem?_cons_succ, List.getElem?_cons_zero]; rfl) (by kernel_rfl) (by kernel_rfl) (by kernel_rfl) (fun _ _ _ h => h) (Or.inl ⟨by rfl, ?_⟩) (by assumption) ?_
  rotate_left 1
  · (intro w hSw; (try dsimp only at hSw); go_simp; try with_reducible rfl)
  try simp only [Act.put, List.setIfInBounds_toArray, List.set_cons_zero, List.set_cons_succ]
  refine wpAnyH_take (i := 14) (v := ?_) (by simp only [List.getElem?_toArray, List.getElem?_cons_succ, List.getElem?_cons_zero]; rfl) (by kernel_rfl) (by kernel_rfl) (by kernel_rfl) (fun _ _ _ h => h) (Or.inl ⟨by rfl, ?_⟩) (by assumption) ?_
  rotate_left 1
  · (intro w hSw; (try dsimp only at hSw); go_simp; try with_reducible rfl)
  try simp only [Act.put, List.setIfInBounds_toArray, List.set_cons_zero, List.set_cons_succ]
  refine wpAnyH_take (i := 15) (v := ?_) (by simp only [List.getElem?_toArray, List.getElem?_cons_succ, List.getElem?_cons_zero]; rfl) (by kernel_rfl) (by kernel_rfl) (by kernel_rfl) (fun _ _ _ h => h) (Or.inl ⟨by rfl, ?_⟩) (by assumption) ?_
  rotate_left 1
  · (intro w hSw; (try dsimp only at hSw); go_simp; try with_reducible rfl)
  try simp only [Act.put, List.setIfInBounds_toArray, List.set_cons_zero, List.set_cons_succ]
  refine wpAnyH_take (i := 16) (v := ?_) (by simp only [List.getElem?_toArray, List.getElem?_cons_succ, List.getElem?_cons_zero]; rfl) (by kernel_rfl) (by kernel_rfl) (by kernel_rfl) (fun _ _ _ h => h) (Or.inl ⟨by rfl, ?_⟩) (by assumption) ?_
  rotate_left 1
  · (intro w hSw; (try dsimp only at hSw); go_simp; try with_reducible rfl)
  try simp only [Act.put, List.setIfInBounds_toArray, List.set_cons_zero, List.set_cons_succ]
  refine wpAnyH_take (i := 17) (v := ?_) (by simp only [List.getElem?_toArray, List.getElem?_cons_succ, List.getElem?_cons_zero]; rfl) (by kernel_rfl) (by kernel_rfl) (by kernel_rfl) (fun _ _ _ h => h) (Or.inl ⟨by rfl, ?_⟩) (by assumption) ?_
  rotate_left 1
  · (intro w hSw; (try dsimp only at hSw); go_simp; try with_reducible rfl)
  try simp only [Act.put, List.setIfInBounds_toArray, List.set_cons_zero, List.set_cons_succ]
  refine wpAnyH_take (i := 19) (v := ?_) (by simp only [List.getElem?_toArray, List.getElem?_cons_succ, List.getElem?_cons_zero]; rfl) (by kernel_rfl) (by kernel_rfl) (by kernel_rfl) (fun _ _ _ h => h) (Or.inl ⟨by rfl, ?_⟩) (by assumption) ?_
  rotate_left 1
  · (intro w hSw; (try dsimp only at hSw); go_simp; try with_reducible rfl)
  try simp only [Act.put, List.setIfInBounds_toArray, List.set_cons_zero, List.set_cons_succ]
  refine wpAnyH_take (i := 20) (v := ?_) (by simp only [List.getElem?_toArray, List.getElem?_cons_succ, List.getElem?_cons_zero]; rfl) (by kernel_rfl) (by kernel_rfl) (by kernel_rfl) (fun _ _ _ h => h) (Or.inl ⟨by rfl, ?_⟩) (by assumption) ?_
  rotate_left 1
  · (intro w hSw; (try dsimp only at hSw); go_simp; try with_reducible rfl)
  try simp only [Act.put, List.setIfInBounds_toArray, List.set_cons_zero, List.set_cons_succ]
  refine wpAnyH_take (i := 21) (v := ?_) (by simp only [List.getElem?_toArray, List.getElem?_cons_succ, List.getElem?_cons_zero]; rfl) (by kernel_rfl) (by kernel_rfl) (by kernel_rfl) (fun _ _ _ h => h) (Or.inl ⟨by rfl, ?_⟩) (by assumption) ?_
  rotate_left 1
  · (intro w hSw; (try dsimp only at hSw); go_simp; try with_reducible rfl)
  try simp only [Act.put, List.setIfInBounds_toArray, List.set_cons_zero, List.set_cons_succ]
  refine wpAnyH_take (i := 23) (v := ?_) (by simp only [List.getElem?_toArray, List.getElem?_cons_succ, List.getElem?_cons_zero]; rfl) (by kernel_rfl) (by kernel_rfl) (by kernel_rfl) (fun _ _ _ h => h) (Or.inl ⟨by rfl, ?_⟩) (by assumption) ?_
  rotate_left 1
  · (intro w hSw; (try dsimp only at hSw); go_simp; try with_reducible rfl)
  try simp only [Act.put, List.setIfInBounds_toArray, List.set_cons_zero, List.set_cons_succ]
  refine wpAnyH_take (i := 24) (v := ?_) (by simp only [List.getElem?_toArray, List.getElem?_cons_succ, List.getElem?_cons_zero]; rfl) (by kernel_rfl) (by kernel_rfl) (by kernel_rfl) (fun _ _ _ h => h) (Or.inl ⟨by rfl, ?_⟩) (by assumption) ?_
  rotate_left 1
  · (intro w hSw; (try dsimp only at hSw); go_simp; try with_reducible rfl)
  try simp only [Act.put, List.setIfInBounds_toArray, List.set_cons_zero, List.set_cons_succ]
  refine wpAnyH_take (i := 25) (v := ?_) (by simp only [List.getElem?_toArray, List.getElem?_cons_succ, List.getElem?_cons_zero]; rfl) (by kernel_rfl) (by kernel_rfl) (by kernel_rfl) (fun _ _ _ h => h) (Or.inl ⟨by rfl, ?_⟩) (by assumption) ?_
  rotate_left 1
  · (intro w hSw; (try dsimp only at hSw); go_simp; try with_reducible rfl)
  try simp only [Act.put, List.setIfInBounds_toArray, List.set_cons_zero, List.set_cons_succ]
  refine region_rows (fuel := 3) (w0 := wa) (base := wa.heap.size) (stop := 27) (C := [⟨6, 28, [], [], BufF 5 wa.heap.size (u8s [b8 i, b8 p])⟩, ⟨9, 31, [], [], RowF 5 wa.heap.size (u8s (tw x))⟩, ⟨18, 40, [], [], BufF 5 wa.heap.size (u8s [b8 n1, b8 n2])⟩, ⟨22, 44, [], [], RowF 5 wa.heap.size (u8s (tw (IntKind.i64.wrap (bits .and .u32 (sum : Int) 65535))))⟩, ⟨26, 48, [], [], RowF 5 wa.heap.size (u8s (tw (IntKind.i64.wrap ((sum : Int) / 65536))))⟩])
    (ok_of_cd (by kernel_rfl)) ?hok ?hst ?hS (Below.refl _ _) (Nat.le_refl _) ?hend
  case hok =>
    intro y hy
    simp only [List.mem_cons, List.not_mem_nil, or_false] at hy
    rcases hy with rfl | rfl | rfl | rfl | rfl
    · exact bufF_ok _ _ _ _ _ _ _
    · exact rowF_ok _ _ _ _ _ _ _
    · exact bufF_ok _ _ _ _ _ _ _
    · exact rowF_ok _ _ _ _ _ _ _
    · exact rowF_ok _ _ _ _ _ _ _
  case hS =>
    intro w' hb _
    exact CC.out w' (BD.out.trans (hb.mono ws.out))
  case hst =>
    intro y hy
    simp only [List.mem_cons, List.not_mem_nil, or_false] at hy
    rcases hy with rfl | rfl | rfl | rfl | rfl
    · exact step_by2 (by simp only [List.getElem?_toArray, List.getElem?_cons_succ, List.getElem?_cons_zero]; rfl) (by rfl) (by rfl) 24 27 (by rfl) (by intro z hz; simp only [List.mem_cons, List.not_mem_nil, or_false] at hz; rcases hz with rfl | rfl | rfl | rfl | rfl <;> simp) (by intro z hz; simp only [List.mem_cons, List.not_mem_nil, or_false] at hz; rcases hz with rfl | rfl | rfl | rfl | rfl <;> simp) i p (by rfl) (by rfl) rfl
    · exact step_two (by simp only [List.getElem?_toArray, List.getElem?_cons_succ, List.getElem?_cons_zero]; rfl) (by rfl) (by rfl) 30 (by rfl) (by intro z hz; simp only [List.mem_cons, List.not_mem_nil, or_false] at hz; rcases hz with rfl | rfl | rfl | rfl | rfl <;> simp) x (by rfl) rfl
    · exact step_by2 (by simp only [List.getElem?_toArray, List.getElem?_cons_succ, List.getElem?_cons_zero]; rfl) (by rfl) (by rfl) 35 39 (by rfl) (by intro z hz; simp only [List.mem_cons, List.not_mem_nil, or_false] at hz; rcases hz with rfl | rfl | rfl | rfl | rfl <;> simp) (by intro z hz; simp only [List.mem_cons, List.not_mem_nil, or_false] at hz; rcases hz with rfl | rfl | rfl | rfl | rfl <;> simp) n1 n2 (by rfl) (by rfl) rfl
    · exact step_two (by simp only [List.getElem?_toArray, List.getElem?_cons_succ, List.getElem?_cons_zero]; rfl) (by rfl) (by rfl) 43 (by rfl) (by intro z hz; simp only [List.mem_cons, List.not_mem_nil, or_false] at hz; rcases hz with rfl | rfl | rfl | rfl | rfl <;> simp) (IntKind.i64.wrap (bits .and .u32 (sum : Int) 65535)) (by rfl) rfl
    · exact step_two (by simp only [List.getElem?_toArray, List.getElem?_cons_succ, List.getElem?_cons_zero]; rfl) (by rfl) (by rfl) 47 (by rfl) (by intro z hz; simp only [List.mem_cons, List.not_mem_nil, or_false] at hz; rcases hz with rfl | rfl | rfl | rfl | rfl <;> simp) (IntKind.i64.wrap ((sum : Int) / 65536)) (by rfl) rfl
  case hend =>
    intro vals wb hb4 hs4 hF hap
    obtain ⟨A6, k6, hv6, y6⟩ := by_buf (hF ⟨6, 28, [], [], BufF 5 wa.heap.size (u8s [b8 i, b8 p])⟩ (by simp) (by simp))
    have y6 := hide y6
    obtain ⟨A9, n9, k9, hv9, hl9, y9⟩ := by_row (hF ⟨9, 31, [], [], RowF 5 wa.heap.size (u8s (tw x))⟩ (by simp) (by simp))
    have y9 := hide y9
    obtain ⟨A18, k18, hv18, y18⟩ := by_buf (hF ⟨18, 40, [], [], BufF 5 wa.heap.size (u8s [b8 n1, b8 n2])⟩ (by simp) (by simp))
    have y18 := hide y18
    obtain ⟨A22, n22, k22, hv22, hl22, y22⟩ := by_row (hF ⟨22, 44, [], [], RowF 5 wa.heap.size (u8s (tw (IntKind.i64.wrap (bits .and .u32 (sum : Int) 65535))))⟩ (by simp) (by simp))
    have y22 := hide y22
    obtain ⟨A26, n26, k26, hv26, hl26, y26⟩ := by_row (hF ⟨26, 48, [], [], RowF 5 wa.heap.size (u8s (tw (IntKind.i64.wrap ((sum : Int) / 65536))))⟩ (by simp) (by simp))
    have y26 := hide y26
    clear hF hap
    simp only at hv6 hv9 hv18 hv22 hv26
    simp only [List.foldl_cons, List.foldl_nil, hv6, hv9, hv18, hv22, hv26]
    clear hv6 hv9 hv18 hv22 hv26
    rw [tw_len] at hl9
    subst hl9
    rw [tw_len] at hl22
    subst hl22
    rw [tw_len] at hl26
    subst hl26
    simp only [Act.put, List.setIfInBounds_toArray, List.set_cons_zero, List.set_cons_succ, List.length_cons, List.length_nil, Nat.zero_add, Nat.reduceAdd]
    have BB := hide (BD.out.trans (hb4.mono ws.out))
    have hH3 := CC.out _ BB.out
    clear hHeld hb4 hs4
    have hHeld := hH3
    clear hH3
    have CT := concat_as [⟨A6, 2, k6, [b8 i, b8 p]⟩, ⟨A9, 2, k9, tw x⟩, ⟨A18, 2, k18, [b8 n1, b8 n2]⟩, ⟨A22, 2, k22, tw (IntKind.i64.wrap (bits .and .u32 (sum : Int) 65535))⟩, ⟨A26, 2, k26, tw (IntKind.i64.wrap ((sum : Int) / 65536))⟩] (10) 5 (headB i p x n1 n2 sum) wb 30 (by
      intro r hr
      simp only [List.mem_cons, List.not_mem_nil, or_false] at hr
      rcases hr with rfl | rfl | rfl | rfl | rfl
      · exact y6.out
      · exact y9.out
      · exact y18.out
      · exact y22.out
      · exact y26.out
      ) rfl (by decide) (by simp [rowsN]) (by decide) (by rw [low16 sum hsum, high16 sum hsum]; rfl) #[.slice A6 (2) k6, .slice A9 (2) k9, .slice A18 (2) k18, .slice A22 (2) k22, .slice A26 (2) k26] rfl
    replace CT := hide CT
    refine wpAnyH_ready (rs := [27]) (by kernel_rfl) (by simp) ?_
    refine AllReadyH.cons (by simp only [List.getElem?_toArray, List.getElem?_cons_succ, List.getElem?_cons_zero]; rfl) (fun K hK => ?_) ?_
    rotate_left 1
    · exact AllReadyH.nil
    go_simp
    refine hK.out _ _ ?_ (fun hHeld2 => ?_)
    · ((try dsimp only) <;> (exact CC.out _ (BB.out.alloc BB.out.size _)))
    clear hHeld
    have hHeld := hHeld2
    clear hHeld2 hK K
    try simp only [Act.put, List.setIfInBounds_toArray, List.set_cons_zero, List.set_cons_succ]
    refine wpAnyH_ready (rs := [28]) (by kernel_rfl) (by simp) ?_
    refine AllReadyH.cons (by simp only [List.getElem?_toArray, List.getElem?_cons_succ, List.getElem?_cons_zero]; rfl) (fun K hK => ?_) ?_
    rotate_left 1
    · exact AllReadyH.nil
    go_simp
    refine CT.out.mono ?_; rintro r wc ⟨Ac, kc, rfl, ho, hb⟩; have BA := hide (BB.out.trans (hb.mono BB.out.size)); have OC := hide ho; clear ho hb CT
    refine hK.out _ _ ?_ (fun hHeld2 => ?_)
    · ((try dsimp only) <;> (exact CC.out _ BA.out))
    clear hHeld
    have hHeld := hHeld2
    clear hHeld2 hK K
    try simp only [Act.put, List.setIfInBounds_toArray, List.set_cons_zero, List.set_cons_succ]
    refine wpAnyH_take (i := 29) (v := ?_) (by simp only [List.getElem?_toArray, List.getElem?_cons_succ, List.getElem?_cons_zero]; rfl) (by kernel_rfl) (by kernel_rfl) (by kernel_rfl) (fun _ _ _ h => h) (Or.inl ⟨by rfl, ?_⟩) (by assumption) ?_
    rotate_left 1
    · (intro w hSw; (try dsimp only at hSw); go_simp; try with_reducible rfl)
    try simp only [Act.put, List.setIfInBounds_toArray, List.set_cons_zero, List.set_cons_succ]
    refine wpAnyH_done (by kernel_rfl) ?_ _
    refine NoPanic.normal ?_
    clear hHeld CC y6 y9 y18 y22 y26
    have O1 := hide (own_bq OC.out (show w2.heap.size ≤ wb.heap.size from BB.out.size))
    clear OC BB BD ws
    generalize (IntKind.i64.wrap (bits .and .u32 (sum : Int) 65535)) = z0
    generalize (IntKind.i64.wrap ((sum : Int) / 65536)) = z1
    generalize (bits .and .u32 (sum : Int) 65535) = z2
    generalize IntKind.u8.wrap i = z3
    generalize IntKind.u8.wrap p = z4
    generalize IntKind.u8.wrap (n1 : Int) = z5
    generalize IntKind.u8.wrap (n2 : Int) = z6
    obtain ⟨q5, q6⟩ : wc.cell? ⟨g2, 5, none⟩ = some (.slice A1 n1 c1) ∧ wc.cell? ⟨g2, 6, none⟩ = some (.slice A2 n2 c2) := ⟨(K1.out.below BA.out).cell 5, (K1.out.below BA.out).cell 6⟩
    go_wp2_with fail
    clear q5 q6
    obtain ⟨HB, hHB⟩ : ∃ H, H = headB i p x n1 n2 sum := ⟨_, rfl⟩
    have HHB := hide hHB
    rw [← hHB] at O1
    have HBL := hide (show HB.length = 10 by rw [hHB]; rfl)
    clear hHB
    go_loopw [7, 54] (fun v y wr => ∃ (j m k : Nat) (A : Option Addr), j ≤ n1 ∧ y = .int .i64 (j : Int) ∧ m = 10 + (4 * j + 2 * lsN (fs.take j)) ∧ v = .slice A m k ∧ OwnBy wr w2.heap.size A m k (HB ++ (fs.take j).flatMap fileB) ∧ Below w2.heap.size w2 wr) (fun _ y _ => n1 - (intOf y).toNat)
    case atStart => exact ⟨0, 10, kc, Ac, Nat.zero_le _, rfl, by simp [lsN, sumN], rfl, by simpa using O1.out, BA.out⟩
    case round =>
      clear O1 BA
      obtain ⟨j, m, k, A, hj, rfl, hm, rfl, ho, hb⟩ := hrel
      have HM := hide hm
      have O3 := hide ho
      have B3 := hide hb
      have BW := hide (B2.out.trans (hb.mono B2.out.size))
      clear hm ho hb
      by_cases hlt : j < n1
      · obtain ⟨b, off, f, A3, c3, hA, hFr, hfi, hI3, q0, q1, q2⟩ := HF.out.at hlt
        replace q0 := (BW.out.cell (p := ⟨b, off + j * 3, none⟩) hFr.2.1).trans q0
        replace q1 := (BW.out.cell (p := ⟨b, off + j * 3 + 1, none⟩) hFr.2.1).trans q1
        replace q2 := (BW.out.cell (p := ⟨b, off + j * 3 + 2, none⟩) hFr.2.1).trans q2
        have HGF := hide (HG.out f (List.mem_of_getElem? hfi))
        have HLT := hide (lsN_take hfi)
        have HLE := hide (lsN_le fs (j + 1))
        subst hA
        have HFI := hide hfi
        have HI3 := hide hI3
        obtain ⟨m5, hm5⟩ : ∃ n, n = f.ls.length := ⟨_, rfl⟩
        rw [← hm5] at q2 HI3 HLT
        have HM5 := hide hm5
        have HMB := hide (show m + 4 + 2 * m5 ≤ 88 by have := HM.out; have := HLT.out; have := HLE.out; have := HSZ.out; omega)
        clear hfi hI3 hFr hm5
        have hjs : (j : Int) < (n1 : Int) := by omega
        have hw64 : IntKind.i64.wrap (j : Int) = (j : Int) := by rw [IntKind.wrap_i64]; omega
        go_upto_region 8 with fail
        obtain ⟨w5, hw5⟩ : ∃ W, W = wr.alloc (.cells #[.int .i64 f.ino, .int .i64 f.ver, .slice A3 m5 c3] 46) := ⟨_, rfl⟩
        have X5 : Hid (Blk w5 wr.heap.size 46 #[.int .i64 f.ino, .int .i64 f.ver, .slice A3 m5 c3]) := hide (by rw [hw5]; exact Blk.new _ _ _)
        have B5 : Hid (Below wr.heap.size wr w5) := hide (by rw [hw5]; exact (Below.refl _ _).alloc (Nat.le_refl _) _)
        rw [← hw5]
        clear hw5 q0 q1 q2
        obtain ⟨g5, hg5⟩ : ∃ g, g = wr.heap.size := ⟨_, rfl⟩
        rw [← hg5] at X5 ⊢
        clear hg5
        have O5 := hide (own_bb O3.out B5.out)
        have B25 := hide (B3.out.trans (B5.out.mono B3.out.size))
        have CC := hide (fun (w' : World) (hb : Below w5.heap.size w5 w') => show w'.cell? ⟨g5, 0, none⟩ = some (.int .i64 f.ino) ∧ w'.cell? ⟨g5, 1, none⟩ = some (.int .i64 f.ver) ∧ w'.cell? ⟨g5, 2, none⟩ = some (.slice A3 m5 c3) from ⟨(X5.out.below hb).cell 0, (X5.out.below hb).cell 1, (X5.out.below hb).cell 2⟩)
        have s0 := CC.out _ (Below.refl _ _).drew
        refine wp_region_noPanic ?_
        refine wp_region_held_drew (S := (fun w' => w'.cell? ⟨g5, 0, none⟩ = some (.int .i64 f.ino) ∧ w'.cell? ⟨g5, 1, none⟩ = some (.int .i64 f.ver) ∧ w'.cell? ⟨g5, 2, none⟩ = some (.slice A3 m5 c3))) (by kernel_rfl) ?_ (fun hHeld => ?_)
        · ((try dsimp only) <;> (first | trivial | assumption | go_keep))
        clear s0
        have BD := hide ((Below.refl w5.heap.size w5).drew)
        have ws : Hid (w5.heap.size ≤ w5.drew.heap.size) := hide (Nat.le_refl _)
        generalize w5.drew = wa at *
        refine wpAnyH_take (i := 0) (v := ?_) (by simp only [List.getElem?_toArray, List.getElem?_cons_zero]; rfl) (by kernel_rfl) (by kernel_rfl) (by kernel_rfl) (fun _ _ _ h => h) (Or.inl ⟨by rfl, ?_⟩) (by assumption) ?_
        rotate_left 1
        · (intro w hSw; (try dsimp only at hSw); go_simp; try with_reducible rfl)
        try simp only [Act.put, List.setIfInBounds_toArray, List.set_cons_zero, List.set_cons_succ]
        refine wpAnyH_take (i := 1) (v := ?_) (by simp only [List.getElem?_toArray, List.getElem?_cons_succ, List.getElem?_cons_zero]; rfl) (by kernel_rfl) (by kernel_rfl) (by kernel_rfl) (fun _ _ _ h => h) (Or.inl ⟨by rfl, ?_⟩) (by assumption) ?_
        rotate_left 1
        · (intro w hSw; (try dsimp only at hSw); go_simp; try with_reducible rfl)
        try simp only [Act.put, List.setIfInBounds_toArray, List.set_cons_zero, List.set_cons_succ]
        refine wpAnyH_take (i := 2) (v := ?_) (by simp only [List.getElem?_toArray, List.getElem?_cons_succ, List.getElem?_cons_zero]; rfl) (by kernel_rfl) (by kernel_rfl) (by kernel_rfl) (fun _ _ _ h => h) (Or.inl ⟨by rfl, ?_⟩) (by assumption) ?_
        rotate_left 1
        · (intro w hSw; (try dsimp only at hSw); go_simp; try with_reducible rfl)
        try simp only [Act.put, List.setIfInBounds_toArray, List.set_cons_zero, List.set_cons_succ]
        refine wpAnyH_take (i := 3) (v := ?_) (by simp only [List.getElem?_toArray, List.getElem?_cons_succ, List.getElem?_cons_zero]; rfl) (by kernel_rfl) (by kernel_rfl) (by kernel_rfl) (fun _ _ _ h => h) (Or.inl ⟨by rfl, ?_⟩) (by assumption) ?_
        rotate_left 1
        · (intro w hSw; (try dsimp only at hSw); go_simp; try with_reducible rfl)
        try simp only [Act.put, List.setIfInBounds_toArray, List.set_cons_zero, List.set_cons_succ]
        refine wpAnyH_take (i := 5) (v := ?_) (by simp only [List.getElem?_toArray, List.getElem?_cons_succ, List.getElem?_cons_zero]; rfl) (by kernel_rfl) (by kernel_rfl) (by kernel_rfl) (fun _ _ _ h => h) (Or.inl ⟨by rfl, ?_⟩) (by assumption) ?_
        rotate_left 1
        · (intro w hSw; (try dsimp only at hSw); go_simp; try with_reducible rfl)
        try simp only [Act.put, List.setIfInBounds_toArray, List.set_cons_zero, List.set_cons_succ]
        refine wpAnyH_take (i := 6) (v := ?_) (by simp only [List.getElem?_toArray, List.getElem?_cons_succ, List.getElem?_cons_zero]; rfl) (by kernel_rfl) (by kernel_rfl) (by kernel_rfl) (fun _ _ _ h => h) (Or.inl ⟨by rfl, ?_⟩) (by assumption) ?_
        rotate_left 1
        · (intro w hSw; (try dsimp only at hSw); go_simp; try with_reducible rfl)
        try simp only [Act.put, List.setIfInBounds_toArray, List.set_cons_zero, List.set_cons_succ]
        refine wpAnyH_take (i := 8) (v := ?_) (by simp only [List.getElem?_toArray, List.getElem?_cons_succ, List.getElem?_cons_zero]; rfl) (by kernel_rfl) (by kernel_rfl) (by kernel_rfl) (fun _ _ _ h => h) (Or.inl ⟨by rfl, ?_⟩) (by assumption) ?_
        rotate_left 1
        · (intro w hSw; (try dsimp only at hSw); go_simp; try with_reducible rfl)
        try simp only [Act.put, List.setIfInBounds_toArray, List.set_cons_zero, List.set_cons_succ]
        refine wpAnyH_take (i := 9) (v := ?_) (by simp only [List.getElem?_toArray, List.getElem?_cons_succ, List.getElem?_cons_zero]; rfl) (by kernel_rfl) (by kernel_rfl) (by kernel_rfl) (fun _ _ _ h => h) (Or.inl ⟨by rfl, ?_⟩) (by assumption) ?_
        rotate_left 1
        · (intro w hSw; (try dsimp only at hSw); go_simp; try with_reducible rfl)
        try simp only [Act.put, List.setIfInBounds_toArray, List.set_cons_zero, List.set_cons_succ]
        refine wpAnyH_take (i := 10) (v := ?_) (by simp only [List.getElem?_toArray, List.getElem?_cons_succ, List.getElem?_cons_zero]; rfl) (by kernel_rfl) (by kernel_rfl) (by kernel_rfl) (fun _ _ _ h => h) (Or.inl ⟨by rfl, ?_⟩) (by assumption) ?_
        rotate_left 1
        · (intro w hSw; (try dsimp only at hSw); go_simp; try with_reducible rfl)
        try simp only [Act.put, List.setIfInBounds_toArray, List.set_cons_zero, List.set_cons_succ]
        refine wpAnyH_take (i := 11) (v := ?_) (by simp only [List.getElem?_toArray, List.getElem?_cons_succ, List.getElem?_cons_zero]; rfl) (by kernel_rfl) (by kernel_rfl) (by kernel_rfl) (fun _ _ _ h => h) (Or.inl ⟨by rfl, ?_⟩) (by assumption) ?_
        rotate_left 1
        · (intro w hSw; (try dsimp only at hSw); go_simp; try with_reducible rfl)
        try simp only [Act.put, List.setIfInBounds_toArray, List.set_cons_zero, List.set_cons_succ]
        refine region_rows (fuel := 3) (w0 := wa) (base := wa.heap.size) (stop := 13) (C := [⟨4, 62, [], [], BufF 5 wa.heap.size (u8s [b8 f.ino])⟩, ⟨7, 65, [], [], RowF 5 wa.heap.size (u8s (tw f.ver))⟩, ⟨12, 70, [], [], BufF 5 wa.heap.size (u8s [b8 (m5 : Int)])⟩])
          (ok_of_cd (by kernel_rfl)) ?hok ?hst ?hS (Below.refl _ _) (Nat.le_refl _) ?hend
        case hok =>
          intro y hy
          simp only [List.mem_cons, List.not_mem_nil, or_false] at hy
          rcases hy with rfl | rfl | rfl
          · exact bufF_ok _ _ _ _ _ _ _
          · exact rowF_ok _ _ _ _ _ _ _
          · exact bufF_ok _ _ _ _ _ _ _
        case hS =>
          intro w' hb _
          exact CC.out w' (BD.out.trans (hb.mono ws.out))
        case hst =>
          intro y hy
          simp only [List.mem_cons, List.not_mem_nil, or_false] at hy
          rcases hy with rfl | rfl | rfl
          · exact step_by1 (by simp only [List.getElem?_toArray, List.getElem?_cons_succ, List.getElem?_cons_zero]; rfl) (by rfl) (by rfl) 61 (by rfl) (by intro z hz; simp only [List.mem_cons, List.not_mem_nil, or_false] at hz; rcases hz with rfl | rfl | rfl <;> simp) f.ino (by rfl) rfl
          · exact step_two (by simp only [List.getElem?_toArray, List.getElem?_cons_succ, List.getElem?_cons_zero]; rfl) (by rfl) (by rfl) 64 (by rfl) (by intro z hz; simp only [List.mem_cons, List.not_mem_nil, or_false] at hz; rcases hz with rfl | rfl | rfl <;> simp) f.ver (by rfl) rfl
          · exact step_by1 (by simp only [List.getElem?_toArray, List.getElem?_cons_succ, List.getElem?_cons_zero]; rfl) (by rfl) (by rfl) 69 (by rfl) (by intro z hz; simp only [List.mem_cons, List.not_mem_nil, or_false] at hz; rcases hz with rfl | rfl | rfl <;> simp) (m5 : Int) (by rfl) rfl
        case hend =>
          intro vals wb hb4 hs4 hF hap
          obtain ⟨A4, k4, hv4, y4⟩ := by_buf (hF ⟨4, 62, [], [], BufF 5 wa.heap.size (u8s [b8 f.ino])⟩ (by simp) (by simp))
          have y4 := hide y4
          obtain ⟨A7, n7, k7, hv7, hl7, y7⟩ := by_row (hF ⟨7, 65, [], [], RowF 5 wa.heap.size (u8s (tw f.ver))⟩ (by simp) (by simp))
          have y7 := hide y7
          obtain ⟨A12, k12, hv12, y12⟩ := by_buf (hF ⟨12, 70, [], [], BufF 5 wa.heap.size (u8s [b8 (m5 : Int)])⟩ (by simp) (by simp))
          have y12 := hide y12
          clear hF hap
          simp only at hv4 hv7 hv12
          simp only [List.foldl_cons, List.foldl_nil, hv4, hv7, hv12]
          clear hv4 hv7 hv12
          rw [tw_len] at hl7
          subst hl7
          simp only [Act.put, List.setIfInBounds_toArray, List.set_cons_zero, List.set_cons_succ, List.length_cons, List.length_nil, Nat.zero_add]
          have BB := hide (BD.out.trans (hb4.mono ws.out))
          have hH3 := CC.out _ BB.out
          clear hHeld hb4 hs4
          have hHeld := hH3
          clear hH3
          have CT := concat_as [⟨A, m, k, (HB ++ (fs.take j).flatMap fileB)⟩, ⟨A4, 1, k4, [b8 f.ino]⟩, ⟨A7, 2, k7, tw f.ver⟩, ⟨A12, 1, k12, [b8 (m5 : Int)]⟩] (m + 4) 4 (((HB ++ (fs.take j).flatMap fileB) ++ ([b8 f.ino] ++ tw f.ver ++ [b8 (m5 : Int)]))) wb 30 (by
            intro r hr
            simp only [List.mem_cons, List.not_mem_nil, or_false] at hr
            rcases hr with rfl | rfl | rfl | rfl
            · exact (own_bb O5.out BB.out).by
            · exact y4.out
            · exact y7.out
            · exact y12.out
            ) rfl (by decide) (by simp [rowsN]) ( by have := HMB.out; omega) (by simp [rowsL]) #[.slice A (m) k, .slice A4 (1) k4, .slice A7 (2) k7, .slice A12 (1) k12] rfl
          replace CT := hide CT
          refine wpAnyH_ready (rs := [13]) (by kernel_rfl) (by simp) ?_
          refine AllReadyH.cons (by simp only [List.getElem?_toArray, List.getElem?_cons_succ, List.getElem?_cons_zero]; rfl) (fun K hK => ?_) ?_
          rotate_left 1
          · exact AllReadyH.nil
          go_simp
          refine hK.out _ _ ?_ (fun hHeld2 => ?_)
          · ((try dsimp only) <;> (exact CC.out _ (BB.out.alloc BB.out.size _)))
          clear hHeld
          have hHeld := hHeld2
          clear hHeld2 hK K
          try simp only [Act.put, List.setIfInBounds_toArray, List.set_cons_zero, List.set_cons_succ]
          refine wpAnyH_ready (rs := [14]) (by kernel_rfl) (by simp) ?_
          refine AllReadyH.cons (by simp only [List.getElem?_toArray, List.getElem?_cons_succ, List.getElem?_cons_zero]; rfl) (fun K hK => ?_) ?_
          rotate_left 1
          · exact AllReadyH.nil
          go_simp
          refine CT.out.mono ?_; rintro r wc ⟨Ac, kc, rfl, ho, hb⟩; have BA := hide (BB.out.trans (hb.mono BB.out.size)); have OC := hide ho; clear ho hb CT
          refine hK.out _ _ ?_ (fun hHeld2 => ?_)
          · ((try dsimp only) <;> (exact CC.out _ BA.out))
          clear hHeld
          have hHeld := hHeld2
          clear hHeld2 hK K
          try simp only [Act.put, List.setIfInBounds_toArray, List.set_cons_zero, List.set_cons_succ]
          refine wpAnyH_take (i := 15) (v := ?_) (by simp only [List.getElem?_toArray, List.getElem?_cons_succ, List.getElem?_cons_zero]; rfl) (by kernel_rfl) (by kernel_rfl) (by kernel_rfl) (fun _ _ _ h => h) (Or.inl ⟨by rfl, ?_⟩) (by assumption) ?_
          rotate_left 1
          · (intro w hSw; (try dsimp only at hSw); go_simp; try with_reducible rfl)
          try simp only [Act.put, List.setIfInBounds_toArray, List.set_cons_zero, List.set_cons_succ]
          refine wpAnyH_done (by kernel_rfl) ?_ _
          refine NoPanic.normal ?_
          clear hHeld CC y4 y7 y12
          have O6 := hide (own_bq OC.out (show w2.heap.size ≤ wb.heap.size from Nat.le_trans B25.out.size BB.out.size))
          have B6 := hide (B25.out.trans (BA.out.mono B25.out.size))
          have r2 := (X5.out.below BA.out).cell 2
          simp only [List.getElem?_toArray, List.getElem?_cons_succ, List.getElem?_cons_zero] at r2
          clear OC BA BB BD ws O5 O3 B5 B25
          generalize IntKind.u8.wrap f.ino = z7
          generalize IntKind.u8.wrap (m5 : Int) = z8
          go_wp2_with fail
          clear r2
          obtain ⟨L0, hL0⟩ : ∃ l, l = ((HB ++ (fs.take j).flatMap fileB) ++ ([b8 f.ino] ++ tw f.ver ++ [b8 (m5 : Int)])) := ⟨_, rfl⟩
          rw [← hL0] at O6
          have HL0 := hide hL0
          clear hL0
          have hm58 : m5 ≤ 88 := by have := HMB.out; omega
          go_loopw [7, 76] (fun v y wr => ∃ (q kq : Nat) (Aq : Option Addr), q ≤ m5 ∧ y = .int .i64 (q : Int) ∧ v = .slice Aq (m + 4 + 2 * q) kq ∧ OwnBy wr w2.heap.size Aq (m + 4 + 2 * q) kq (L0 ++ (f.ls.take q).flatMap (fun l => tw (l + 1000))) ∧ Below w2.heap.size w2 wr) (fun _ y _ => m5 - (intOf y).toNat)
          case atStart => exact ⟨0, kc, Ac, Nat.zero_le _, rfl, rfl, by simpa using O6.out, B6.out⟩
          case round =>
            clear O6 B6
            obtain ⟨q, kq, Aq, hq, rfl, rfl, ho, hb⟩ := hrel
            have O7 := hide ho
            have B7 := hide hb
            have BQ := hide (B2.out.trans (hb.mono B2.out.size))
            clear ho hb
            by_cases hlq : q < m5
            · obtain ⟨zn, hzn⟩ : ∃ x, f.ls[q]? = some x := ⟨_, List.getElem?_eq_getElem (by rw [← HM5.out]; exact hlq)⟩
              obtain ⟨b3, off3, hA3, -, hc⟩ := RwAt.at (RwAt.below HI3.out BQ.out) (by omega) (by decide)
              have zc := hc q (.int .i64 zn) (by rw [intC, List.getElem?_map, hzn]; rfl)
              subst hA3
              have HZN := hide hzn
              have hzb := gdF_ls HGF.out zn (List.mem_of_getElem? hzn)
              have HZB := hide hzb
              have hx : IntKind.i64.wrap (zn + 1000) = zn + 1000 := by rw [IntKind.wrap_i64]; omega
              have hqs : (q : Int) < (m5 : Int) := by omega
              have hq64 : IntKind.i64.wrap (q : Int) = (q : Int) := by have := HMB.out; rw [IntKind.wrap_i64]; omega
              clear hzn hc hzb
              go_wp2_with fail
              refine (two_any (zn + 1000) wr).mono ?_
              rintro r w8 ⟨A8, k8, rfl, ho, hb⟩
              have O8 := hide ho
              have B8 := hide (B7.out.trans (hb.mono B7.out.size))
              have O9 := hide (own_bb O7.out hb)
              clear ho hb O7 zc
              go_wp2_with (
                at_builtin
                refine wpList_app _ rfl (.tmp 80) (.tmp 83) _ rfl etyB w2.heap.size (.slice Aq (m + 4 + 2 * q) kq) (m + 4 + 2 * q) _ rfl O9.out w8.heap.size A8 2 k8 (u8s (tw (zn + 1000))) rfl O8.out.by (u8s_one _) (by have := HMB.out; omega) B8.out.size ?_
                intro A9 k9 w9 hown hg _
                have O10 := hide hown
                have B10 := hide (B8.out.grown hg B8.out.size (fun g hg => (O9.out.lt g hg).1))
                clear hown hg)
              go_roundw
              case rel =>
                refine ⟨q + 1, k9, A9, by omega, by go_num, by rw [show m + 4 + 2 * (q + 1) = m + 4 + 2 * q + 2 from by omega], ?_, B10.out⟩
                have h1 := O10.out
                rw [← u8s_append] at h1
                rw [List.take_add_one, HZN.out, List.flatMap_append, ← List.append_assoc, show m + 4 + 2 * (q + 1) = m + 4 + 2 * q + 2 from by omega]
                simpa [OwnBy] using h1
              case measure => simp [intOf]; omega
            · have hqm : q = m5 := by omega
              have HQM := hide hqm
              clear hqm
              go_wp2_with fail
              go_roundw
              case rel =>
                refine ⟨j + 1, m + 4 + 2 * q, kq, Aq, by omega, by go_num, ?_, rfl, ?_, B7.out⟩
                · have h1 := HM.out
                  have h2 := HLT.out
                  have h3 := HQM.out
                  omega
                · have h1 := O7.out
                  rw [HQM.out, List.take_of_length_le (by rw [← HM5.out]; exact Nat.le_refl _), HL0.out] at h1
                  rw [HQM.out, List.take_add_one, HFI.out, List.flatMap_append]
                  have e1 : HB ++ (List.flatMap fileB (List.take j fs) ++ List.flatMap fileB (some f).toList) = HB ++ List.flatMap fileB (List.take j fs) ++ ([b8 f.ino] ++ tw f.ver ++ [b8 (m5 : Int)]) ++ List.flatMap (fun l => tw (l + 1000)) f.ls := by
                    simp [fileB, HM5.out]
                  rw [e1]
                  exact h1
              case measure => simp [intOf]; omega
      · have hjn : j = n1 := by omega
        have hall : fs.take j = fs := List.take_of_length_le (by rw [HL1.out]; omega)
        have O4 := hide (show OwnBy wr w2.heap.size A m k (HB ++ fs.flatMap fileB) by have := O3.out; rwa [hall] at this)
        have HM4 := hide (show m = 10 + (4 * n1 + 2 * lsN fs) by have := HM.out; rwa [hall, hjn] at this)
        have q6 : wr.cell? ⟨g2, 6, none⟩ = some (.slice A2 n2 c2) := (K1.out.below B3.out).cell 6
        have hm88 : m + n2 ≤ 88 := by have := HM4.out; have := HSZ.out; omega
        have HM88 := hide hm88
        clear hall O3 HM hm88 hjn
        go_wp2_with fail
        clear q6
        go_loopw [7, 90] (fun v y wr => ∃ (q kq : Nat) (Aq : Option Addr), q ≤ n2 ∧ y = .int .i64 (q : Int) ∧ v = .slice Aq (m + q) kq ∧ OwnBy wr w2.heap.size Aq (m + q) kq (HB ++ fs.flatMap fileB ++ (is.take q).map b8) ∧ Below w2.heap.size w2 wr) (fun _ y _ => n2 - (intOf y).toNat)
        case atStart => exact ⟨0, k, A, Nat.zero_le _, rfl, rfl, by simpa using O4.out, B3.out⟩
        case round =>
          clear O4 B3 BW
          obtain ⟨q, kq, Aq, hq, rfl, rfl, ho, hb⟩ := hrel
          have O7 := hide ho
          have B7 := hide hb
          have BQ := hide (B2.out.trans (hb.mono B2.out.size))
          clear ho hb
          by_cases hlq : q < n2
          · obtain ⟨zn, hzn⟩ : ∃ x, is[q]? = some x := ⟨_, List.getElem?_eq_getElem (by rw [HL2.out]; exact hlq)⟩
            obtain ⟨b3, off3, hA3, -, hc⟩ := RwAt.at (RwAt.below HI.out BQ.out) (by omega) (by decide)
            have zc := hc q (.int .i64 zn) (by rw [intC, List.getElem?_map, hzn]; rfl)
            subst hA3
            have HZN := hide hzn
            have hqs : (q : Int) < (n2 : Int) := by omega
            have hq64 : IntKind.i64.wrap (q : Int) = (q : Int) := by rw [IntKind.wrap_i64]; omega
            clear hzn hc
            have ha := sl_newS wr (u8s [b8 zn]) 5
            rw [show u8s [b8 zn] = [.int .u8 (IntKind.u8.wrap zn)] from by rw [b8_wrap]; rfl] at ha
            have HA := hide ha
            clear ha
            go_wp2_with (
              at_builtin
              refine wpList_app _ rfl (.tmp 94) (.tmp 97) _ rfl etyB w2.heap.size (.slice Aq (m + q) kq) (m + q) _ rfl (own_bb O7.out ((Below.refl _ _).alloc (Nat.le_refl _) _)) (wr.heap.size + 1) (some ⟨wr.heap.size, 0, none⟩) 1 1 [.int .u8 (IntKind.u8.wrap zn)] rfl HA.out (by intro u hu; simp only [List.mem_cons, List.not_mem_nil, or_false] at hu; subst hu; rfl) (by have := HM88.out; omega) (Nat.le_trans B7.out.size (by simp)) ?_
              intro A9 k9 w9 hown hg _
              have O10 := hide hown
              have B10 := hide ((B7.out.alloc B7.out.size (.cells #[.int .u8 (IntKind.u8.wrap zn)] 5)).grown hg (Nat.le_trans B7.out.size (by simp)) (fun g hg => (O7.out.lt g hg).1))
              clear hown hg)
            go_roundw
            case rel =>
              refine ⟨q + 1, k9, A9, by omega, by go_num, by rw [show m + (q + 1) = m + q + 1 from by omega], ?_, B10.out⟩
              have h1 := O10.out
              rw [show [Value.int .u8 (IntKind.u8.wrap zn)] = u8s [b8 zn] from by rw [b8_wrap]; rfl, ← u8s_append] at h1
              rw [List.take_add_one, HZN.out, List.map_append, ← List.append_assoc, show m + (q + 1) = m + q + 1 from by omega]
              simpa [OwnBy] using h1
            case measure => simp [intOf]; omega
          · have hqn : q = n2 := by omega
            obtain ⟨M, hM⟩ : ∃ M, M = m + q := ⟨_, rfl⟩
            have hME : M = szN fs is := by have := HM4.out; rw [hM, hqn, this]; unfold szN; rw [HL1.out, HL2.out]; omega
            rw [← hM] at O7 ⊢
            have O8 := hide (show OwnBy wr w2.heap.size Aq M kq (bodyB i p x fs is sum) by
              have h1 := O7.out
              rw [List.take_of_length_le (by rw [HL2.out]; omega), HHB.out] at h1
              unfold bodyB
              rw [HL1.out, HL2.out]
              exact h1)
            have hM88 : M ≤ 88 := by rw [hME]; exact HSZ2.out
            have HME := hide hME
            clear hM hME hqn O7 HM4 HM88
            obtain ⟨A5, d5, w5, hr5, hown5, hg5, -⟩ := run_app_zeros (P := Tryd.prog) wr (tn := 3) (ty := 30) (kn := .i64) (kq := .i64) etyB rfl rfl Tryd.underlying3 w2.heap.size (.slice Aq M kq) M _ O8.out (88 - M) (by omega) B7.out.size
            have hz88 : ((88 - M : Nat) : Int) = 88 - (M : Int) := by omega
            have e88 : M + (88 - M) = 88 := by omega
            rw [e88, hz88] at hr5
            rw [e88] at hown5
            have Hr5 := hide hr5
            have O5 := hide (show OwnBy w5 w2.heap.size A5 88 d5 (wordsB i p x fs is sum) by
              rw [OwnBy, wordsB, u8s_append, ← HME.out, show u8s (List.replicate (88 - M) 0) = List.replicate (88 - M) (.int .u8 0) from by simp [u8s]]; exact hown5)
            have B5 := hide (B7.out.grown hg5 B7.out.size (fun g hg => (O8.out.lt g hg).1))
            have hz64 : IntKind.i64.wrap (88 - (M : Int)) = 88 - (M : Int) := by rw [IntKind.wrap_i64]; omega
            clear hr5 hown5 hg5 hz88 e88
            obtain ⟨Lw, hLw⟩ : ∃ l, l = wordsB i p x fs is sum := ⟨_, rfl⟩
            rw [← hLw] at O5
            have HLW := hide (show Lw.length = 88 by rw [hLw]; exact wordsB_len HSZ2.out)
            have HLWE := hide hLw
            clear hLw
            go_wp2_with (
              at_builtin
              refine Lib.wpList_append_run _ rfl (.tmp 100) (.tmp 103) _ _ rfl _ _ rfl rfl _ _ Hr5.out ?_)
            rw [show (11 : Int) = ((11 : Nat) : Int) from rfl]
            obtain ⟨gw, hA5, hgw1, hgw2, hd5, hd6⟩ := own_some O5.out (by decide)
            subst hA5
            have k14 := Blk.new w5 30 #[.slice none 0 0]
            obtain ⟨w6, hw6⟩ : ∃ W, W = w5.alloc (.cells #[.slice none 0 0] 30) := ⟨_, rfl⟩
            rw [← hw6] at k14 ⊢
            have b6 : Below w5.heap.size w5 w6 := by rw [hw6]; exact (Below.refl _ _).alloc (Nat.le_refl _) _
            have s6 : w6.heap.size = w5.heap.size + 1 := by rw [hw6]; simp
            obtain ⟨g14, hg14⟩ : ∃ g, g = w5.heap.size := ⟨_, rfl⟩
            rw [← hg14] at k14 ⊢
            have L14 := hide (show gw < g14 ∧ w.heap.size ≤ g14 ∧ g2 < g14 ∧ w6.heap.size = g14 + 1 from ⟨by omega, by have := B5.out.size; have := B2.out.size; omega, by have := K1.out.lt; have := B5.out.size; omega, by omega⟩)
            have O6 := hide (own_bb O5.out b6)
            have B6 := hide (B2.out.trans ((B5.out.trans (b6.mono B5.out.size)).mono B2.out.size))
            have K6 := hide ((K1.out.below B5.out).below b6)
            have K14 := hide k14
            have HD := hide (And.intro hd5 hd6)
            clear hw6 k14 b6 hg14 hgw1 hgw2 s6 O5 B5 O8 B7 BQ Hr5 hM88 HME hd5 hd6
            refine (chunk_any (some ⟨gw, 0, none⟩) 88 d5 11 (by decide) w6).mono ?_
            rintro r w7 ⟨rfl, hw7⟩
            have hb7 : Below w6.heap.size w6 w7 := by rw [hw7]; exact ((Below.refl _ _).alloc (Nat.le_refl _) _).alloc (by simp) _
            have hs7 : w7.heap.size = w6.heap.size + 2 := by rw [hw7]; simp
            have ks := (Blk.new w6 30 #[.slice (some ⟨gw, 0, none⟩) 88 d5]).alloc (.cells #[.int .i64 (11 : Int)] 3)
            have kp := Blk.new (w6.alloc (.cells #[.slice (some ⟨gw, 0, none⟩) 88 d5] 30)) 3 #[.int .i64 (11 : Int)]
            rw [World.size_alloc] at kp
            have KS := hide (show Blk w7 w6.heap.size 30 #[.slice (some ⟨gw, 0, none⟩) 88 d5] from by rw [hw7]; exact ks)
            have KP := hide (show Blk w7 (w6.heap.size + 1) 3 #[.int .i64 (11 : Int)] from by rw [hw7]; exact kp)
            have HS7 := hide hs7
            have I0 := hide (show SmI w w2 w7 g2 g14 gw d5 (partC e c i p x A1 n1 c1 A2 n2 c2) Lw w7 none 0 0 [] from ⟨K14.out.below hb7, World.ownsRow_nil _ _ _ _, K6.out.below hb7, own_bb O6.out hb7, B6.out.trans (hb7.mono B6.out.size), Nat.le_refl _⟩)
            clear hw7 hb7 ks kp hs7 K14 K6 O6 B6
            obtain ⟨s4, hs4⟩ : ∃ s, s = w6.heap.size := ⟨_, rfl⟩
            have L4 := hide (show s4 = g14 + 1 ∧ w7.heap.size = s4 + 2 from ⟨by rw [hs4]; exact L14.out.2.2.2, by rw [hs4]; exact HS7.out⟩)
            rw [← hs4] at KS KP ⊢
            clear hs4 HS7
            go_wp2_with fail
            refine (wpIn_wide (n := 8)).1 ?_
            generalize ha : ({ tmps := _, defers := _ } : Act) = a
            refine wpIn_rangeFunc_ownG (a := a) rfl (by decide) (gf := 36) (lb := #[.pointer (some ⟨s4, 0, none⟩), .pointer (some ⟨s4 + 1, 0, none⟩)]) (by rw [← ha]; rfl) trivial (enters_of Tryd.func36 (by kernel_rfl) rfl)
              (chunk_stops 7 (by decide) s4 (s4 + 1) gw 8 11 d5 ⟨by decide, by decide⟩ (by decide) (by have := HD.out.1; omega) HD.out.2 w7 (by have := L4.out; omega) (by have := L4.out; omega) (KS.out.cell 0) (KP.out.cell 0))
              KpS.trans (KpS.put (by intro g hg; have := L4.out; simp only [List.mem_cons, List.not_mem_nil, or_false] at hg; omega)) (Below.refl _ _) (fun _ => rfl)
              (fun pre W => ∃ A k, SmI w w2 w7 g2 g14 gw d5 (partC e c i p x A1 n1 c1 A2 n2 c2) Lw W A (16 * pre.length) k (secsS e c Lw pre))
              (fun _ _ _ => False) ?hI (fun _ _ _ _ _ hs _ _ => hs)
              ⟨none, 0, I0.out⟩
              (fun x => { tmps := (a.tmps.setIfInBounds 107 (.slice (some ⟨gw, 11 * x.1, none⟩) 11 11)).setIfInBounds 15 (.slice (some ⟨gw, 11 * x.1, none⟩) 11 11), defers := [] }) ?assign ?body ?done ?stop
            case hI =>
              rintro pre W W' row ⟨A, k, hI⟩ hg hrow
              exact ⟨A, k, hI.gr (by have := L4.out; have := L14.out; omega) hg hrow⟩
            case assign =>
              intro l x W K hK
              subst ha
              simp only [List.setIfInBounds_toArray, List.set_cons_zero, List.set_cons_succ] at hK
              gi_wp2
              exact hK
            case body =>
              rintro l pre x8 W ⟨A, k, hI⟩ hlen
              subst ha
              simp only [List.setIfInBounds_toArray, List.set_cons_zero, List.set_cons_succ]
              have I1 := hide hI
              clear hI I0 KS KP
              obtain ⟨L, hL⟩ : ∃ L, L = pre.length := ⟨_, rfl⟩
              have HL := hide hL
              rw [← hL] at I1 hlen
              obtain ⟨XS, hXS⟩ : ∃ l, l = secsS e c Lw pre := ⟨_, rfl⟩
              have HXS := hide hXS
              rw [← hXS] at I1
              obtain ⟨X8, hX8⟩ : ∃ l, l = 11 * x8.1 := ⟨_, rfl⟩
              have HX8 := hide (show X8 = 11 * x8.1 ∧ X8 + 11 ≤ 88 from ⟨hX8, by have := x8.2; omega⟩)
              rw [← hX8]
              clear hL hXS hX8
              have c14 := I1.out.h14.cell 0
              simp only [List.getElem?_toArray, List.getElem?_cons_zero] at c14
              have hq16 : ((16 * L : Nat) : Int) / 16 = (L : Int) := by omega
              gi_wp2_with fail
              clear c14 hq16
              have CC := hide (fun (w' : World) (hb : Below W.heap.size W w') => show w'.cell? ⟨g2, 0, none⟩ = some (.int .i64 e) ∧ w'.cell? ⟨g2, 1, none⟩ = some (.int .i64 c) ∧ w'.cell? ⟨g14, 0, none⟩ = some (.slice A (16 * L) k) from ⟨(I1.out.h2.below hb).cell 0, (I1.out.h2.below hb).cell 1, (I1.out.h14.below hb).cell 0⟩)
              have s0 := CC.out _ (Below.refl _ _).drew
              refine region_noPanicIn ?_
              refine region_wide_last (n := 13) (S := fun w' => w'.cell? ⟨g2, 0, none⟩ = some (.int .i64 e) ∧ w'.cell? ⟨g2, 1, none⟩ = some (.int .i64 c) ∧ w'.cell? ⟨g14, 0, none⟩ = some (.slice A (16 * L) k)) (by kernel_rfl) (fun h => by obtain ⟨_, _, h⟩ := h; exact (h : False)) (by rfl) (by rfl) (by kernel_rfl) ?_ (fun hHeld => ?_)
              · exact s0
              clear s0
              have BD := hide ((Below.refl W.heap.size W).drew)
              have ws : Hid (W.heap.size ≤ W.drew.heap.size) := hide (Nat.le_refl _)
              generalize W.drew = wa at *
              refine wpAnyH_take (i := 0) (v := ?_) (by simp only [List.getElem?_toArray, List.getElem?_cons_zero]; rfl) (by kernel_rfl) (by kernel_rfl) (by kernel_rfl) (fun _ _ _ h => h) (Or.inl ⟨by rfl, ?_⟩) (by assumption) ?_
              rotate_left 1
              · (intro w hSw; (try dsimp only at hSw); go_simp; try with_reducible rfl)
              try simp only [Act.put, List.setIfInBounds_toArray, List.set_cons_zero, List.set_cons_succ]
              refine wpAnyH_take (i := 1) (v := ?_) (by simp only [List.getElem?_toArray, List.getElem?_cons_succ, List.getElem?_cons_zero]; rfl) (by kernel_rfl) (by kernel_rfl) (by kernel_rfl) (fun _ _ _ h => h) (Or.inl ⟨by rfl, ?_⟩) (by assumption) ?_
              rotate_left 1
              · (intro w hSw; (try dsimp only at hSw); go_simp; try with_reducible rfl)
              try simp only [Act.put, List.setIfInBounds_toArray, List.set_cons_zero, List.set_cons_succ]
              refine wpAnyH_take (i := 2) (v := ?_) (by simp only [List.getElem?_toArray, List.getElem?_cons_succ, List.getElem?_cons_zero]; rfl) (by kernel_rfl) (by kernel_rfl) (by kernel_rfl) (fun _ _ _ h => h) (Or.inl ⟨by rfl, ?_⟩) (by assumption) ?_
              rotate_left 1
              · (intro w hSw; (try dsimp only at hSw); go_simp; try with_reducible rfl)
              try simp only [Act.put, List.setIfInBounds_toArray, List.set_cons_zero, List.set_cons_succ]
              refine wpAnyH_take (i := 4) (v := ?_) (by simp only [List.getElem?_toArray, List.getElem?_cons_succ, List.getElem?_cons_zero]; rfl) (by kernel_rfl) (by kernel_rfl) (by kernel_rfl) (fun _ _ _ h => h) (Or.inl ⟨by rfl, ?_⟩) (by assumption) ?_
              rotate_left 1
              · (intro w hSw; (try dsimp only at hSw); go_simp; try with_reducible rfl)
              try simp only [Act.put, List.setIfInBounds_toArray, List.set_cons_zero, List.set_cons_succ]
              refine wpAnyH_take (i := 5) (v := ?_) (by simp only [List.getElem?_toArray, List.getElem?_cons_succ, List.getElem?_cons_zero]; rfl) (by kernel_rfl) (by kernel_rfl) (by kernel_rfl) (fun _ _ _ h => h) (Or.inl ⟨by rfl, ?_⟩) (by assumption) ?_
              rotate_left 1
              · (intro w hSw; (try dsimp only at hSw); go_simp; try with_reducible rfl)
              try simp only [Act.put, List.setIfInBounds_toArray, List.set_cons_zero, List.set_cons_succ]
              refine wpAnyH_take (i := 7) (v := ?_) (by simp only [List.getElem?_toArray, List.getElem?_cons_succ, List.getElem?_cons_zero]; rfl) (by kernel_rfl) (by kernel_rfl) (by kernel_rfl) (fun _ _ _ h => h) (Or.inl ⟨by rfl, ?_⟩) (by assumption) ?_
              rotate_left 1
              · (intro w hSw; (try dsimp only at hSw); go_simp; try with_reducible rfl)
              try simp only [Act.put, List.setIfInBounds_toArray, List.set_cons_zero, List.set_cons_succ]
              refine wpAnyH_take (i := 8) (v := ?_) (by simp only [List.getElem?_toArray, List.getElem?_cons_succ, List.getElem?_cons_zero]; rfl) (by kernel_rfl) (by kernel_rfl) (by kernel_rfl) (fun _ _ _ h => h) (Or.inl ⟨by rfl, ?_⟩) (by assumption) ?_
              rotate_left 1
              · (intro w hSw; (try dsimp only at hSw); go_simp; try with_reducible rfl)
              try simp only [Act.put, List.setIfInBounds_toArray, List.set_cons_zero, List.set_cons_succ]
              refine wpAnyH_take (i := 10) (v := ?_) (by simp only [List.getElem?_toArray, List.getElem?_cons_succ, List.getElem?_cons_zero]; rfl) (by kernel_rfl) (by kernel_rfl) (by kernel_rfl) (fun _ _ _ h => h) (Or.inl ⟨by rfl, ?_⟩) (by assumption) ?_
              rotate_left 1
              · (intro w hSw; (try dsimp only at hSw); go_simp; try with_reducible rfl)
              try simp only [Act.put, List.setIfInBounds_toArray, List.set_cons_zero, List.set_cons_succ]
              refine region_rows (fuel := 2) (w0 := wa) (base := wa.heap.size) (stop := 11) (C := [⟨3, 114, [], [], RowF 5 wa.heap.size (u8s (tw e))⟩, ⟨6, 117, [], [], RowF 5 wa.heap.size (u8s (tw c))⟩, ⟨9, 120, [], [], BufF 5 wa.heap.size (u8s [b8 ((L : Nat) : Int)])⟩])
                (ok_of_cd (by kernel_rfl)) ?hok ?hst ?hS (Below.refl _ _) (Nat.le_refl _) ?hend
              case hok =>
                intro y hy
                simp only [List.mem_cons, List.not_mem_nil, or_false] at hy
                rcases hy with rfl | rfl | rfl
                · exact rowF_ok _ _ _ _ _ _ _
                · exact rowF_ok _ _ _ _ _ _ _
                · exact bufF_ok _ _ _ _ _ _ _
              case hS =>
                intro w' hb _
                exact CC.out w' (BD.out.trans (hb.mono ws.out))
              case hst =>
                intro y hy
                simp only [List.mem_cons, List.not_mem_nil, or_false] at hy
                rcases hy with rfl | rfl | rfl
                · exact step_two (by simp only [List.getElem?_toArray, List.getElem?_cons_succ, List.getElem?_cons_zero]; rfl) (by rfl) (by rfl) 113 (by rfl) (by intro z hz; simp only [List.mem_cons, List.not_mem_nil, or_false] at hz; rcases hz with rfl | rfl | rfl <;> simp) e (by rfl) rfl
                · exact step_two (by simp only [List.getElem?_toArray, List.getElem?_cons_succ, List.getElem?_cons_zero]; rfl) (by rfl) (by rfl) 116 (by rfl) (by intro z hz; simp only [List.mem_cons, List.not_mem_nil, or_false] at hz; rcases hz with rfl | rfl | rfl <;> simp) c (by rfl) rfl
                · exact step_by1 (by simp only [List.getElem?_toArray, List.getElem?_cons_succ, List.getElem?_cons_zero]; rfl) (by rfl) (by rfl) 119 (by rfl) (by intro z hz; simp only [List.mem_cons, List.not_mem_nil, or_false] at hz; rcases hz with rfl | rfl | rfl <;> simp) ((L : Nat) : Int) (by rfl) rfl
              case hend =>
                intro vals wb hb4 hs4 hF hap
                obtain ⟨A3, n3, k3, hv3, hl3, y3⟩ := by_row (hF ⟨3, 114, [], [], RowF 5 wa.heap.size (u8s (tw e))⟩ (by simp) (by simp))
                have y3 := hide y3
                obtain ⟨A6, n6, k6, hv6, hl6, y6⟩ := by_row (hF ⟨6, 117, [], [], RowF 5 wa.heap.size (u8s (tw c))⟩ (by simp) (by simp))
                have y6 := hide y6
                obtain ⟨A9, k9, hv9, y9⟩ := by_buf (hF ⟨9, 120, [], [], BufF 5 wa.heap.size (u8s [b8 ((L : Nat) : Int)])⟩ (by simp) (by simp))
                have y9 := hide y9
                clear hF hap
                simp only at hv3 hv6 hv9
                simp only [List.foldl_cons, List.foldl_nil, hv3, hv6, hv9]
                clear hv3 hv6 hv9
                rw [tw_len] at hl3
                subst hl3
                rw [tw_len] at hl6
                subst hl6
                simp only [Act.put, List.setIfInBounds_toArray, List.set_cons_zero, List.set_cons_succ, List.length_cons, List.length_nil, Nat.zero_add]
                have BB := hide (BD.out.trans (hb4.mono ws.out))
                have hH3 := CC.out _ BB.out
                clear hHeld hb4 hs4
                have hHeld := hH3
                clear hH3
                have CT := concat_as [⟨A, (16 * L), k, XS⟩, ⟨A3, 2, k3, tw e⟩, ⟨A6, 2, k6, tw c⟩, ⟨A9, 1, k9, [b8 ((L : Nat) : Int)]⟩, ⟨(some ⟨gw, X8, none⟩), 11, 11, ((Lw.drop X8).take 11)⟩] (16 * L + 16) 5 ((XS ++ (tw e ++ tw c ++ [b8 ((L : Nat) : Int)] ++ (Lw.drop X8).take 11))) wb 30 (by
                  intro r hr
                  simp only [List.mem_cons, List.not_mem_nil, or_false] at hr
                  rcases hr with rfl | rfl | rfl | rfl | rfl
                  · exact (own_bb I1.out.r BB.out).by
                  · exact y3.out
                  · exact y6.out
                  · exact y9.out
                  · exact by_cutS (own_bb I1.out.wd BB.out).by HX8.out.2
                  ) rfl (by decide) (by simp [rowsN]) ( by omega) (by simp [rowsL]) #[.slice A ((16 * L)) k, .slice A3 (2) k3, .slice A6 (2) k6, .slice A9 (1) k9, .slice (some ⟨gw, X8, none⟩) (11) 11] rfl
                replace CT := hide CT
                refine wpAnyH_ready (rs := [11]) (by kernel_rfl) (by simp) ?_
                refine AllReadyH.cons (by simp only [List.getElem?_toArray, List.getElem?_cons_succ, List.getElem?_cons_zero]; rfl) (fun K hK => ?_) ?_
                rotate_left 1
                · exact AllReadyH.nil
                go_simp
                refine hK.out _ _ ?_ (fun hHeld2 => ?_)
                · ((try dsimp only) <;> (exact CC.out _ (BB.out.alloc BB.out.size _)))
                clear hHeld
                have hHeld := hHeld2
                clear hHeld2 hK K
                try simp only [Act.put, List.setIfInBounds_toArray, List.set_cons_zero, List.set_cons_succ]
                refine wpAnyH_ready (rs := [12]) (by kernel_rfl) (by simp) ?_
                refine AllReadyH.cons (by simp only [List.getElem?_toArray, List.getElem?_cons_succ, List.getElem?_cons_zero]; rfl) (fun K hK => ?_) ?_
                rotate_left 1
                · exact AllReadyH.nil
                go_simp
                refine CT.out.mono ?_; rintro r wc ⟨Ac, kc, rfl, ho, hb⟩; have BA := hide (BB.out.trans (hb.mono BB.out.size)); have OC := hide ho; clear ho hb CT
                refine hK.out _ _ ?_ (fun hHeld2 => ?_)
                · ((try dsimp only) <;> (exact CC.out _ BA.out))
                clear hHeld
                have hHeld := hHeld2
                clear hHeld2 hK K
                try simp only [Act.put, List.setIfInBounds_toArray, List.set_cons_zero, List.set_cons_succ]
                have c14 := (I1.out.h14.below BA.out).cell 0
                have f14 := (I1.out.h14.below BA.out).frozen 0
                simp only [List.getElem?_toArray, List.getElem?_cons_zero] at c14
                refine wpAnyH_done (by kernel_rfl) ?_ _
                refine LastQ.step (by simp only [List.getElem?_toArray, List.getElem?_cons_succ, List.getElem?_cons_zero]; rfl) (by rfl) ?_
                go_simp
                clear hHeld CC y3 y6 y9 c14 f14
                have NX := SmI.next I1.out (show g14 < w7.heap.size by have := L4.out; omega) (show g2 ≠ g14 by have := L14.out; omega) L14.out.1 L14.out.2.1 BA.out (own_bq OC.out (Nat.le_trans I1.out.s BB.out.size))
                refine NoPanic.normal ?_
                have hl16 : 16 * (pre ++ [x8]).length = 16 * L + 16 := by rw [List.length_append, ← HL.out, List.length_singleton]; omega
                have hs := secsS_snoc e c Lw pre x8
                rw [← HL.out, ← HXS.out, ← HX8.out.1] at hs
                refine ⟨NX.2.1.from _, NX.2.2 [s4, s4 + 1] (by
                  intro g hg
                  have h1 := L4.out
                  have h2 := I1.out.s
                  simp only [List.mem_cons, List.not_mem_nil, or_false] at hg
                  omega), Ac, kc, ?_⟩
                rw [hl16, hs]
                exact NX.1
            case done =>
              rintro D ys W hD hys ⟨A, k, hI⟩ hK
              subst ha
              have hl8 : ys.length = 8 := by have := congrArg List.length hys; simpa using this
              rw [hl8, secsS_all hys] at hI
              have c14 := hI.h14.cell 0
              simp only [List.getElem?_toArray, List.getElem?_cons_zero] at c14
              go_wp2_with fail
              refine ⟨by simp, .inl ⟨_, _, rfl, run_takeDeferred hK, ?_⟩⟩
              have hw7 : w.heap.size ≤ w7.heap.size := by have := L4.out; have := L14.out; omega
              exact ⟨_, results_tmp2 rfl _ _ _, A, k, rfl, by rw [← HLWE.out]; exact own_bq (ownsRow_putObj hI.r _ hK rfl) hw7, hI.b.trans (belowK_b (w := w) (Nat.le_refl _) W D _ _ (Nat.le_trans hw7 hD) hK rfl rfl)⟩
            case stop =>
              rintro D c pre W _ _ h _
              exact h.elim
end Go.Proofs.YtbamdibpkkponaaDoor
