import Derived.Test.YtlobkefacnedeaaDoorJa07
import Derived.Test.YtlobkefacnedeaaDoorJa06
import Derived.Test.YtlobkefacnedeaaDoorJa09
import Derived.Test.YtlobkefacnedeaaDoorJa02
import Derived.BigQuiet
set_option linter.unusedVariables false
set_option linter.unusedSimpArgs false
/- For package seg: Encode and Decode of a summary, each in one word; steps of a law's disk. -/
namespace Go.Proofs.YtlobkefacnedeaaDoor
open Go.RowKit
set_option maxRecDepth 100000

def EncAns (v : PV) (s base : Nat) (r : Ending) (w' : World) : Prop :=
  (v.ck = 0 ∧ ∃ A k, r = .returned (.tuple #[.slice A 128 k, .int .i64 0]) ∧ OwnBy w' base A 128 k (v.enc s)) ∨ (v.ck ≠ 0 ∧ r = .returned (.tuple #[.slice none 0 0, .int .i64 v.ck]))
theorem enc_any (v : PV) (sum : Nat) (hsum : sum < 4294967296) (A1 A2 : Option Addr) (n1 c1 n2 c2 lo base lo2 base2 : Nat) (w : World) (sp : SpanAt w) (hf : FisAt lo base w A1 n1 v.fs) (hi : IntsAt lo2 base2 w A2 n2 v.is) (hn1 : n1 ≤ 1000) (hn2 : n2 ≤ 100000) (hls : lsN v.fs ≤ 100000)
    (h64 : ∀ f ∈ v.fs, ∀ x ∈ f.ls, I64 x) :
    Calls Tryd.prog 40 #[.agg (partC v.e v.c v.i v.p v.x A1 n1 c1 A2 n2 c2), .int .u32 (sum : Int)] w fun r w' => EncAns v sum w.heap.size r w' ∧ Below w.heap.size w w' := by
  by_cases h : v.ck = 0
  · refine (enc_good v.e v.c v.i v.p v.x sum hsum A1 A2 n1 c1 n2 c2 lo base lo2 base2 v.fs v.is w sp hf hi h64 h).mono ?_
    rintro r w' ⟨A, k, rfl, ho, hb⟩
    exact ⟨.inl ⟨h, A, k, rfl, ho⟩, hb⟩
  · refine (enc_bad v.e v.c v.i v.p v.x sum A1 A2 n1 c1 n2 c2 lo base lo2 base2 v.fs v.is w sp hf hi hn1 hn2 hls h64 h).mono ?_
    rintro r w' ⟨rfl, hb⟩
    exact ⟨.inr ⟨h, rfl⟩, hb⟩
theorem DecAns.of_enc {l : List UInt8} {v : PV} {s base : Nat} {r : Ending} {w' : World} (h : DecAns l base r w') (hE : IsEnc l v s) :
    ∃ B1 d1 B2 d2 cs, r = .returned (.tuple #[.agg (partC v.e v.c v.i v.p v.x B1 v.fs.length d1 B2 v.is.length d2), .int .u32 (s : Int), .int .i64 0]) ∧ ORow base w' B1 v.fs.length d1 cs v.fs ∧ w'.ownsRow base 3 1 (.slice B2 v.is.length d2) v.is.length (intC v.is) := by
  rcases h with ⟨v', s', hE', h⟩ | ⟨hn, -⟩
  · obtain ⟨rfl, rfl⟩ := enc_inj hE.1 hE'.1 hE.2.1 hE'.2.1 (hE.2.2.symm.trans hE'.2.2)
    exact h
  · exact absurd hE (hn v s)
theorem DecAns.of_no {l : List UInt8} {base : Nat} {r : Ending} {w' : World} (h : DecAns l base r w') (hE : ∀ v s, ¬ IsEnc l v s) : r = .returned (.tuple #[zeroPart, .int .u32 0, .int .i64 100]) := by
  rcases h with ⟨v', s', hE', -⟩ | ⟨-, h⟩
  · exact absurd hE' (hE v' s')
  · exact h
theorem lsN_all {fs : List FI} {M : Nat} (h : lsN fs ≤ M) : ∀ f ∈ fs, f.ls.length ≤ M := fun f hf => by
  obtain ⟨j, hj, e⟩ := List.getElem_of_mem hf
  have := lsN_mem (fs := fs) (j := j) (f := f) (by rw [List.getElem?_eq_getElem hj, e])
  omega
/-- What a good summary's lists may be. -/
theorem PV.bd {v : PV} (h : v.ck = 0) : v.fs.length ≤ 19 ∧ v.is.length ≤ 78 ∧ lsN v.fs ≤ 39 ∧ (∀ f ∈ v.fs, ∀ x ∈ f.ls, I64 x) := by
  obtain ⟨hg, hz⟩ := PV.gd h
  obtain ⟨h1, h2⟩ := szN_fs hz
  refine ⟨h1, h2, by unfold szN at hz; omega, fun f hf x hx => ?_⟩
  have := gdF_ls (hg.2.1 f hf) x hx
  unfold I64
  omega
/-- A write whose bytes lie at the head of a block that may be longer. -/
theorem ld_write3 {w0 w : World} {d : Nat} {D : Dsk} (h : LD w0 w d D) (i : Nat) (g c : Nat) (t : TypeId) (b : List UInt8) (cs : Array Value) (hi : i < D.sure.length) (hl : D.left ≠ 0) (hs : D.steps < 1000000) (hq : D.queue.length < 1000000) (hb : b.length = 64) (hc : 64 ≤ c) (hg : Blk w g t cs) (hcs : ∀ (j : Nat) (u : Value), (u8s b)[j]? = some u → cs[j]? = some u) (hgd : g ≠ d) :
    Calls Tryd.prog 66 #[.pointer (some ⟨d, 0, none⟩), .int .i64 (i : Int), .slice (some ⟨g, 0, none⟩) 64 c] w fun e w' => e = .returned (.int .i64 0) ∧ LD w0 w' d (D.wrote i b) ∧
      ∃ gs, Kp gs w w' ∧ ∀ k, Out w0 w d D k → k ∉ gs ∧ Out w0 w' d (D.wrote i b) k := by
  obtain ⟨s, v, hD⟩ := h.ex
  refine (write_ok w _ d s v D i ⟨g, 0, none⟩ c b hD hi hl hs hq hb hc (fun w' hk j u hu => by
    rw [Addr.add_mid, Nat.zero_add, (hg.kp hk (by simpa using hgd)).cell]
    exact hcs j u hu)).mono ?_
  rintro e w' ⟨rfl, v', hD', hk, hnew⟩
  refine ⟨rfl, ⟨⟨s, v', hD'⟩, ?_⟩, d :: v.ownBlock.toList, hk (d :: v.ownBlock.toList) (by simp) (fun g hg => by simp [hg]), fun k hn => ?_⟩
  · refine Below.kp2 h.bel (hk (d :: v.ownBlock.toList) (by simp) (fun g hg => by simp [hg])) h.bel.size (fun g hg => ?_)
    rcases List.mem_cons.1 hg with rfl | hg
    · exact hD.db
    · exact (dsk_own hD (by simpa using hg)).1
  · obtain ⟨hkl, s2, v2, hD2, n1, n2, n3⟩ := hn
    obtain ⟨rfl, rfl⟩ := dsk_same hD hD2
    have hK := hk (d :: v.ownBlock.toList) (by simp) (fun g hg => by simp [hg])
    refine ⟨?_, Nat.lt_of_lt_of_le hkl hK.size, s, v', hD', n1, n2, ?_⟩
    · intro hm
      rcases List.mem_cons.1 hm with rfl | hm
      · exact n1 rfl
      · exact n3 (by simpa using hm)
    · intro e
      rcases hnew k e with h | h
      · exact n3 h
      · omega
/-- Of a row of the call's own that holds 64 bytes: its block. -/
theorem own64 {w : World} {base n k : Nat} {A : Option Addr} {l : List UInt8} (h : w.ownsRow base 5 1 (.slice A n k) n (u8s l)) (hn : 0 < n) (hl : l.length = n) : ∃ g cs, A = some ⟨g, 0, none⟩ ∧ base ≤ g ∧ g < w.heap.size ∧ n ≤ k ∧ Blk w g 5 cs ∧ ∀ (j : Nat) (u : Value), (u8s l)[j]? = some u → cs[j]? = some u := by
  rcases h.2 with ⟨-, h0⟩ | ⟨g, cap, cur, hv, hb, hB, hc, -, -, hx⟩
  · omega
  · simp only [Value.slice.injEq] at hv
    obtain ⟨rfl, -, rfl⟩ := hv
    refine ⟨g, cur, rfl, hb, (Array.getElem?_eq_some_iff.1 hB).1, hc, hB, fun j u hj => ?_⟩
    rw [← hx, List.getElem?_take] at hj
    split at hj
    · simpa using hj
    · cases hj

/-- Steps of a law's disk: it reads D', and no block that is none of its own has changed. -/
structure Stp (w0 w w' : World) (d : Nat) (D D' : Dsk) : Prop where
  ld : LD w0 w' d D'
  kp : ∃ gs, Kp gs w w' ∧ ∀ k, Out w0 w d D k → k ∉ gs ∧ Out w0 w' d D' k
section
variable {w0 w w1 w2 : World} {d : Nat} {D D1 D2 : Dsk}
theorem Stp.trans (h : Stp w0 w w1 d D D1) (k : Stp w0 w1 w2 d D1 D2) : Stp w0 w w2 d D D2 := by
  obtain ⟨gs, h1, h2⟩ := h.kp
  obtain ⟨gs', k1, k2⟩ := k.kp
  refine ⟨k.ld, gs ++ gs', (h1.more (fun g hg => List.mem_append_left _ hg)).trans (k1.more (fun g hg => List.mem_append_right _ hg)), fun b hb => ?_⟩
  obtain ⟨a1, a2⟩ := h2 b hb
  obtain ⟨b1, b2⟩ := k2 b a2
  exact ⟨by simp [a1, b1], b2⟩
theorem Stp.of_below (h : LD w0 w d D) (hb : Below w.heap.size w w1) : Stp w0 w w1 d D D := ⟨h.below hb, [], Kp.of_below hb, fun k hk => ⟨by simp, hk.below hb⟩⟩
theorem Stp.refl (h : LD w0 w d D) : Stp w0 w w d D D := Stp.of_below h (Below.refl _ _)
theorem Stp.below (h : Stp w0 w w1 d D D1) (hb : Below w1.heap.size w1 w2) : Stp w0 w w2 d D D1 := h.trans (Stp.of_below h.ld hb)
theorem Stp.blk (h : Stp w0 w w1 d D D1) {g : Nat} {t : TypeId} {cs : Array Value} (hB : Blk w g t cs) (ho : Out w0 w d D g) : Blk w1 g t cs := by
  obtain ⟨gs, h1, h2⟩ := h.kp
  exact hB.kp h1 (h2 g ho).1
theorem Stp.out (h : Stp w0 w w1 d D D1) {g : Nat} (ho : Out w0 w d D g) : Out w0 w1 d D1 g := by
  obtain ⟨gs, h1, h2⟩ := h.kp
  exact (h2 g ho).2
theorem Stp.size (h : Stp w0 w w1 d D D1) : w.heap.size ≤ w1.heap.size := by
  obtain ⟨gs, h1, h2⟩ := h.kp
  exact h1.size
end

end Go.Proofs.YtlobkefacnedeaaDoor

/- Partial segments on a disk, in plain lists; what stays while a law's disk steps. -/
namespace Go.Proofs.YtlobkefacnedeaaDoor
open Go.RowKit
set_option maxRecDepth 100000

theorem stp_kt {w0 w w' : World} {d : Nat} {D D' : Dsk} (h : LD w0 w d D) (k : Stp w0 w w' d D D') : Kt [96, 122, 124] w0.heap.size w w' := by
  obtain ⟨gs, h1, h2⟩ := k.kp
  refine ⟨h1.os, h1.tape, h1.output, h1.size, fun g hg hn => ?_⟩
  rcases hn with hn | ⟨t, cs, hB, ht⟩
  · exact (k.ld.bel.block g hn).trans (h.bel.block g hn).symm
  · simp only [List.mem_cons, List.not_mem_nil, or_false, not_or] at ht
    exact h1.block g hg (h2 g (out_typeO h hB ⟨ht.1, ht.2.1, ht.2.2⟩)).1
/-- A [][]byte that reads so. -/
def BsAt (base : Nat) (w : World) (A : Option Addr) (m : Nat) (bs : List (List UInt8)) : Prop :=
  ∃ cs : List Value, cs.length = m ∧ bs.length = m ∧ RwAt 0 base 26 1 w A m cs ∧ ∀ (j : Nat) (x : Value) (b : List UInt8), cs[j]? = some x → bs[j]? = some b → ∃ B c, x = .slice B b.length c ∧ b.length ≤ c ∧ ByT 0 base w B b.length b
theorem BsAt.kt {base m : Nat} {w w' : World} {A : Option Addr} {bs : List (List UInt8)} {T : List TypeId} (h : BsAt base w A m bs) (hk : Kt T base w w') (h1 : 26 ∉ T) (h2 : 5 ∉ T) : BsAt base w' A m bs := by
  obtain ⟨cs, e1, e2, hr, hb⟩ := h
  refine ⟨cs, e1, e2, hr.kt hk h1, fun j x b hx hbj => ?_⟩
  obtain ⟨B, c, e, hc, hB⟩ := hb j x b hx hbj
  exact ⟨B, c, e, hc, RwAt.kt hB hk h2⟩
theorem BsAt.below {base m : Nat} {w w' : World} {A : Option Addr} {bs : List (List UInt8)} (h : BsAt base w A m bs) (hb : Below w.heap.size w w') : BsAt base w' A m bs := h.kt (T := []) (Kt.of_below hb) (by simp) (by simp)
theorem BsAt.len {base m : Nat} {w : World} {A : Option Addr} {bs : List (List UInt8)} (h : BsAt base w A m bs) : bs.length = m := by
  obtain ⟨cs, e1, e2, -⟩ := h
  exact e2
theorem BsAt.at {base m j : Nat} {w : World} {A : Option Addr} {bs : List (List UInt8)} (h : BsAt base w A m bs) (hj : j < m) : ∃ b off B c l, A = some ⟨b, off, none⟩ ∧ w.cell? ⟨b, off + j, none⟩ = some (.slice B l.length c) ∧ bs[j]? = some l ∧ l.length ≤ c ∧ ByT 0 base w B l.length l := by
  obtain ⟨cs, e1, e2, hr, hb⟩ := h
  obtain ⟨b, off, hA, -, hc⟩ := hr.at (by omega) (by decide)
  have hx : cs[j]? = some (cs[j]'(by omega)) := List.getElem?_eq_getElem _
  have hl : bs[j]? = some (bs[j]'(by omega)) := List.getElem?_eq_getElem _
  obtain ⟨B, c, e, h1, h2⟩ := hb j _ _ hx hl
  refine ⟨b, off, B, c, _, hA, ?_, hl, h1, h2⟩
  rw [hc j _ hx, e]
/-- A write of bytes that lie anywhere. -/
theorem ld_write4 {w0 w : World} {d : Nat} {D : Dsk} (h : LD w0 w d D) (i : Nat) (B : Option Addr) (c : Nat) (b : List UInt8) (hi : i < D.sure.length) (hl : D.left ≠ 0) (hs : D.steps < 1000000) (hq : D.queue.length < 1000000) (hb : b.length = 64) (hc : 64 ≤ c) (hby : ByT 0 w0.heap.size w B 64 b) :
    Calls Tryd.prog 66 #[.pointer (some ⟨d, 0, none⟩), .int .i64 (i : Int), .slice B 64 c] w fun e w' => e = .returned (.int .i64 0) ∧ Stp w0 w w' d D (D.wrote i b) := by
  obtain ⟨s, v, hD⟩ := h.ex
  obtain ⟨g, off, rfl, hF, hcell⟩ := hby.at (by decide) (by decide)
  refine (write_ok w _ d s v D i ⟨g, off, none⟩ c b hD hi hl hs hq hb hc (fun w' hk j u hu => ?_)).mono ?_
  · rw [Addr.add_mid, ← hcell j u hu]
    refine cell_same (hk.block g hF.2.1 ?_)
    simp only [List.mem_singleton]
    rintro rfl
    rcases hF.2.2 with h1 | ⟨cs, h1⟩
    · have := hD.db; omega
    · exact absurd (Blk.type h1 hD.hd).1 (by decide)
  rintro e w' ⟨rfl, v', hD', hk, hnew⟩
  have hK := hk (d :: v.ownBlock.toList) (by simp) (fun g hg => by simp [hg])
  refine ⟨rfl, ⟨⟨s, v', hD'⟩, ?_⟩, d :: v.ownBlock.toList, hK, fun k hn => ?_⟩
  · refine Below.kp2 h.bel hK h.bel.size (fun g hg => ?_)
    rcases List.mem_cons.1 hg with rfl | hg
    · exact hD.db
    · exact (dsk_own hD (by simpa using hg)).1
  · obtain ⟨hkl, s2, v2, hD2, n1, n2, n3⟩ := hn
    obtain ⟨rfl, rfl⟩ := dsk_same hD hD2
    refine ⟨?_, Nat.lt_of_lt_of_le hkl hK.size, s, v', hD', n1, n2, ?_⟩
    · intro hm
      rcases List.mem_cons.1 hm with rfl | hm
      · exact n1 rfl
      · exact n3 (by simpa using hm)
    · intro e
      rcases hnew k e with h | h
      · exact n3 h
      · omega
theorem ld_barr {w0 w : World} {d : Nat} {D : Dsk} (h : LD w0 w d D) (hl : D.left ≠ 0) (hs : D.steps < 1000000) :
    Calls Tryd.prog 42 #[.pointer (some ⟨d, 0, none⟩)] w fun e w' => e = .returned (.int .i64 0) ∧ Stp w0 w w' d D D.barred :=
  (ld_barrier h hl hs).mono fun _ _ ⟨h1, h2, h3⟩ => ⟨h1, h2, h3⟩
/-- Writes one behind the other. -/
def putS : Dsk → Nat → List (List UInt8) → Int × Dsk
  | D, _, [] => (0, D)
  | D, i, b :: bs => if D.left = 0 then (102, D) else putS (D.wrote i b) (i + 1) bs
def barS (D : Dsk) : Int × Dsk := if D.left = 0 then (102, D) else (0, D.barred)
def andS (r : Int × Dsk) (f : Dsk → Int × Dsk) : Int × Dsk := if r.1 = 0 then f r.2 else r
def clrS (D : Dsk) (a : Int) : Int × Dsk :=
  if a < 0 ∨ (D.sure.length : Int) - 2 < a then (22, D) else andS (putS D a.toNat [zero64, zero64]) barS
/-- How many blocks a partial segment has. -/
def PV.n (v : PV) : Nat := 2 + v.is.length + lsN v.fs
/-- May it stand there? -/
def fitS (D : Dsk) (a : Int) (v : PV) (m : Nat) : Prop :=
  ((m : Int) = (v.n : Int) - 2 ∧ 0 ≤ a ∧ a ≤ (D.sure.length : Int) - v.n ∧ v.x ≤ (D.sure.length : Int) - 2) ∧ ¬ (v.x < a + v.n ∧ a < v.x + 2)
instance (D : Dsk) (a : Int) (v : PV) (m : Nat) : Decidable (fitS D a v m) := by unfold fitS; infer_instance
def wrS (D : Dsk) (a : Int) (v : PV) (bs : List (List UInt8)) : Int × Dsk :=
  if v.ck ≠ 0 then (v.ck, D)
  else if ¬ fitS D a v bs.length then (22, D)
  else if bs.any (fun b => b.length ≠ 64) then (22, D)
  else andS (putS D (a.toNat + 2) bs) fun D => andS (clrS D v.x) fun D => andS (putS D a.toNat [(v.enc (crc bs.flatten)).take 64, (v.enc (crc bs.flatten)).drop 64]) barS
theorem wrote_len (D : Dsk) (i : Nat) (b : List UInt8) : (D.wrote i b).sure.length = D.sure.length := rfl
theorem putS_len : ∀ (bs : List (List UInt8)) (D : Dsk) (i : Nat), (putS D i bs).2.sure.length = D.sure.length
  | [], _, _ => rfl
  | b :: bs, D, i => by
    unfold putS
    split
    · rfl
    · rw [putS_len bs]; rfl
theorem putS_bd : ∀ (bs : List (List UInt8)) (D : Dsk) (i : Nat), (putS D i bs).2.steps ≤ D.steps + bs.length ∧ (putS D i bs).2.queue.length ≤ D.queue.length + bs.length
  | [], D, _ => ⟨Nat.le_refl _, Nat.le_refl _⟩
  | b :: bs, D, i => by
    unfold putS
    split
    · exact ⟨by show D.steps ≤ _; omega, by show D.queue.length ≤ _; omega⟩
    · obtain ⟨h1, h2⟩ := putS_bd bs (D.wrote i b) (i + 1)
      have e1 : (D.wrote i b).steps = D.steps + 1 := rfl
      have e2 : (D.wrote i b).queue.length = D.queue.length + 1 := by show (D.queue ++ [_]).length = _; simp
      rw [List.length_cons]
      omega
theorem barS_len (D : Dsk) : (barS D).2.sure.length = D.sure.length := by
  unfold barS
  split
  · rfl
  · show (putQ _ _).length = _
    rw [putQ_len]
theorem barS_bd (D : Dsk) : (barS D).2.steps ≤ D.steps + 1 ∧ (barS D).2.queue.length ≤ D.queue.length := by
  unfold barS
  split
  · exact ⟨by show D.steps ≤ _; omega, Nat.le_refl _⟩
  · exact ⟨Nat.le_refl _, Nat.zero_le _⟩
theorem clrS_len (D : Dsk) (a : Int) : (clrS D a).2.sure.length = D.sure.length := by
  unfold clrS andS
  split
  · rfl
  · split
    · rw [barS_len, putS_len]
    · rw [putS_len]
theorem clrS_bd (D : Dsk) (a : Int) : (clrS D a).2.steps ≤ D.steps + 3 ∧ (clrS D a).2.queue.length ≤ D.queue.length + 2 := by
  unfold clrS andS
  split
  · exact ⟨by show D.steps ≤ _; omega, by show D.queue.length ≤ _; omega⟩
  · have h := putS_bd [zero64, zero64] D a.toNat
    have h2 := barS_bd (putS D a.toNat [zero64, zero64]).2
    simp only [List.length_cons, List.length_nil] at h
    split <;> omega
end Go.Proofs.YtlobkefacnedeaaDoor

/- The walk of seg.put. -/
namespace Go.Proofs.YtlobkefacnedeaaDoor
open Go.RowKit
set_option maxRecDepth 100000
attribute [local go_sem ↓] Go.wp_at_zero Go.wp_at_succ

theorem drop_at {bs : List (List UInt8)} {k : Nat} {l : List UInt8} (h : bs[k]? = some l) : bs.drop k = l :: bs.drop (k + 1) := by
  obtain ⟨hk, e⟩ := List.getElem?_eq_some_iff.1 h
  rw [List.drop_eq_getElem_cons hk, e]
theorem putS_dead {D : Dsk} {i : Nat} {b : List UInt8} {bs : List (List UInt8)} (h : D.left = 0) : putS D i (b :: bs) = (102, D) := by unfold putS; rw [if_pos h]
theorem putS_go {D : Dsk} {i : Nat} {b : List UInt8} {bs : List (List UInt8)} (h : D.left ≠ 0) : putS D i (b :: bs) = putS (D.wrote i b) (i + 1) bs := by
  conv => lhs; unfold putS
  rw [if_neg h]
set_option maxHeartbeats 2000000 in
theorem put_any (w0 w : World) (d : Nat) (D : Dsk) (h : LD w0 w d D) (a : Nat) (A : Option Addr) (m c : Nat) (bs : List (List UInt8)) (hb : BsAt w0.heap.size w A m bs) (h64 : ∀ b ∈ bs, b.length = 64) (hr : a + m ≤ D.sure.length) (hs : D.steps + m ≤ 900000) (hq : D.queue.length + m ≤ 900000) :
    Calls Tryd.prog 39 #[.pointer (some ⟨d, 0, none⟩), .int .i64 (a : Int), .slice A m c] w fun r w' => r = .returned (.int .i64 (putS D a bs).1) ∧ Stp w0 w w' d D (putS D a bs).2 := by
  have H := hide h
  have HB := hide hb
  have HL := hide (And.intro h64 hb.len)
  have hN := h.ok.n
  have hm : a + m ≤ 4096 := by omega
  have HR := hide hr
  have HSQ := hide (And.intro hs hq)
  clear h hb h64 hN hr hs hq
  obtain ⟨R, hR⟩ : ∃ R, R = putS D a bs := ⟨_, rfl⟩
  have HP := hide hR
  rw [← hR]
  clear hR
  go_enter Tryd.func39, Tryd.ntmps39
  go_wp2_with fail
  go_loopw [12] (fun y wr => ∃ (k : Nat) (E : Dsk), k ≤ m ∧ y = .int .i64 (k : Int) ∧ Stp w0 w wr d D E ∧ R = putS E (a + k) (bs.drop k) ∧ E.steps ≤ D.steps + k ∧ E.queue.length ≤ D.queue.length + k ∧ E.sure.length = D.sure.length) (fun y _ => m - (intOf y).toNat)
  case atStart => exact ⟨0, D, Nat.zero_le _, rfl, Stp.refl H.out, by rw [HP.out]; rfl, Nat.le_refl _, Nat.le_refl _, rfl⟩
  case round =>
    obtain ⟨k, E, hk, rfl, hst, hE, hE1, hE2, hE3⟩ := hrel
    have ST := hide hst
    have HE := hide hE
    have HF := hide (And.intro hE1 (And.intro hE2 hE3))
    clear hst hE hE1 hE2 hE3
    by_cases hlt : k < m
    · obtain ⟨b, off, B, cB, l, hA, hc, hl, hlc, hB⟩ := (HB.out.kt (stp_kt H.out ST.out) (by decide) (by decide)).at hlt
      have hl64 := HL.out.1 l (List.mem_of_getElem? hl)
      subst hA
      rw [hl64] at hc hlc hB
      have HBY := hide hB
      have HDR := hide (drop_at hl)
      clear hB hl hl64
      have hks : (k : Int) < (m : Int) := by omega
      have hak : IntKind.i64.wrap ((a : Int) + (k : Int)) = (a : Int) + (k : Int) := by rw [IntKind.wrap_i64]; omega
      by_cases hleft : E.left = 0
      · have HP2 := hide (show R = (102, E) by rw [HE.out, HDR.out, putS_dead hleft])
        have CW := hide (ld_write_dead ST.out.ld (a + k) B cB (by have := HF.out; have := HR.out; omega) hleft)
        rw [Int.natCast_add] at CW
        go_wp2_with fail
        refine CW.out.mono ?_
        rintro r w5 ⟨rfl, rfl⟩
        go_wp2_with fail
        go_ret
        rw [HP2.out]
        exact ⟨rfl, ST.out⟩
      · have HP2 := hide (show R = putS (E.wrote (a + k) l) (a + (k + 1)) (bs.drop (k + 1)) by rw [HE.out, HDR.out, putS_go hleft]; rfl)
        have CW := hide (ld_write4 ST.out.ld (a + k) B cB l (by have := HF.out; have := HR.out; omega) hleft (by have := HF.out; have := HSQ.out; omega) (by have := HF.out; have := HSQ.out; omega) (ByT.len HBY.out) hlc HBY.out)
        rw [Int.natCast_add] at CW
        go_wp2_with fail
        refine CW.out.mono ?_
        rintro r w5 ⟨rfl, hst⟩
        have ST2 := hide (ST.out.trans hst)
        clear hst
        go_wp2_with fail
        go_roundw
        case rel =>
          refine ⟨k + 1, _, by omega, by go_num, ST2.out, HP2.out, ?_, ?_, ?_⟩
          · have := HF.out.1; show E.steps + 1 ≤ _; omega
          · have := HF.out.2.1; show (E.queue ++ [_]).length ≤ _; simp; omega
          · exact HF.out.2.2
        case measure => simp [intOf]; omega
    · have hks : ¬ (k : Int) < (m : Int) := by omega
      have HP2 := hide (show R = (0, E) by rw [HE.out, List.drop_of_length_le (by rw [HL.out.2]; omega)]; rfl)
      go_wp2_with fail
      go_ret
      rw [HP2.out]
      exact ⟨rfl, ST.out⟩
end Go.Proofs.YtlobkefacnedeaaDoor

/- The walk of seg.Clear. -/
namespace Go.Proofs.YtlobkefacnedeaaDoor
open Go.RowKit
set_option maxRecDepth 100000
attribute [local go_sem ↓] Go.wp_at_zero Go.wp_at_succ

/-- 64 zeros of the call's own. -/
def Z64 (base : Nat) (v : Value) (w : World) : Prop := ∃ g, v = .slice (some ⟨g, 0, none⟩) 64 64 ∧ base ≤ g ∧ Blk w g 5 (u8s zero64).toArray
theorem z64_ok (i d : Nat) (eat reads : List Nat) (base : Nat) : CO.Ok ⟨i, d, eat, reads, Z64 base⟩ base :=
  ⟨fun v w w' r ⟨g, hv, hb, h⟩ hg hn => ⟨g, hv, hb, blk_gr h hg (by subst hv; exact hn g (by simp [vbs, vb1]))⟩,
   fun v w ⟨g, hv, hb, h⟩ g' hg => by subst hv; simp [vbs, vb1] at hg; subst hg; exact ⟨hb, h.lt⟩⟩
theorem mk_64s (w : World) : (Instr.makeSlice 26 (.int .i64 64) (.int .i64 64)).run Tryd.prog w = .ok (.slice (some ⟨w.heap.size, 0, none⟩) 64 64) (w.alloc (.cells (u8s zero64).toArray 5)) := by
  have := run_mks (P := Tryd.prog) (t := 26) (k := 1) (bytes := 1) (z := .int .u8 0) Tryd.underlying26 (by kernel_rfl) .i64 .i64 64 (by omega) (by omega) w
  rw [show madeCells (Value.int .u8 0).cells (64 * 1) = (u8s zero64).toArray by kernel_rfl] at this
  exact this
theorem step_mk64 {ops : Array Oper} {Q : Exit → Act → World → Prop} {C : List CO} {w0 : World} {base : Nat} {a0 : Act} {x : CO} {o : Oper} (ho : ops[x.i]? = some o) (hg : o.guard = none) (hd : o.dst = some x.d) (hop : o.op = .makeSlice 26 (.const (.int .i64 64)) (.const (.int .i64 64))) (hF : x.F = Z64 base) : x.Step Tryd.prog ops Q C w0 base a0 := by
  refine CO.step_run ho hg hd fun a w e1 e2 e3 e4 e5 => ?_
  refine ⟨_, _, none, by simp [execOp, hop, mk_64s, Act.eval]; exact ⟨rfl, rfl⟩, ?_, World.grownBy_alloc w _ none, by simp, fun g hg => .inl ?_⟩
  · rw [hF]; exact ⟨_, rfl, e2, Blk.new _ _ _⟩
  · simp [vbs, vb1] at hg; omega
theorem byT_blk {w : World} {g base : Nat} {l : List UInt8} {n : Nat} (h : Blk w g 5 (u8s l).toArray) (hn : l.length = n) : ByT 0 base w (some ⟨g, 0, none⟩) n l :=
  ⟨by rw [u8s_length]; omega, fun j u hu => ⟨g, 0, rfl, ⟨Nat.zero_le _, h.lt, .inr ⟨_, h⟩⟩, by rw [Nat.zero_add, h.cell]; simpa using hu⟩⟩
/-- Two rows that the text writes out. -/
theorem bs_two {w : World} {base : Nat} {B1 B2 : Option Addr} {c1 c2 n1 n2 : Nat} {l1 l2 : List UInt8} (h1 : ByT 0 base w B1 n1 l1) (h2 : ByT 0 base w B2 n2 l2) (e1 : n1 ≤ c1) (e2 : n2 ≤ c2) :
    BsAt base (w.alloc (.cells #[.slice B1 n1 c1, .slice B2 n2 c2] 26)) (some ⟨w.heap.size, 0, none⟩) 2 [l1, l2] := by
  have hB := Blk.new w 26 #[.slice B1 n1 c1, .slice B2 n2 c2]
  have hb : Below w.heap.size w (w.alloc (.cells #[.slice B1 n1 c1, .slice B2 n2 c2] 26)) := (Below.refl _ _).alloc (Nat.le_refl _) _
  refine ⟨[.slice B1 n1 c1, .slice B2 n2 c2], rfl, rfl, ⟨rfl, fun j u hu => ⟨_, 0, rfl, ⟨Nat.zero_le _, hB.lt, .inr ⟨_, hB⟩⟩, by rw [Nat.zero_add, hB.cell]; simpa using hu⟩⟩, fun j x b hx hb' => ?_⟩
  have l1' := ByT.len h1
  have l2' := ByT.len h2
  match j with
  | 0 =>
    simp only [List.getElem?_cons_zero, Option.some.injEq] at hx hb'
    subst hx hb'
    exact ⟨B1, c1, by rw [l1'], by rw [l1']; exact e1, by rw [l1']; exact RwAt.below h1 hb⟩
  | 1 =>
    simp only [List.getElem?_cons_succ, List.getElem?_cons_zero, Option.some.injEq] at hx hb'
    subst hx hb'
    exact ⟨B2, c2, by rw [l2'], by rw [l2']; exact e2, by rw [l2']; exact RwAt.below h2 hb⟩
  | j + 2 => simp at hx
theorem bar_any {w0 w : World} {d : Nat} {D : Dsk} (h : LD w0 w d D) (hs : D.steps < 1000000) :
    Calls Tryd.prog 42 #[.pointer (some ⟨d, 0, none⟩)] w fun e w' => e = .returned (.int .i64 (barS D).1) ∧ Stp w0 w w' d D (barS D).2 := by
  unfold barS
  by_cases hl : D.left = 0
  · rw [if_pos hl]
    exact (ld_barrier_dead h hl).mono fun _ _ ⟨h1, h2⟩ => ⟨h1, h2 ▸ Stp.refl h⟩
  · rw [if_neg hl]
    exact ld_barr h hl hs
set_option maxHeartbeats 2000000 in
theorem clear_any (w0 w : World) (d : Nat) (D : Dsk) (h : LD w0 w d D) (a : Int) (hs : D.steps ≤ 800000) (hq : D.queue.length ≤ 800000) :
    Calls Tryd.prog 22 #[.pointer (some ⟨d, 0, none⟩), .int .i64 a] w fun r w' => r = .returned (.int .i64 (clrS D a).1) ∧ Stp w0 w w' d D (clrS D a).2 := by
  have H := hide h
  have HQ := hide (And.intro hs hq)
  obtain ⟨N, hN⟩ : ∃ N, N = D.sure.length := ⟨_, rfl⟩
  have HN := hide (show N = D.sure.length ∧ N ≤ 4096 from ⟨hN, by have := h.ok.n; omega⟩)
  have hN4 : N ≤ 4096 := HN.out.2
  have CS := ld_size h
  rw [← hN] at CS
  have CS := hide CS
  clear h hs hq hN
  have h64 : IntKind.i64.wrap ((N : Int) - 2) = (N : Int) - 2 := by rw [IntKind.wrap_i64]; omega
  obtain ⟨R, hR⟩ : ∃ R, R = clrS D a := ⟨_, rfl⟩
  have HR := hide hR
  rw [← hR]
  clear hR
  go_enter Tryd.func22, Tryd.ntmps22
  by_cases h0 : a < 0
  · have HP := hide (show R = (22, D) by rw [HR.out]; unfold clrS; rw [if_pos (.inl h0)])
    go_wp2_with fail
    go_ret
    rw [HP.out]
    exact ⟨rfl, Stp.refl H.out⟩
  go_wp2_with fail
  refine CS.out.mono ?_
  rintro r w1 ⟨rfl, rfl⟩
  by_cases h1 : (N : Int) - 2 < a
  · have HP := hide (show R = (22, D) by rw [HR.out]; unfold clrS; rw [if_pos (.inr (by rw [← HN.out.1]; exact h1))])
    go_wp2_with fail
    go_ret
    rw [HP.out]
    exact ⟨rfl, Stp.refl H.out⟩
  have HP := hide (show R = andS (putS D a.toNat [zero64, zero64]) barS by rw [HR.out]; unfold clrS; rw [if_neg (by rw [← HN.out.1]; omega)])
  obtain ⟨k, rfl⟩ : ∃ k : Nat, a = (k : Int) := ⟨a.toNat, by omega⟩
  rw [Int.toNat_natCast] at HP
  have HK := hide (show k + 2 ≤ D.sure.length by rw [← HN.out.1]; omega)
  clear h0 CS
  go_upto_region 3 with fail
  clear h1
  refine wp_region_noPanic ?_
  refine wp_region_held_drew (S := (fun _ => True)) (by kernel_rfl) ?_ (fun hHeld => ?_)
  · ((try dsimp only) <;> (first | trivial | assumption | go_keep))
  have BD := hide ((Below.refl w.heap.size w).drew)
  generalize w.drew = wa at *
  refine tk 0 ?_
  refine tk 1 ?_
  refine region_rows (fuel := 3) (w0 := wa) (base := wa.heap.size) (stop := 4) (C := [⟨2, 17, [], [], Z64 wa.heap.size⟩, ⟨3, 18, [], [], Z64 wa.heap.size⟩]) (ok_of_cd (by kernel_rfl)) ?hok ?hst ?hS (Below.refl _ _) (Nat.le_refl _) ?hend
  case hok =>
    intro y hy
    simp only [List.mem_cons, List.not_mem_nil, or_false] at hy
    rcases hy with rfl | rfl
    · exact z64_ok _ _ _ _ _
    · exact z64_ok _ _ _ _ _
  case hS =>
    intro w' hb _
    trivial
  case hst =>
    intro y hy
    simp only [List.mem_cons, List.not_mem_nil, or_false] at hy
    rcases hy with rfl | rfl
    · exact step_mk64 (by simp only [List.getElem?_toArray, List.getElem?_cons_succ, List.getElem?_cons_zero]; rfl) (by rfl) (by rfl) (by rfl) rfl
    · exact step_mk64 (by simp only [List.getElem?_toArray, List.getElem?_cons_succ, List.getElem?_cons_zero]; rfl) (by rfl) (by rfl) (by rfl) rfl
  case hend =>
    intro vals wb hb4 hs4 hF hap
    obtain ⟨g1, hv1, -, y1⟩ := hF ⟨2, 17, [], [], Z64 wa.heap.size⟩ (by simp) (by simp)
    obtain ⟨g2, hv2, -, y2⟩ := hF ⟨3, 18, [], [], Z64 wa.heap.size⟩ (by simp) (by simp)
    have Y1 := hide y1
    have Y2 := hide y2
    clear hF hap y1 y2
    simp only at hv1 hv2
    simp only [List.foldl_cons, List.foldl_nil, hv1, hv2]
    clear hv1 hv2
    simp only [Act.put, List.setIfInBounds_toArray, List.set_cons_zero, List.set_cons_succ, List.length_cons, List.length_nil, Nat.zero_add, Nat.reduceAdd]
    have hw : wa.heap.size = w.heap.size ∨ True := .inr trivial
    have BB := hide (BD.out.trans (hb4.mono BD.out.size))
    clear hHeld hb4 hs4 hw
    have hHeld : True := trivial
    refine wpAnyH_ready (rs := [4]) (by kernel_rfl) (by simp) ?_
    refine AllReadyH.cons (by simp only [List.getElem?_toArray, List.getElem?_cons_succ, List.getElem?_cons_zero]; rfl) (fun K hK => ?_) ?_
    rotate_left 1
    · exact AllReadyH.nil
    go_simp
    refine hK.out _ _ ?_ (fun hHeld2 => ?_)
    · ((try dsimp only) <;> (first | trivial | assumption | go_keep))
    clear hHeld
    have hHeld := hHeld2
    clear hHeld2 hK K
    try simp only [Act.put, List.setIfInBounds_toArray, List.set_cons_zero, List.set_cons_succ]
    have BA := hide (BB.out.alloc BB.out.size (.cells #[.slice (some ⟨g1, 0, none⟩) 64 64, .slice (some ⟨g2, 0, none⟩) 64 64] 26))
    have PC := hide (put_any w0 _ d D (H.out.below BA.out) k _ 2 2 [zero64, zero64] (bs_two (base := w0.heap.size) (byT_blk Y1.out rfl) (byT_blk Y2.out rfl) (Nat.le_refl _) (Nat.le_refl _)) (by intro b hb; simp only [List.mem_cons, List.not_mem_nil, or_false, or_self] at hb; subst hb; rfl) HK.out (by have := HQ.out; omega) (by have := HQ.out; omega))
    obtain ⟨P, hP⟩ : ∃ P, P = putS D k [zero64, zero64] := ⟨_, rfl⟩
    have PB := hide (show P.2.steps ≤ D.steps + 2 by rw [hP]; exact (putS_bd _ _ _).1)
    rw [← hP] at PC HP
    clear hP
    refine wpAnyH_ready (rs := [5]) (by kernel_rfl) (by simp) ?_
    refine AllReadyH.cons (by simp only [List.getElem?_toArray, List.getElem?_cons_succ, List.getElem?_cons_zero]; rfl) (fun K hK => ?_) ?_
    rotate_left 1
    · exact AllReadyH.nil
    go_simp
    refine PC.out.mono ?_; rintro r w5 ⟨rfl, hst⟩; have ST := hide ((Stp.of_below H.out BA.out).trans hst); clear hst
    refine hK.out _ _ ?_ (fun hHeld2 => ?_)
    · ((try dsimp only) <;> (first | trivial | assumption | go_keep))
    clear hHeld
    have hHeld := hHeld2
    clear hHeld2 hK K
    try simp only [Act.put, List.setIfInBounds_toArray, List.set_cons_zero, List.set_cons_succ]
    refine tk 6 ?_
    refine wpAnyH_done (by kernel_rfl) ?_ _
    refine NoPanic.normal ?_
    clear hHeld PC BA BB Y1 Y2
    obtain ⟨pc, E⟩ := P
    dsimp only at PB ST ⊢
    by_cases hpc : pc = 0
    · subst hpc
      replace HP := hide (show R = barS E from HP.out)
      have BC := hide (bar_any ST.out.ld (by have := HQ.out; have := PB.out; omega))
      rw [← HP.out] at BC
      go_wp2_with fail
      refine BC.out.mono ?_
      rintro r w6 ⟨rfl, hst⟩
      have ST2 := hide (ST.out.trans hst)
      clear hst BC
      go_wp2_with fail
      go_ret
      exact ⟨rfl, ST2.out⟩
    · have hpn : (pc != 0) = true := bne_iff_ne.2 hpc
      replace HP := hide (show R = (pc, E) by rw [HP.out]; unfold andS; rw [if_neg hpc])
      clear hpc
      go_wp2_with fail
      go_ret
      rw [HP.out]
      exact ⟨rfl, ST.out⟩
end Go.Proofs.YtlobkefacnedeaaDoor

/- What is read of a disk's places, in plain lists. No program in sight. -/
namespace Go.Proofs.YtlobkefacnedeaaDoor
open Go.RowKit
set_option maxRecDepth 100000

/-- The summary whose blocks these are. -/
def decS (l : List UInt8) : Option (PV × Nat) := if (parseC l).1.ck = 0 ∧ (parseC l).1.enc (parseC l).2 = l then some (parseC l) else none
theorem decS_enc {l : List UInt8} {v : PV} {s : Nat} (h : IsEnc l v s) : decS l = some (v, s) := by
  obtain ⟨h1, h2, rfl⟩ := h
  unfold decS
  rw [parseC_enc h1 h2]
  exact if_pos ⟨h1, rfl⟩
theorem decS_some {l : List UInt8} {v : PV} {s : Nat} (h : decS l = some (v, s)) : IsEnc l v s := by
  unfold decS at h
  split at h
  · rename_i h1
    simp only [Option.some.injEq] at h
    rw [h] at h1
    exact ⟨h1.1, by have := nx4_lt ((unB l).drop 6); have e : s = (parseC l).2 := by rw [h]
                    rw [e]; exact this, h1.2.symm⟩
  · cases h
theorem decS_none {l : List UInt8} (h : decS l = none) : ∀ v s, ¬ IsEnc l v s := fun v s hE => by rw [decS_enc hE] at h; cases h
def pv0 : PV := ⟨0, 0, 0, 0, 0, [], []⟩
/-- Blocks from a place on. -/
def rdB (D : Dsk) (a n : Nat) : List (List UInt8) := (List.range n).map fun i => D.read (a + i)
theorem rdB_len (D : Dsk) (a n : Nat) : (rdB D a n).length = n := by simp [rdB]
theorem rdB_succ (D : Dsk) (a n : Nat) : rdB D a (n + 1) = rdB D a n ++ [D.read (a + n)] := by simp [rdB, List.range_succ]
theorem rdB_at (D : Dsk) (a n j : Nat) (h : j < n) : (rdB D a n)[j]? = some (D.read (a + j)) := by simp [rdB, h]
/-- What is read at a place: the code; the partial segment, its blocks. -/
def rdS (D : Dsk) (a : Int) : Int × PV × List (List UInt8) :=
  if a < 0 ∨ (D.sure.length : Int) - 2 < a then (100, pv0, [])
  else match decS (D.read a.toNat ++ D.read (a.toNat + 1)) with
    | none => (100, pv0, [])
    | some (v, s) =>
      if (D.sure.length : Int) - v.n < a then (100, pv0, [])
      else if crc (rdB D (a.toNat + 2) (v.n - 2)).flatten = s then (0, v, rdB D (a.toNat + 2) (v.n - 2)) else (101, pv0, [])
theorem rdS_out {D : Dsk} {a : Int} (h : a < 0 ∨ (D.sure.length : Int) - 2 < a) : rdS D a = (100, pv0, []) := by unfold rdS; rw [if_pos h]
theorem rdS_none {D : Dsk} {a : Nat} (h : decS (D.read a ++ D.read (a + 1)) = none) : rdS D (a : Int) = (100, pv0, []) := by
  unfold rdS
  split
  · rfl
  · rw [Int.toNat_natCast, h]
theorem rdS_long {D : Dsk} {a s : Nat} {v : PV} (h : decS (D.read a ++ D.read (a + 1)) = some (v, s)) (hl : (D.sure.length : Int) - v.n < a) : rdS D (a : Int) = (100, pv0, []) := by
  unfold rdS
  split
  · rfl
  · rw [Int.toNat_natCast, h]
    dsimp only
    rw [if_pos hl]
theorem rdS_sum {D : Dsk} {a s : Nat} {v : PV} (h0 : (a : Int) ≤ (D.sure.length : Int) - 2) (h : decS (D.read a ++ D.read (a + 1)) = some (v, s)) (hl : ¬ (D.sure.length : Int) - v.n < a) (hc : crc (rdB D (a + 2) (v.n - 2)).flatten ≠ s) : rdS D (a : Int) = (101, pv0, []) := by
  unfold rdS
  rw [if_neg (by omega), Int.toNat_natCast, h]
  dsimp only
  rw [if_neg hl, if_neg hc]
theorem rdS_ok {D : Dsk} {a s : Nat} {v : PV} (h0 : (a : Int) ≤ (D.sure.length : Int) - 2) (h : decS (D.read a ++ D.read (a + 1)) = some (v, s)) (hl : ¬ (D.sure.length : Int) - v.n < a) (hc : crc (rdB D (a + 2) (v.n - 2)).flatten = s) : rdS D (a : Int) = (0, v, rdB D (a + 2) (v.n - 2)) := by
  unfold rdS
  rw [if_neg (by omega), Int.toNat_natCast, h]
  dsimp only
  rw [if_neg hl, if_pos hc]
theorem PV.n_bd {v : PV} (h : v.ck = 0) : 2 ≤ v.n ∧ v.n ≤ 200 := by
  obtain ⟨h1, h2, h3, -⟩ := PV.bd h
  unfold PV.n
  omega
/-- What a good answer says. -/
theorem rdS_inv {D : Dsk} {a : Int} {v : PV} {bs : List (List UInt8)} (h : rdS D a = (0, v, bs)) : ∃ k s : Nat, a = (k : Int) ∧ k + v.n ≤ D.sure.length ∧ IsEnc (D.read k ++ D.read (k + 1)) v s ∧ bs = rdB D (k + 2) (v.n - 2) ∧ crc bs.flatten = s := by
  unfold rdS at h
  split at h
  · injection h with h1; cases h1
  · rename_i h0
    split at h
    · injection h with h1; cases h1
    · rename_i v' s hd
      split at h
      · injection h with h1; cases h1
      · rename_i hl
        split at h
        · rename_i hc
          injection h with h1 h2
          injection h2 with h2 h3
          subst h2 h3
          have hE := decS_some hd
          have := PV.n_bd hE.1
          exact ⟨a.toNat, s, by omega, by omega, hE, rfl, hc⟩
        · injection h with h1; cases h1

/-! What a write leaves to be read. -/
theorem read_wrote (D : Dsk) (i j : Nat) (b : List UInt8) : (D.wrote i b).read j = if i = j then b else D.read j := by
  unfold Dsk.read Dsk.wrote Dsk.stepped readQ
  rw [List.foldl_append]
  rfl
theorem putQ_get : ∀ (q : List (Nat × List UInt8)) (l : List (List UInt8)) (i : Nat), (∀ x ∈ q, x.1 < l.length) → (putQ q l).getD i [] = readQ q i (l.getD i [])
  | [], _, _, _ => rfl
  | x :: q, l, i, h => by
    have h1 := h x (by simp)
    have ih := putQ_get q (l.set x.1 x.2) i (fun y hy => by rw [List.length_set]; exact h y (by simp [hy]))
    show (putQ q (l.set x.1 x.2)).getD i [] = readQ q i (if x.1 = i then x.2 else l.getD i [])
    rw [ih]
    congr 1
    by_cases hi : x.1 = i
    · subst hi
      rw [if_pos rfl, List.getD_eq_getElem?_getD, List.getElem?_set_self h1]
      rfl
    · rw [if_neg hi, List.getD_eq_getElem?_getD, List.getElem?_set_ne hi, ← List.getD_eq_getElem?_getD]
theorem read_barred {D : Dsk} (h : D.Ok) (i : Nat) : D.barred.read i = D.read i := putQ_get D.queue D.sure i (fun x hx => (h.q x hx).2)
/-- The disk behind writes of which none is hindered. -/
structure Go1 (D E : Dsk) (k : Nat) : Prop where
  l : E.left < 0
  n : E.sure.length = D.sure.length
  s : E.steps ≤ D.steps + k
  q : E.queue.length ≤ D.queue.length + k
  q2 : ∀ x ∈ E.queue, x.1 < E.sure.length
theorem wrote_left {D : Dsk} (h : D.left < 0) (i : Nat) (b : List UInt8) : (D.wrote i b).left < 0 := by show max (D.left - 1) (-1) < 0; omega
theorem wrote_q2 {D : Dsk} (h : ∀ x ∈ D.queue, x.1 < D.sure.length) {i : Nat} (hi : i < D.sure.length) (b : List UInt8) : ∀ x ∈ (D.wrote i b).queue, x.1 < (D.wrote i b).sure.length := fun x hx => by
  rcases List.mem_append.1 hx with hx | hx
  · exact h x hx
  · rw [List.mem_singleton] at hx; subst hx; exact hi
theorem putS_ok : ∀ (bs : List (List UInt8)) (D : Dsk) (i : Nat), D.left < 0 → (∀ x ∈ D.queue, x.1 < D.sure.length) → i + bs.length ≤ D.sure.length →
    (putS D i bs).1 = 0 ∧ (putS D i bs).2.left < 0 ∧ (∀ x ∈ (putS D i bs).2.queue, x.1 < (putS D i bs).2.sure.length) ∧ ∀ j, (putS D i bs).2.read j = if i ≤ j ∧ j < i + bs.length then bs.getD (j - i) [] else D.read j
  | [], D, i, h, hq, _ => ⟨rfl, h, hq, fun j => by rw [if_neg (by simp)]; rfl⟩
  | b :: bs, D, i, h, hq, hl => by
    rw [List.length_cons] at hl
    unfold putS
    rw [if_neg (by omega)]
    obtain ⟨h1, h2, h3, h4⟩ := putS_ok bs (D.wrote i b) (i + 1) (wrote_left h i b) (wrote_q2 hq (by omega) b) (by rw [wrote_len]; omega)
    refine ⟨h1, h2, h3, fun j => ?_⟩
    rw [h4 j, read_wrote, List.length_cons]
    by_cases e : i = j
    · subst e
      rw [if_neg (by omega), if_pos rfl, if_pos (by omega), Nat.sub_self]
      rfl
    · rw [if_neg e]
      by_cases e2 : i + 1 ≤ j ∧ j < i + 1 + bs.length
      · rw [if_pos e2, if_pos (by omega)]
        obtain ⟨k, rfl⟩ : ∃ k, j = i + 1 + k := ⟨j - (i + 1), by omega⟩
        rw [show i + 1 + k - (i + 1) = k by omega, show i + 1 + k - i = k + 1 by omega]
        rfl
      · rw [if_neg e2, if_neg (by omega)]
theorem barS_ok {D : Dsk} (h : D.left < 0) (hq : ∀ x ∈ D.queue, x.1 < D.sure.length) : (barS D).1 = 0 ∧ (barS D).2.left < 0 ∧ (barS D).2.queue = [] ∧ ∀ j, (barS D).2.read j = D.read j := by
  unfold barS
  rw [if_neg (by omega)]
  exact ⟨rfl, by show max (D.left - 1) (-1) < 0; omega, rfl, fun j => putQ_get D.queue D.sure j hq⟩
theorem andS_ok {r : Int × Dsk} {f : Dsk → Int × Dsk} (h : r.1 = 0) : andS r f = f r.2 := by unfold andS; rw [if_pos h]
theorem clrS_ok {D : Dsk} (h : D.left < 0) (hq : ∀ x ∈ D.queue, x.1 < D.sure.length) {a : Nat} (ha : a + 2 ≤ D.sure.length) :
    (clrS D (a : Int)).1 = 0 ∧ (clrS D (a : Int)).2.left < 0 ∧ (clrS D (a : Int)).2.queue = [] ∧ ∀ j, (clrS D (a : Int)).2.read j = if j = a ∨ j = a + 1 then zero64 else D.read j := by
  unfold clrS
  rw [if_neg (by omega), Int.toNat_natCast]
  obtain ⟨h1, h2, h3, h4⟩ := putS_ok [zero64, zero64] D a h hq ha
  rw [andS_ok h1]
  obtain ⟨k1, k2, k3, k4⟩ := barS_ok h2 h3
  refine ⟨k1, k2, k3, fun j => ?_⟩
  rw [k4, h4]
  by_cases e : j = a ∨ j = a + 1
  · rw [if_pos e, if_pos (by simp; omega)]
    rcases e with e | e
    · rw [e, Nat.sub_self]; rfl
    · rw [e, show a + 1 - a = 1 by omega]; rfl
  · rw [if_neg e, if_neg (by simp; omega)]
theorem wrS_ok {D : Dsk} (h : D.left < 0) (hq : ∀ x ∈ D.queue, x.1 < D.sure.length) {a x : Nat} {v : PV} {bs : List (List UInt8)} (hx : v.x = (x : Int)) (hck : v.ck = 0) (hn : bs.length = v.n - 2) (ha : a + v.n ≤ D.sure.length) (hx2 : x + 2 ≤ D.sure.length) (hd : a + v.n ≤ x ∨ x + 2 ≤ a) (hb : ∀ b ∈ bs, b.length = 64) :
    (wrS D (a : Int) v bs).1 = 0 ∧ (wrS D (a : Int) v bs).2.left < 0 ∧ (wrS D (a : Int) v bs).2.queue = [] ∧
      ∀ j, (wrS D (a : Int) v bs).2.read j = if j = a then (v.enc (crc bs.flatten)).take 64 else if j = a + 1 then (v.enc (crc bs.flatten)).drop 64 else if a + 2 ≤ j ∧ j < a + v.n then bs.getD (j - (a + 2)) [] else if j = x ∨ j = x + 1 then zero64 else D.read j := by
  have hv := PV.n_bd hck
  unfold wrS
  rw [if_neg (by rw [hck]; decide), if_neg (by unfold fitS; rw [hx]; omega), if_neg (by
    rw [Bool.not_eq_true, List.any_eq_false]
    intro b hbm
    simp [hb b hbm]), Int.toNat_natCast]
  obtain ⟨h1, h2, h3, h4⟩ := putS_ok bs D (a + 2) h hq (by omega)
  rw [andS_ok h1, hx]
  generalize hD1 : (putS D (a + 2) bs).2 = D1 at *
  have l1 : D1.sure.length = D.sure.length := by rw [← hD1, putS_len]
  obtain ⟨c1, c2, c3, c4⟩ := clrS_ok h2 h3 (a := x) (by omega)
  rw [andS_ok c1]
  generalize hD2 : (clrS D1 (x : Int)).2 = D2 at *
  have l2 : D2.sure.length = D.sure.length := by rw [← hD2, clrS_len, l1]
  obtain ⟨p1, p2, p3, p4⟩ := putS_ok [(v.enc (crc bs.flatten)).take 64, (v.enc (crc bs.flatten)).drop 64] D2 a c2 (by rw [c3]; simp) (by simp only [List.length_cons, List.length_nil]; omega)
  rw [andS_ok p1]
  obtain ⟨k1, k2, k3, k4⟩ := barS_ok p2 p3
  refine ⟨k1, k2, k3, fun j => ?_⟩
  rw [k4, p4, c4, h4]
  simp only [List.length_cons, List.length_nil]
  by_cases e1 : j = a
  · rw [if_pos (by omega), if_pos e1, e1, Nat.sub_self]; rfl
  · rw [if_neg e1]
    by_cases e2 : j = a + 1
    · rw [if_pos (by omega), if_pos e2, e2, show a + 1 - a = 1 by omega]; rfl
    · rw [if_neg (by omega), if_neg e2]
      by_cases e3 : a + 2 ≤ j ∧ j < a + v.n
      · rw [if_neg (by omega), if_pos (by omega), if_pos e3]
      · rw [if_neg e3]
        by_cases e4 : j = x ∨ j = x + 1
        · rw [if_pos e4, if_pos e4]
        · rw [if_neg e4, if_neg e4, if_neg (by omega)]
/-- A summary's blocks are no zeros. -/
theorem zero_no : decS (zero64 ++ zero64) = none := by
  have h1 : unB (zero64 ++ zero64) = List.replicate 88 0 := by kernel_rfl
  unfold decS
  rw [if_neg]
  rintro ⟨h, -⟩
  have h2 : (parseC (zero64 ++ zero64)).1 = pv0 := by kernel_rfl
  rw [h2] at h
  exact absurd h (by decide)
/-- What was written is read. -/
theorem rdS_wrS {D E : Dsk} {a : Nat} {v : PV} {bs : List (List UInt8)} (hck : v.ck = 0) (hn : bs.length = v.n - 2) (ha : a + v.n ≤ E.sure.length)
    (h0 : E.read a = (v.enc (crc bs.flatten)).take 64) (h1 : E.read (a + 1) = (v.enc (crc bs.flatten)).drop 64) (h2 : ∀ j, j < v.n - 2 → E.read (a + 2 + j) = bs.getD j []) : rdS E (a : Int) = (0, v, bs) := by
  have hv := PV.n_bd hck
  have hr : rdB E (a + 2) (v.n - 2) = bs := by
    apply List.ext_getElem?
    intro j
    by_cases hj : j < v.n - 2
    · rw [rdB_at _ _ _ _ hj, h2 j hj, List.getD_eq_getElem?_getD, List.getElem?_eq_getElem (by omega)]; rfl
    · rw [List.getElem?_eq_none (by rw [rdB_len]; omega), List.getElem?_eq_none (by omega)]
  have hd : decS (E.read a ++ E.read (a + 1)) = some (v, crc bs.flatten) := by
    rw [h0, h1, List.take_append_drop]
    exact decS_enc ⟨hck, crc_lt _, rfl⟩
  rw [rdS_ok (by omega) hd (by omega) (by rw [hr]), hr]
end Go.Proofs.YtlobkefacnedeaaDoor

/- The walk of seg.Write. -/
namespace Go.Proofs.YtlobkefacnedeaaDoor
open Go.RowKit
set_option maxRecDepth 100000
attribute [local go_sem ↓] Go.wp_at_zero Go.wp_at_succ

theorem rows_of (w : World) (base : Nat) : ∀ (cs : List Value) (bs : List (List UInt8)), cs.length = bs.length → (∀ b ∈ bs, b.length = 64) → (∀ (j : Nat) (x : Value) (b : List UInt8), cs[j]? = some x → bs[j]? = some b → ∃ B c, x = .slice B b.length c ∧ b.length ≤ c ∧ ByT 0 base w B b.length b) →
    ∃ rs : List Row, rs.map Row.v = cs ∧ rowsL rs = bs.flatten ∧ rowsN rs ≤ 64 * bs.length ∧ ∀ r ∈ rs, By w w.heap.size r.a r.n r.l
  | [], [], _, _, _ => ⟨[], rfl, rfl, Nat.le_refl _, by simp⟩
  | [], _ :: _, h, _, _ => by simp at h
  | _ :: _, [], h, _, _ => by simp at h
  | x :: cs, b :: bs, h, h64, hb => by
    obtain ⟨rs, e1, e2, e3, e4⟩ := rows_of w base cs bs (by simpa using h) (fun b hb => h64 b (List.mem_cons_of_mem _ hb)) (fun j x b hx hb' => hb (j + 1) x b (by simpa using hx) (by simpa using hb'))
    obtain ⟨B, c, rfl, hc, hB⟩ := hb 0 x b rfl rfl
    refine ⟨⟨B, b.length, c, b⟩ :: rs, by rw [List.map_cons, e1]; rfl, ?_, ?_, ?_⟩
    · show b ++ rowsL rs = _
      rw [e2]
      rfl
    · have := h64 b List.mem_cons_self
      show ((b.length :: rs.map Row.n) : List Nat).sum ≤ _
      rw [List.sum_cons, List.length_cons]
      have : (rs.map Row.n).sum ≤ 64 * bs.length := e3
      omega
    · intro r hr
      rcases List.mem_cons.1 hr with rfl | hr
      · exact RwAt.sl hB
      · exact e4 r hr
theorem BsAt.rows {base m : Nat} {w : World} {A : Option Addr} {bs : List (List UInt8)} (h : BsAt base w A m bs) (h64 : ∀ b ∈ bs, b.length = 64) : ∃ rs : List Row, Sl w w.heap.size A m (rs.map Row.v) ∧ (∀ r ∈ rs, By w w.heap.size r.a r.n r.l) ∧ rowsL rs = bs.flatten ∧ rowsN rs ≤ 64 * m := by
  obtain ⟨cs, e1, e2, hr, hb⟩ := h
  obtain ⟨rs, k1, k2, k3, k4⟩ := rows_of w base cs bs (by omega) h64 hb
  exact ⟨rs, by rw [k1]; exact RwAt.sl hr, k4, k2, by rw [← e2]; exact k3⟩
theorem EncAns.good {v : PV} {s base : Nat} {r : Ending} {w' : World} (h : EncAns v s base r w') (hk : v.ck = 0) : ∃ A k, r = .returned (.tuple #[.slice A 128 k, .int .i64 0]) ∧ OwnBy w' base A 128 k (v.enc s) := by
  rcases h with ⟨-, h⟩ | ⟨h, -⟩
  · exact h
  · exact absurd hk h
theorem op7 {w : World} {k : Nat} {t : TypeId} {x0 x1 x2 x3 x4 x5 x6 : Value} (h : Blk w k t #[x0, x1, x2, x3, x4, x5, x6]) :
    w.cell? ⟨k, 0, none⟩ = some x0 ∧ w.cell? ⟨k, 1, none⟩ = some x1 ∧ w.cell? ⟨k, 2, none⟩ = some x2 ∧ w.cell? ⟨k, 3, none⟩ = some x3 ∧ w.cell? ⟨k, 4, none⟩ = some x4 ∧ w.cell? ⟨k, 5, none⟩ = some x5 ∧ w.cell? ⟨k, 6, none⟩ = some x6 :=
  ⟨h.cell 0, h.cell 1, h.cell 2, h.cell 3, h.cell 4, h.cell 5, h.cell 6⟩
set_option maxHeartbeats 4000000 in
theorem write_any (w0 w : World) (d : Nat) (D : Dsk) (h : LD w0 w d D) (a : Int) (ha64 : I64 a) (v : PV) (A1 A2 : Option Addr) (n1 c1 n2 c2 lo lo2 : Nat) (sp : SpanAt w0) (hf : FisAt lo w0.heap.size w A1 n1 v.fs) (hi : IntsAt lo2 w0.heap.size w A2 n2 v.is) (hn1 : n1 ≤ 1000) (hn2 : n2 ≤ 100000) (hls : lsN v.fs ≤ 100000)
    (h64 : ∀ f ∈ v.fs, ∀ x ∈ f.ls, I64 x) (A : Option Addr) (m c : Nat) (bs : List (List UInt8)) (hb : BsAt w0.heap.size w A m bs) (hm : m ≤ 1000000) (hs : D.steps ≤ 700000) (hq : D.queue.length ≤ 700000) :
    Calls Tryd.prog 13 #[.pointer (some ⟨d, 0, none⟩), .int .i64 a, .agg (partC v.e v.c v.i v.p v.x A1 n1 c1 A2 n2 c2), .slice A m c] w fun r w' => r = .returned (.int .i64 (wrS D a v bs).1) ∧ Stp w0 w w' d D (wrS D a v bs).2 := by
  have H := hide h
  have HF := hide hf
  have HI := hide hi
  have SP := hide (sp.bel h.bel)
  have sp0 := hide sp
  have H64 := hide h64
  have HB := hide hb
  have HQ := hide (And.intro hs hq)
  have HM := hide (And.intro hb.len hm)
  have HLN := hide (And.intro hf.len (IntsAt.len hi))
  have A64 := hide ha64
  obtain ⟨N, hN⟩ : ∃ N, N = D.sure.length := ⟨_, rfl⟩
  have HN := hide (show N = D.sure.length ∧ N ≤ 4096 from ⟨hN, by have := h.ok.n; omega⟩)
  have hN4 : N ≤ 4096 := HN.out.2
  clear hN h hf hi sp h64 hb hs hq ha64
  obtain ⟨R, hR⟩ : ∃ R, R = wrS D a v bs := ⟨_, rfl⟩
  have HR := hide hR
  rw [← hR]
  clear hR
  unfold partC
  go_enter Tryd.func13, Tryd.ntmps13
  go_upto_region 1 with fail
  obtain ⟨w1, hw⟩ : ∃ W, W = w.alloc (.cells #[.int .i64 v.e, .int .i64 v.c, .int .i64 v.i, .int .i64 v.p, .int .i64 v.x, .slice A1 n1 c1, .slice A2 n2 c2] 25) := ⟨_, rfl⟩
  have X2 : Hid (Blk w1 w.heap.size 25 #[.int .i64 v.e, .int .i64 v.c, .int .i64 v.i, .int .i64 v.p, .int .i64 v.x, .slice A1 n1 c1, .slice A2 n2 c2]) := hide (by rw [hw]; exact Blk.new _ _ _)
  have BW : Hid (Below w.heap.size w w1) := hide (by rw [hw]; exact (Below.refl _ _).alloc (Nat.le_refl _) _)
  rw [← hw]
  obtain ⟨g2, hg⟩ : ∃ g, g = w.heap.size := ⟨_, rfl⟩
  rw [← hg] at X2 ⊢
  clear hw hg
  have y0 := X2.out.cell 0
  have y1 := X2.out.cell 1
  have y2 := X2.out.cell 2
  have y3 := X2.out.cell 3
  have y4 := X2.out.cell 4
  have y5 := X2.out.cell 5
  have y6 := X2.out.cell 6
  simp only [List.getElem?_toArray, List.getElem?_cons_succ, List.getElem?_cons_zero] at y0 y1 y2 y3 y4 y5 y6
  go_wp2_with fail
  clear y0 y1 y2 y3 y4 y5 y6
  refine (check_any v.e v.c v.i v.p v.x A1 A2 n1 c1 n2 c2 _ _ _ _ v.fs v.is w1 (SP.out.bel BW.out) (HF.out.below BW.out) (RwAt.below HI.out BW.out) hn1 hn2 hls H64.out).mono ?_
  rintro r w2 ⟨rfl, hb⟩
  replace X2 := hide (X2.out.below hb)
  replace BW := hide (BW.out.trans (hb.mono BW.out.size))
  clear hb
  obtain ⟨q, hq⟩ : ∃ q, q = checkP v.e v.c v.i v.p v.x v.fs v.is := ⟨_, rfl⟩
  have HQK := hide (show v.ck = q from hq.symm)
  rw [← hq]
  clear hq
  by_cases hck : q = 0
  rotate_left
  · have hqn : (q != 0) = true := bne_iff_ne.2 hck
    have HP := hide (show R = (q, D) by rw [HR.out]; unfold wrS; rw [if_pos (by rw [HQK.out]; exact hck), HQK.out])
    clear hck
    go_wp2_with fail
    go_ret
    rw [HP.out]
    exact ⟨rfl, Stp.of_below H.out BW.out⟩
  subst hck
  have y0 := X2.out.cell 0
  have y1 := X2.out.cell 1
  have y2 := X2.out.cell 2
  have y3 := X2.out.cell 3
  have y4 := X2.out.cell 4
  have y5 := X2.out.cell 5
  have y6 := X2.out.cell 6
  simp only [List.getElem?_toArray, List.getElem?_cons_succ, List.getElem?_cons_zero] at y0 y1 y2 y3 y4 y5 y6
  go_wp2_with fail
  clear y0 y1 y2 y3 y4 y5 y6
  refine (sblocks_any v.e v.c v.i v.p v.x A1 A2 n1 c1 n2 c2 _ _ v.fs w2 (HF.out.below BW.out) (by omega) hn2 hls).mono ?_
  rintro r w3 ⟨rfl, hb⟩
  replace X2 := hide (X2.out.below hb)
  replace BW := hide (BW.out.trans (hb.mono BW.out.size))
  clear hb
  have HV := hide (PV.n_bd HQK.out)
  have HNV := hide (show 2 + n2 + lsN v.fs = v.n by unfold PV.n; rw [HLN.out.2])
  rw [HNV.out]
  obtain ⟨n, hn⟩ : ∃ n, n = v.n := ⟨_, rfl⟩
  have HVN := hide (show n = v.n ∧ 2 ≤ n ∧ n ≤ 200 from ⟨hn, by rw [hn]; exact HV.out⟩)
  rw [← hn]
  have hn200 : n ≤ 200 := HVN.out.2.2
  clear hn HV HNV
  obtain ⟨x, hx⟩ : ∃ x, x = v.x := ⟨_, rfl⟩
  have HX := hide (show x = v.x ∧ 0 ≤ x ∧ x ≤ 65535 from ⟨hx, by rw [hx]; obtain ⟨⟨⟨_, _, _, _, h⟩, _⟩, _⟩ := PV.gd HQK.out; omega⟩)
  rw [← hx] at X2
  clear hx
  have y4 := X2.out.cell 4
  simp only [List.getElem?_toArray, List.getElem?_cons_succ, List.getElem?_cons_zero] at y4
  go_upto_region 5 with fail
  go_cut [64] (fun y wx => ∃ k, wx = w3.drewN k ∧ ((fitS D a v m ∧ y = .bool false) ∨ (¬ fitS D a v m ∧ y = .bool true)))
  case first =>
    have CS : ∀ k, Calls Tryd.prog 38 #[.pointer (some ⟨d, 0, none⟩)] (w3.drewN k) fun e w' => e = .returned (.int .i64 (N : Int)) ∧ w' = w3.drewN k := fun k => by
      rw [HN.out.1]
      exact (ld_size ((H.out.below BW.out).drewN k)).mono fun _ _ h => ⟨h.1, h.2.symm⟩
    have hf0 : Hid (fitS D a v m ↔ ((m : Int) = (n : Int) - 2 ∧ 0 ≤ a ∧ a ≤ (N : Int) - n ∧ x ≤ (N : Int) - 2) ∧ ¬ (x < a + n ∧ a < x + 2)) := hide (by unfold fitS; rw [HVN.out.1, HN.out.1, HX.out.1])
    have hx0 : 0 ≤ x ∧ x ≤ 65535 := HX.out.2
    have hw1 : IntKind.i64.wrap ((n : Int) - 2) = (n : Int) - 2 := IntWalk.i64_in _ (by omega)
    have hw2 : IntKind.i64.wrap ((N : Int) - (n : Int)) = (N : Int) - (n : Int) := IntWalk.i64_in _ (by omega)
    have hw3 : IntKind.i64.wrap ((N : Int) - 2) = (N : Int) - 2 := IntWalk.i64_in _ (by omega)
    have hw5 : IntKind.i64.wrap (x + 2) = x + 2 := IntWalk.i64_in _ (by omega)
    by_cases e1 : (m : Int) = (n : Int) - 2
    rotate_left
    · have b1 : ((m : Int) != (n : Int) - 2) = true := bne_iff_ne.2 e1
      have HP := hide (show ¬ fitS D a v m from fun h => e1 (hf0.out.1 h).1.1)
      clear e1 hx0 hw2 hw3 hw5
      go_quiet (fail)
      go_wp2_with fail
      go_meet
      exact ⟨_, rfl, .inr ⟨HP.out, rfl⟩⟩
    have b1 : ((m : Int) != (n : Int) - 2) = false := by simp [e1]
    by_cases e2 : a < 0
    · have HP := hide (show ¬ fitS D a v m from fun h => absurd (hf0.out.1 h).1.2.1 (by omega))
      clear e1 hx0 hw2 hw3 hw5
      go_quiet (fail)
      go_wp2_with fail
      go_meet
      exact ⟨_, rfl, .inr ⟨HP.out, rfl⟩⟩
    have b2 : decide (a < 0) = false := decide_eq_false e2
    by_cases e3 : (N : Int) - n < a
    · have HP := hide (show ¬ fitS D a v m from fun h => absurd (hf0.out.1 h).1.2.2.1 (by omega))
      clear e1 e2 hx0 hw3 hw5
      go_quiet ((go_at_call 38; exact Calls.quiet_of_same (CS _)))
      go_wp2_with fail
      go_meet
      exact ⟨_, rfl, .inr ⟨HP.out, rfl⟩⟩
    have b3 : decide ((N : Int) - n < a) = false := decide_eq_false e3
    have hw4 : IntKind.i64.wrap (a + n) = a + n := IntWalk.i64_in _ (by omega)
    by_cases e4 : (N : Int) - 2 < x
    · have HP := hide (show ¬ fitS D a v m from fun h => absurd (hf0.out.1 h).1.2.2.2 (by omega))
      clear e1 e2 e3 hx0 hw5 hw4
      go_quiet ((go_at_call 38; exact Calls.quiet_of_same (CS _)))
      go_wp2_with fail
      go_meet
      exact ⟨_, rfl, .inr ⟨HP.out, rfl⟩⟩
    have b4 : decide ((N : Int) - 2 < x) = false := decide_eq_false e4
    by_cases e5 : x < a + n
    · by_cases e6 : a < x + 2
      · have HP := hide (show ¬ fitS D a v m from fun h => (hf0.out.1 h).2 ⟨e5, e6⟩)
        clear e1 e2 e3 e4 hx0
        go_quiet ((go_at_call 38; exact Calls.quiet_of_same (CS _)))
        go_wp2_with fail
        go_meet
        exact ⟨_, rfl, .inr ⟨HP.out, rfl⟩⟩
      · have HP := hide (show fitS D a v m from hf0.out.2 ⟨⟨e1, by omega, by omega, by omega⟩, fun h => e6 h.2⟩)
        have b6 : decide (a < x + 2) = false := decide_eq_false e6
        clear e1 e2 e3 e4 e6 hx0
        go_quiet ((go_at_call 38; exact Calls.quiet_of_same (CS _)))
        go_wp2_with fail
        go_meet
        exact ⟨_, rfl, .inl ⟨HP.out, rfl⟩⟩
    · have HP := hide (show fitS D a v m from hf0.out.2 ⟨⟨e1, by omega, by omega, by omega⟩, fun h => e5 h.1⟩)
      have b5 : decide (x < a + n) = false := decide_eq_false e5
      clear e1 e2 e3 e4 e5 hx0 hw5
      go_quiet ((go_at_call 38; exact Calls.quiet_of_same (CS _)))
      go_wp2_with fail
      go_meet
      exact ⟨_, rfl, .inl ⟨HP.out, rfl⟩⟩
  case rest =>
    obtain ⟨k0, rfl, ⟨hfit, rfl⟩ | ⟨hfit, rfl⟩⟩ := hcut
    rotate_left
    · have HP := hide (show R = (22, D) by rw [HR.out]; unfold wrS; rw [if_neg (by rw [HQK.out]; decide), if_pos (by rw [HM.out.1]; exact hfit)])
      clear y4
      go_wp2_with fail
      go_ret
      rw [HP.out]
      exact ⟨rfl, (Stp.of_below H.out BW.out).below (bel_dN (Below.refl _ _) k0)⟩
    have HFT := hide (show (m : Int) = (n : Int) - 2 ∧ 0 ≤ a ∧ a ≤ (N : Int) - n ∧ x ≤ (N : Int) - 2 by
      unfold fitS at hfit
      rw [← HVN.out.1, ← HN.out.1, ← HX.out.1] at hfit
      exact hfit.1)
    have HFI := hide hfit
    obtain ⟨k, rfl⟩ : ∃ k : Nat, a = (k : Int) := ⟨a.toNat, by have := HFT.out.2.1; omega⟩
    have hkN : k + n ≤ N := by have := HFT.out.2.2.1; omega
    have hmn : m + 2 = n := by have := HFT.out.1; have := HVN.out.2.1; omega
    replace X2 := hide (show Blk (w3.drewN k0) g2 25 #[.int .i64 v.e, .int .i64 v.c, .int .i64 v.i, .int .i64 v.p, .int .i64 x, .slice A1 n1 c1, .slice A2 n2 c2] from X2.out)
    replace BW := hide (show Below w.heap.size w (w3.drewN k0) from bel_dN BW.out k0)
    generalize w3.drewN k0 = w4 at *
    have B4 := hide (HB.out.below BW.out)
    clear hfit y4
    go_wp2_with fail
    go_loopw [67] (fun y wr => ∃ j : Nat, j ≤ m ∧ y = .int .i64 (j : Int) ∧ wr = w4 ∧ ∀ b ∈ bs.take j, b.length = 64) (fun y _ => m - (intOf y).toNat)
    case atStart => exact ⟨0, Nat.zero_le _, rfl, rfl, by simp⟩
    case round =>
      obtain ⟨j, hj, rfl, rfl, hj64⟩ := hrel
      have HJ := hide hj64
      clear hj64
      by_cases hlt : j < m
      · obtain ⟨b, off, B, cB, l, hA, hc, hl, hlc, hB⟩ := B4.out.at hlt
        have HL := hide hl
        subst hA
        have hjs : (j : Int) < (m : Int) := by omega
        obtain ⟨q, hq⟩ : ∃ q, q = l.length := ⟨_, rfl⟩
        have hQ := hide hq
        rw [← hq] at hc
        clear hl hlc hB hq
        by_cases h64 : q = 64
        · subst h64
          go_wp2_with fail
          go_roundw
          case rel =>
            refine ⟨j + 1, by omega, by go_num, trivial, fun b hb => ?_⟩
            rw [List.take_add_one, HL.out] at hb
            rcases List.mem_append.1 hb with hb | hb
            · exact HJ.out b hb
            · simp only [Option.toList, List.mem_singleton] at hb
              rw [hb, ← hQ.out]
          case measure => simp [intOf]; omega
        · have HP := hide (show R = (22, D) by
            rw [HR.out]; unfold wrS
            rw [if_neg (by rw [HQK.out]; decide), if_neg (by rw [HM.out.1]; exact fun h => h HFI.out), if_pos]
            exact List.any_eq_true.2 ⟨l, List.mem_of_getElem? HL.out, by simp; rw [← hQ.out]; exact h64⟩)
          have hb64 : ((q : Int) != 64) = true := bne_iff_ne.2 (by omega)
          clear h64
          go_wp2_with fail
          go_ret
          rw [HP.out]
          exact ⟨rfl, Stp.of_below H.out BW.out⟩
      · have hjs : ¬ (j : Int) < (m : Int) := by omega
        have H6 := hide (show ∀ b ∈ bs, b.length = 64 by
          have := HJ.out
          rw [List.take_of_length_le (by rw [HM.out.1]; omega)] at this
          exact this)
        have HP := hide (show R = andS (putS D (k + 2) bs) fun D => andS (clrS D v.x) fun D => andS (putS D k [(v.enc (crc bs.flatten)).take 64, (v.enc (crc bs.flatten)).drop 64]) barS by
          rw [HR.out]; unfold wrS
          rw [if_neg (by rw [HQK.out]; decide), if_neg (by rw [HM.out.1]; exact fun h => h HFI.out), if_neg (by
            rw [Bool.not_eq_true, List.any_eq_false]
            intro b hbm
            simp [H6.out b hbm]), Int.toNat_natCast])
        clear HJ
        have PC := hide (put_any w0 _ d D (H.out.below BW.out) (k + 2) A m c bs B4.out H6.out (by have := HN.out.1; omega) (by have := HQ.out; have := hmn; omega) (by have := HQ.out; have := hmn; omega))
        obtain ⟨P, hP⟩ : ∃ P, P = putS D (k + 2) bs := ⟨_, rfl⟩
        have PB := hide (show P.2.steps ≤ D.steps + 200 ∧ P.2.queue.length ≤ D.queue.length + 200 ∧ P.2.sure.length = D.sure.length by
          have := putS_bd bs D (k + 2)
          have := HM.out.1
          rw [hP]
          exact ⟨by omega, by omega, putS_len _ _ _⟩)
        rw [← hP] at PC HP
        clear hP
        have hw2 : IntKind.i64.wrap ((k : Int) + 2) = ((k + 2 : Nat) : Int) := by rw [IntKind.wrap_i64]; omega
        go_wp2_with fail
        refine PC.out.mono ?_
        rintro r w5 ⟨rfl, hst⟩
        have ST := hide ((Stp.of_below H.out BW.out).trans hst)
        replace X2 := hide (X2.out.kt (stp_kt (H.out.below BW.out) hst) (by decide))
        clear hst PC hw2
        obtain ⟨pc, E⟩ := P
        dsimp only at PB ST ⊢
        by_cases hpc : pc = 0
        rotate_left
        · have hpn : (pc != 0) = true := bne_iff_ne.2 hpc
          replace HP := hide (show R = (pc, E) by rw [HP.out]; unfold andS; rw [if_neg hpc])
          clear hpc
          go_wp2_with fail
          go_ret
          rw [HP.out]
          exact ⟨rfl, ST.out⟩
        subst hpc
        replace HP := hide (show R = andS (clrS E v.x) fun D => andS (putS D k [(v.enc (crc bs.flatten)).take 64, (v.enc (crc bs.flatten)).drop 64]) barS from HP.out)
        have CC := hide (clear_any w0 _ d E ST.out.ld x (by have := HQ.out; have := PB.out; omega) (by have := HQ.out; have := PB.out; omega))
        rw [← HX.out.1] at HP
        obtain ⟨P, hP⟩ : ∃ P, P = clrS E x := ⟨_, rfl⟩
        replace PB := hide (show P.2.steps ≤ D.steps + 210 ∧ P.2.queue.length ≤ D.queue.length + 210 ∧ P.2.sure.length = D.sure.length by
          have := clrS_bd E x
          have := clrS_len E x
          have := PB.out
          rw [hP]
          omega)
        rw [← hP] at CC HP
        clear hP
        have y4 := X2.out.cell 4
        simp only [List.getElem?_toArray, List.getElem?_cons_succ, List.getElem?_cons_zero] at y4
        go_wp2_with fail
        clear y4
        refine CC.out.mono ?_
        rintro r w6 ⟨rfl, hst⟩
        replace X2 := hide (X2.out.kt (stp_kt ST.out.ld hst) (by decide))
        replace ST := hide (ST.out.trans hst)
        clear hst CC
        obtain ⟨pc, E⟩ := P
        dsimp only at PB ST ⊢
        by_cases hpc : pc = 0
        rotate_left
        · have hpn : (pc != 0) = true := bne_iff_ne.2 hpc
          replace HP := hide (show R = (pc, E) by rw [HP.out]; unfold andS; rw [if_neg hpc])
          clear hpc
          go_wp2_with fail
          go_ret
          rw [HP.out]
          exact ⟨rfl, ST.out⟩
        subst hpc
        replace HP := hide (show R = andS (putS E k [(v.enc (crc bs.flatten)).take 64, (v.enc (crc bs.flatten)).drop 64]) barS from HP.out)
        have hy := op7 X2.out
        go_upto_region 19 with fail
        refine wp_region_noPanic ?_
        refine wp_region_held_drew (S := (fun w' => w'.cell? ⟨g2, 0, none⟩ = some (.int .i64 v.e) ∧ w'.cell? ⟨g2, 1, none⟩ = some (.int .i64 v.c) ∧ w'.cell? ⟨g2, 2, none⟩ = some (.int .i64 v.i) ∧ w'.cell? ⟨g2, 3, none⟩ = some (.int .i64 v.p) ∧ w'.cell? ⟨g2, 4, none⟩ = some (.int .i64 x) ∧ w'.cell? ⟨g2, 5, none⟩ = some (.slice A1 n1 c1) ∧ w'.cell? ⟨g2, 6, none⟩ = some (.slice A2 n2 c2))) (by kernel_rfl) ?_ (fun hHeld => ?_)
        · ((try dsimp only) <;> (first | trivial | assumption | go_keep))
        clear hy
        replace ST := hide (ST.out.below (Below.refl _ _).drew)
        replace X2 := hide X2.out.drew
        generalize w6.drew = w7 at *
        have K6 := hide (stp_kt H.out ((Stp.of_below H.out (Below.refl _ _)).trans ST.out))
        have B6 := hide (HB.out.kt K6.out (by decide) (by decide))
        obtain ⟨rs, r1, r2, r3, r4⟩ := B6.out.rows H6.out
        have PT := hide (parts_any rs A m c _ w7 r1 r2 (by omega) (by omega))
        rw [r3] at PT
        obtain ⟨sm, hsm⟩ : ∃ sm, sm = crc bs.flatten := ⟨_, rfl⟩
        have HSM := hide (show sm < 4294967296 by rw [hsm]; exact crc_lt _)
        rw [← hsm] at PT HP
        have EC := hide (enc_any v sm HSM.out A1 A2 n1 c1 n2 c2 _ _ _ _ w7 ((sp0.out.bel ST.out.ld.bel)) (HF.out.kt K6.out (by decide) (by decide)) (RwAt.kt HI.out K6.out (by decide)) hn1 hn2 hls H64.out)
        unfold partC at EC
        rw [← HX.out.1] at EC
        clear r1 r2 r3 r4 hsm B6 K6
        refine tk 0 ?_
        refine tk 1 ?_
        refine wpAnyH_ready (rs := [2]) (by kernel_rfl) (by simp) ?_
        refine AllReadyH.cons (by simp only [List.getElem?_toArray, List.getElem?_cons_succ, List.getElem?_cons_zero]; rfl) (fun K hK => ?_) ?_
        rotate_left 1
        · exact AllReadyH.nil
        go_simp
        refine PT.out.mono ?_; rintro r w8 ⟨rfl, rfl⟩
        refine hK.out _ _ ?_ (fun hHeld2 => ?_)
        · ((try dsimp only) <;> (first | trivial | assumption | go_keep))
        clear hHeld
        have hHeld := hHeld2
        clear hHeld2 hK K
        try simp only [Act.put, List.setIfInBounds_toArray, List.set_cons_zero, List.set_cons_succ]
        refine wpAnyH_ready (rs := [3]) (by kernel_rfl) (by simp) ?_
        refine AllReadyH.cons (by simp only [List.getElem?_toArray, List.getElem?_cons_succ, List.getElem?_cons_zero]; rfl) (fun K hK => ?_) ?_
        rotate_left 1
        · exact AllReadyH.nil
        go_simp
        refine EC.out.mono ?_; rintro r w8 ⟨he, hb⟩; obtain ⟨Ae, ke, rfl, ho⟩ := he.good HQK.out; have OE := hide ho; have S7 := hide hb.size; replace ST := hide (ST.out.below hb); replace X2 := hide (X2.out.below hb); have hy := op7 X2.out; clear ho hb
        refine hK.out _ _ ?_ (fun hHeld2 => ?_)
        · ((try dsimp only) <;> (first | trivial | assumption | go_keep))
        clear hHeld
        have hHeld := hHeld2
        clear hHeld2 hK K
        try simp only [Act.put, List.setIfInBounds_toArray, List.set_cons_zero, List.set_cons_succ]
        clear hHeld PT EC hy
        have KE := hide (show 128 ≤ ke ∧ ke ≤ 9223372036854775807 by
          obtain ⟨_, _, e, h1, h2⟩ := own_form OE.out
          injection e with e1 e2 e3
          subst e3
          exact ⟨h1, h2⟩)
        have hHeld := op7 X2.out
        refine tk 4 ?_
        refine tk 5 ?_
        refine tk 6 ?_
        refine tk 7 ?_
        refine tk 8 ?_
        refine wpAnyH_done (by kernel_rfl) ?_ _
        refine NoPanic.normal ?_
        clear hHeld X2
        obtain ⟨EV, hEV⟩ : ∃ EV, EV = v.enc sm := ⟨_, rfl⟩
        have HEL := hide (show EV.length = 128 by rw [hEV]; exact PV.enc_len HQK.out _)
        rw [← hEV] at OE HP
        clear hEV
        have T1 := hide (ByT.head (RwAt.of_own (base := w0.heap.size) OE.out) (m := 64) (by decide))
        have T2 := hide (ByT.cut (RwAt.of_own (base := w0.heap.size) OE.out) (m := 64) (c := ke) (by decide) KE.out.1)
        have hs1 : ∀ W, (Instr.slice 26 (.slice Ae 128 ke) none (some (.int .i64 64)) none).run Tryd.prog W = .ok (.slice Ae 64 ke) W := fun W => run_cut_h etyB Ae 128 ke W 64 .i64 (by have := KE.out; omega)
        have hs2 : ∀ W, (Instr.slice 26 (.slice Ae 128 ke) (some (.int .i64 64)) none none).run Tryd.prog W = .ok (.slice (cutA Ae ke 64) 64 (ke - 64)) W := fun W => run_cut_l etyB Ae 128 ke W 64 .i64 (by omega)
        go_upto_region 20 with fail
        refine wp_region_noPanic ?_
        refine wp_region_held_drew (S := (fun _ => True)) (by kernel_rfl) ?_ (fun hHeld => ?_)
        · ((try dsimp only) <;> (first | trivial | assumption | go_keep))
        replace ST := hide (ST.out.below (Below.refl _ _).drew)
        replace T1 := hide (show ByT 0 w0.heap.size w8.drew Ae 64 (EV.take 64) from (RwAt.below T1.out (Below.refl _ _).drew).lo_ (Nat.zero_le _))
        replace T2 := hide (show ByT 0 w0.heap.size w8.drew (cutA Ae ke 64) 64 (EV.drop 64) from (RwAt.below T2.out (Below.refl _ _).drew).lo_ (Nat.zero_le _))
        generalize w8.drew = w9 at *
        refine tk 0 ?_
        refine tk 1 ?_
        refine tk 2 ?_
        refine tk 3 ?_
        refine tk 4 ?_
        refine tk 5 ?_
        refine wpAnyH_ready (rs := [6]) (by kernel_rfl) (by simp) ?_
        refine AllReadyH.cons (by simp only [List.getElem?_toArray, List.getElem?_cons_succ, List.getElem?_cons_zero]; rfl) (fun K hK => ?_) ?_
        rotate_left 1
        · exact AllReadyH.nil
        go_simp
        refine hK.out _ _ ?_ (fun hHeld2 => ?_)
        · ((try dsimp only) <;> (first | trivial | assumption | go_keep))
        clear hHeld
        have hHeld := hHeld2
        clear hHeld2 hK K
        try simp only [Act.put, List.setIfInBounds_toArray, List.set_cons_zero, List.set_cons_succ]
        clear hs1 hs2
        have BA := hide ((Below.refl w9.heap.size w9).alloc (Nat.le_refl _) (.cells #[.slice Ae 64 ke, .slice (cutA Ae ke 64) 64 (ke - 64)] 26))
        have PC := hide (put_any w0 _ d E (ST.out.below BA.out).ld k _ 2 2 [EV.take 64, EV.drop 64] (bs_two (base := w0.heap.size) T1.out T2.out (by have := KE.out; omega) (by have := KE.out; omega)) (by
          intro b hb
          have := HEL.out
          simp only [List.mem_cons, List.not_mem_nil, or_false] at hb
          rcases hb with rfl | rfl
          · rw [List.length_take]; omega
          · rw [List.length_drop]; omega) (by have := PB.out.2.2; have := HN.out.1; omega) (by have := HQ.out; have := PB.out; omega) (by have := HQ.out; have := PB.out; omega))
        replace ST := hide (ST.out.below BA.out)
        obtain ⟨P, hP⟩ : ∃ P, P = putS E k [EV.take 64, EV.drop 64] := ⟨_, rfl⟩
        have PB2 := hide (show P.2.steps ≤ D.steps + 220 by
          have := (putS_bd [EV.take 64, EV.drop 64] E k).1
          rw [← hP] at this
          have := PB.out
          simp only [List.length_cons, List.length_nil] at *
          omega)
        rw [← hP] at PC HP
        clear hP
        refine wpAnyH_ready (rs := [7]) (by kernel_rfl) (by simp) ?_
        refine AllReadyH.cons (by simp only [List.getElem?_toArray, List.getElem?_cons_succ, List.getElem?_cons_zero]; rfl) (fun K hK => ?_) ?_
        rotate_left 1
        · exact AllReadyH.nil
        go_simp
        refine PC.out.mono ?_; rintro r w5 ⟨rfl, hst⟩; replace ST := hide (ST.out.trans hst); clear hst
        refine hK.out _ _ ?_ (fun hHeld2 => ?_)
        · ((try dsimp only) <;> (first | trivial | assumption | go_keep))
        clear hHeld
        have hHeld := hHeld2
        clear hHeld2 hK K
        try simp only [Act.put, List.setIfInBounds_toArray, List.set_cons_zero, List.set_cons_succ]
        refine tk 8 ?_
        refine wpAnyH_done (by kernel_rfl) ?_ _
        refine NoPanic.normal ?_
        clear hHeld PC BA T1 T2
        obtain ⟨pc, E2⟩ := P
        dsimp only at PB2 ST ⊢
        by_cases hpc : pc = 0
        · subst hpc
          replace HP := hide (show R = barS E2 from HP.out)
          have BC := hide (bar_any ST.out.ld (by have := HQ.out; have := PB2.out; omega))
          rw [← HP.out] at BC
          go_wp2_with fail
          refine BC.out.mono ?_
          rintro r w6 ⟨rfl, hst⟩
          have ST2 := hide (ST.out.trans hst)
          clear hst BC
          go_wp2_with fail
          go_ret
          exact ⟨rfl, ST2.out⟩
        · have hpn : (pc != 0) = true := bne_iff_ne.2 hpc
          replace HP := hide (show R = (pc, E2) by rw [HP.out]; unfold andS; rw [if_neg hpc])
          clear hpc
          go_wp2_with fail
          go_ret
          rw [HP.out]
          exact ⟨rfl, ST.out⟩
end Go.Proofs.YtlobkefacnedeaaDoor
