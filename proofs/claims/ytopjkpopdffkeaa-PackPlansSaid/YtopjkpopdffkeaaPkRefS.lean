/- The reference's plan, plainly; and that the packer's is the same. -/
import Derived.Test.YtopjkpopdffkeaaPkAllS
namespace Go.Proofs.Ytopjkpopdffkeaa

/-- A reference item: which file (or -1), which number. -/
abbrev RI := Int × Int
structure FWd where
  words : Nat
  same : Nat
  prev : Int
  ok : Bool
def fstep (q : FWd) (x : RI) : FWd :=
  if q.ok = false then q
  else if x.1 < 0 then ⟨q.words + 1, q.same, x.1, true⟩
  else if x.1 = q.prev then ⟨q.words + 2, q.same + 1, x.1, decide (q.same + 1 ≤ 30)⟩
  else ⟨q.words + 6, 1, x.1, true⟩
def fs0 : FWd := ⟨10, 0, -2, true⟩
def fitsP (l : List RI) (left : Int) : Prop := (l.foldl fstep fs0).ok = true ∧ ((2 + l.length : Nat) : Int) ≤ left ∧ (l.foldl fstep fs0).words ≤ 88
instance (l : List RI) (left : Int) : Decidable (fitsP l left) := by unfold fitsP; infer_instance
/-- What the law gathers of a piece of the reference's. -/
structure GS where
  last : Int
  fs : List FI
  is : List Int
def sstep (files : List FI) (q : GS) (x : RI) : GS :=
  if x.1 < 0 then { q with is := q.is ++ [x.2] }
  else match files[x.1.toNat]? with
    | none => q
    | some f => ⟨x.1, (filesL q.last x.1 f ⟨false, q.fs, []⟩).set ((filesL q.last x.1 f ⟨false, q.fs, []⟩).length - 1) { lastL (filesL q.last x.1 f ⟨false, q.fs, []⟩) with ls := (lastL (filesL q.last x.1 f ⟨false, q.fs, []⟩)).ls ++ [x.2] }, q.is⟩
def gs0 : GS := ⟨-2, [], []⟩
structure RSt where
  out : List (Bool × List RI)
  left : Int
def lastR (st : RSt) : Bool × List RI := st.out.getLastD (false, [])
def begR (sz : Int) (out : List (Bool × List RI)) (left : Int) (x : RI) : RSt := ⟨out ++ [(decide (left < 3), [x])], if left < 3 then sz else left⟩
def rstep (sz : Int) (st : RSt) (x : RI) : RSt :=
  if st.out = [] then begR sz st.out st.left x
  else if fitsP ((lastR st).2 ++ [x]) st.left then { st with out := st.out.set (st.out.length - 1) ((lastR st).1, (lastR st).2 ++ [x]) }
  else begR sz st.out (st.left - 2 - ((lastR st).2.length : Int)) x
def goR (sz : Int) : List RI → RSt → Option RSt
  | [], st => some st
  | x :: xs, st => if 64 < (rstep sz st x).out.length then none else goR sz xs (rstep sz st x)
def itR : It → RI
  | .b i _ n => ((i : Int), n)
  | .v n => (-1, n)
/-- A piece is the reference's. -/
structure PR (files : List FI) (a : Bool × List RI) (p : PcP) : Prop where
  nw : p.nw = a.1
  fs : p.fs = (a.2.foldl (sstep files) gs0).fs
  is : p.is = (a.2.foldl (sstep files) gs0).is
  blk : blkN p.fs p.is = 2 + a.2.length
  mem : ∀ x ∈ a.2, x.1 < 0 ∨ x.1.toNat < files.length
structure LV (files : List FI) (a : Bool × List RI) (p : PcP) : Prop where
  pr : PR files a p
  ok : (a.2.foldl fstep fs0).ok = true
  sz : (a.2.foldl fstep fs0).words = szN p.fs p.is
structure LB (files : List FI) (a : Bool × List RI) (file : Int) (p : PcP) : Prop where
  lv : LV files a p
  prev : (a.2.foldl fstep fs0).prev = file
  last : (a.2.foldl (sstep files) gs0).last = file
  pos : 0 ≤ file
  ne : p.fs ≠ []
  same : (a.2.foldl fstep fs0).same = (lastL p.fs).ls.length
  le : (lastL p.fs).ls.length ≤ 30
theorem snoc_f (l : List RI) (x : RI) : (l ++ [x]).foldl fstep fs0 = fstep (l.foldl fstep fs0) x := by rw [List.foldl_append]; rfl
theorem snoc_s (files : List FI) (l : List RI) (x : RI) : (l ++ [x]).foldl (sstep files) gs0 = sstep files (l.foldl (sstep files) gs0) x := by rw [List.foldl_append]; rfl
theorem fstep_v {q : FWd} (h : q.ok = true) (n : Int) : fstep q (-1, n) = ⟨q.words + 1, q.same, -1, true⟩ := by
  unfold fstep
  rw [if_neg (by rw [h]; decide), if_pos (show (-1 : Int) < 0 by decide)]
theorem fstep_eq {q : FWd} (h : q.ok = true) {i : Int} (hi : ¬ i < 0) (hp : i = q.prev) (n : Int) : fstep q (i, n) = ⟨q.words + 2, q.same + 1, i, decide (q.same + 1 ≤ 30)⟩ := by
  unfold fstep
  rw [if_neg (by rw [h]; decide), if_neg hi, if_pos hp]
theorem fstep_new {q : FWd} (h : q.ok = true) {i : Int} (hi : ¬ i < 0) (hp : ¬ i = q.prev) (n : Int) : fstep q (i, n) = ⟨q.words + 6, 1, i, true⟩ := by
  unfold fstep
  rw [if_neg (by rw [h]; decide), if_neg hi, if_neg hp]
theorem sstep_v (files : List FI) (q : GS) (n : Int) : sstep files q (-1, n) = { q with is := q.is ++ [n] } := by
  unfold sstep
  rw [if_pos (show (-1 : Int) < 0 by decide)]
theorem sstep_b {files : List FI} {q : GS} {i : Int} (hi : ¬ i < 0) {f : FI} (hf : files[i.toNat]? = some f) (n : Int) : sstep files q (i, n) = ⟨i, (filesL q.last i f ⟨false, q.fs, []⟩).set ((filesL q.last i f ⟨false, q.fs, []⟩).length - 1) { lastL (filesL q.last i f ⟨false, q.fs, []⟩) with ls := (lastL (filesL q.last i f ⟨false, q.fs, []⟩)).ls ++ [n] }, q.is⟩ := by
  unfold sstep
  rw [if_neg hi, hf]
/-- An inode more. -/
theorem lv_v {files : List FI} {a : Bool × List RI} {file left n : Int} {p : PcP} (h : LV files a p) : LV files (a.1, a.2 ++ [(-1, n)]) (addI n file p).1 ∧ (fitsP (a.2 ++ [(-1, n)]) left ↔ fitP left (addI n file p).1) := by
  have hf : (a.2 ++ [((-1 : Int), n)]).foldl fstep fs0 = ⟨(a.2.foldl fstep fs0).words + 1, (a.2.foldl fstep fs0).same, -1, true⟩ := by
    rw [snoc_f, fstep_v h.ok]
  have hs : (a.2 ++ [((-1 : Int), n)]).foldl (sstep files) gs0 = { (a.2.foldl (sstep files) gs0) with is := (a.2.foldl (sstep files) gs0).is ++ [n] } := by
    rw [snoc_s, sstep_v]
  have hb : blkN p.fs (p.is ++ [n]) = 2 + (a.2 ++ [((-1 : Int), n)]).length := by
    have := h.pr.blk
    unfold blkN at this ⊢
    rw [List.length_append, List.length_append, List.length_singleton, List.length_singleton]
    omega
  have hz : (a.2.foldl fstep fs0).words + 1 = szN p.fs (p.is ++ [n]) := by
    rw [h.sz]
    unfold szN
    rw [List.length_append, List.length_singleton]
    omega
  refine ⟨⟨⟨h.pr.nw, by rw [hs]; exact h.pr.fs, by rw [hs]; show p.is ++ [n] = _; rw [h.pr.is], hb, fun x hx => ?_⟩, by rw [hf], by rw [hf]; exact hz⟩, ?_⟩
  · rcases List.mem_append.1 hx with hx | hx
    · exact h.pr.mem x hx
    · rw [List.mem_singleton.1 hx]; exact .inl (show (-1 : Int) < 0 by decide)
  · unfold fitsP fitP
    rw [hf]
    show true = true ∧ _ ∧ _ ↔ ((blkN p.fs (p.is ++ [n]) : Nat) : Int) ≤ left ∧ szN p.fs (p.is ++ [n]) ≤ 88
    rw [hb, ← hz]
    simp
/-- A block more. -/
theorem lb_b {files : List FI} {a : Bool × List RI} {file left n : Int} {i : Nat} {f : FI} {p : PcP} (h : LB files a file p) (hi : files[i]? = some f) :
    ((addL file (i : Int) f n p).2 = true → LB files (a.1, a.2 ++ [((i : Int), n)]) (i : Int) (addL file (i : Int) f n p).1) ∧ (fitsP (a.2 ++ [((i : Int), n)]) left ↔ (addL file (i : Int) f n p).2 = true ∧ fitP left (addL file (i : Int) f n p).1) := by
  have hil : (i : Int).toNat = i := rfl
  have hlt := (List.getElem?_eq_some_iff.1 hi).1
  have hn0 : ¬ (i : Int) < 0 := by omega
  have hfs := h.lv.pr.fs
  have hs : (a.2 ++ [((i : Int), n)]).foldl (sstep files) gs0 = ⟨(i : Int), (filesL file (i : Int) f p).set ((filesL file (i : Int) f p).length - 1) { lastL (filesL file (i : Int) f p) with ls := (lastL (filesL file (i : Int) f p)).ls ++ [n] }, p.is⟩ := by
    rw [snoc_s, sstep_b hn0 (by rw [hil]; exact hi), h.last]
    have : filesL file (i : Int) f ⟨false, (a.2.foldl (sstep files) gs0).fs, []⟩ = filesL file (i : Int) f p := by unfold filesL; rw [hfs]
    dsimp only
    rw [this, h.lv.pr.is]
  have hmem : ∀ x ∈ a.2 ++ [((i : Int), n)], x.1 < 0 ∨ x.1.toNat < files.length := fun x hx => by
    rcases List.mem_append.1 hx with hx | hx
    · exact h.lv.pr.mem x hx
    · rw [List.mem_singleton.1 hx]; exact .inr hlt
  have hlen : (a.2 ++ [((i : Int), n)]).length = a.2.length + 1 := by simp
  have hblk := h.lv.pr.blk
  have hsz := h.lv.sz
  by_cases he : file = (i : Int)
  · have hf : (a.2 ++ [((i : Int), n)]).foldl fstep fs0 = ⟨(a.2.foldl fstep fs0).words + 2, (a.2.foldl fstep fs0).same + 1, (i : Int), decide ((a.2.foldl fstep fs0).same + 1 ≤ 30)⟩ := by
      rw [snoc_f, fstep_eq h.lv.ok hn0 (by rw [h.prev, he])]
    have eL : filesL file (i : Int) f p = p.fs := by unfold filesL; rw [if_pos he]
    have hsm := h.same
    by_cases h30 : (lastL p.fs).ls.length = 30
    · have hno : ¬ (addL file (i : Int) f n p).2 = true := by unfold addL; rw [eL, if_pos h30]; simp
      refine ⟨fun e => absurd e hno, ⟨fun e => ?_, fun e => absurd e.1 hno⟩⟩
      have := e.1
      rw [hf] at this
      simp only [decide_eq_true_eq] at this
      omega
    · have hle := h.le
      rw [show decide ((a.2.foldl fstep fs0).same + 1 ≤ 30) = true from decide_eq_true (by omega)] at hf
      have eA : addL file (i : Int) f n p = ({ p with fs := p.fs.dropLast ++ [{ lastL p.fs with ls := (lastL p.fs).ls ++ [n] }] }, true) := by
        unfold addL
        rw [eL, if_neg h30, set_lastQ h.ne]
      rw [eL, set_lastQ h.ne] at hs
      have hd := lsN_dropLast h.ne
      have hlsn : lsN (p.fs.dropLast ++ [{ lastL p.fs with ls := (lastL p.fs).ls ++ [n] }]) = lsN p.fs + 1 := by
        rw [lsN_app, hd]
        have : lsN [{ lastL p.fs with ls := (lastL p.fs).ls ++ [n] }] = (lastL p.fs).ls.length + 1 := by simp [lsN, sumN]
        omega
      have hfl : (p.fs.dropLast ++ [{ lastL p.fs with ls := (lastL p.fs).ls ++ [n] }]).length = p.fs.length := by
        have := List.length_pos_iff.2 h.ne
        rw [List.length_append, List.length_dropLast, List.length_singleton]; omega
      have hb2 : blkN (p.fs.dropLast ++ [{ lastL p.fs with ls := (lastL p.fs).ls ++ [n] }]) p.is = 2 + (a.2 ++ [((i : Int), n)]).length := by
        unfold blkN at hblk ⊢
        rw [hlsn, hlen]; omega
      have hz2 : (a.2.foldl fstep fs0).words + 2 = szN (p.fs.dropLast ++ [{ lastL p.fs with ls := (lastL p.fs).ls ++ [n] }]) p.is := by
        rw [hsz]
        unfold szN
        rw [hlsn, hfl]; omega
      have hls : (lastL (p.fs.dropLast ++ [{ lastL p.fs with ls := (lastL p.fs).ls ++ [n] }])).ls.length = (lastL p.fs).ls.length + 1 := by
        rw [lastL_snoc]
        show ((lastL p.fs).ls ++ [n]).length = _
        rw [List.length_append]; rfl
      rw [eA]
      dsimp only
      refine ⟨fun _ => ⟨⟨⟨h.lv.pr.nw, by rw [hs], by rw [hs], hb2, hmem⟩, by rw [hf], by rw [hf]; exact hz2⟩, by rw [hf], by rw [hs], Int.natCast_nonneg i, by simp, by rw [hf, hls, ← hsm], by rw [hls]; omega⟩, ?_⟩
      unfold fitsP fitP
      rw [hf]
      show true = true ∧ _ ∧ _ ↔ true = true ∧ ((blkN (p.fs.dropLast ++ [{ lastL p.fs with ls := (lastL p.fs).ls ++ [n] }]) p.is : Nat) : Int) ≤ left ∧ szN (p.fs.dropLast ++ [{ lastL p.fs with ls := (lastL p.fs).ls ++ [n] }]) p.is ≤ 88
      rw [hb2, ← hz2]
  · have hf : (a.2 ++ [((i : Int), n)]).foldl fstep fs0 = ⟨(a.2.foldl fstep fs0).words + 6, 1, (i : Int), true⟩ := by
      rw [snoc_f, fstep_new h.lv.ok hn0 (by rw [h.prev]; exact fun e => he e.symm)]
    have eL : filesL file (i : Int) f p = p.fs ++ [⟨f.ino, f.ver, []⟩] := by unfold filesL; rw [if_neg he]
    have eA : addL file (i : Int) f n p = ({ p with fs := p.fs ++ [⟨f.ino, f.ver, [n]⟩] }, true) := by
      unfold addL
      rw [eL, lastL_snoc, if_neg (by simp), set_lastQ (by simp), List.dropLast_concat]
      rfl
    rw [eL, lastL_snoc, set_lastQ (by simp), List.dropLast_concat] at hs
    have hlsn : lsN (p.fs ++ [⟨f.ino, f.ver, [n]⟩]) = lsN p.fs + 1 := by rw [lsN_app]; rfl
    have hb2 : blkN (p.fs ++ [⟨f.ino, f.ver, [n]⟩]) p.is = 2 + (a.2 ++ [((i : Int), n)]).length := by
      unfold blkN at hblk ⊢
      rw [hlsn, hlen]; omega
    have hz2 : (a.2.foldl fstep fs0).words + 6 = szN (p.fs ++ [⟨f.ino, f.ver, [n]⟩]) p.is := by
      rw [hsz]
      unfold szN
      rw [hlsn, List.length_append, List.length_singleton]; omega
    rw [eA]
    dsimp only
    refine ⟨fun _ => ⟨⟨⟨h.lv.pr.nw, by rw [hs]; rfl, by rw [hs], hb2, hmem⟩, by rw [hf], by rw [hf]; exact hz2⟩, by rw [hf], by rw [hs], Int.natCast_nonneg i, by simp, by rw [hf, lastL_snoc]; rfl, by rw [lastL_snoc]; exact (by decide : (1 : Nat) ≤ 30)⟩, ?_⟩
    unfold fitsP fitP
    rw [hf]
    show true = true ∧ _ ∧ _ ↔ true = true ∧ ((blkN (p.fs ++ [⟨f.ino, f.ver, [n]⟩]) p.is : Nat) : Int) ≤ left ∧ szN (p.fs ++ [⟨f.ino, f.ver, [n]⟩]) p.is ≤ 88
    rw [hb2, ← hz2]
/-- A piece of one item. -/
theorem lb_one {files : List FI} {i : Nat} {f : FI} (hi : files[i]? = some f) (n : Int) (b : Bool) : LB files (b, [((i : Int), n)]) (i : Int) ⟨b, [⟨f.ino, f.ver, [n]⟩], []⟩ := by
  have hlt := (List.getElem?_eq_some_iff.1 hi).1
  have hn0 : ¬ (i : Int) < 0 := by omega
  have hf : [((i : Int), n)].foldl fstep fs0 = ⟨16, 1, (i : Int), true⟩ := by
    show fstep fs0 ((i : Int), n) = _
    rw [fstep_new rfl hn0 (by show ¬ (i : Int) = -2; omega)]
    rfl
  have hs : [((i : Int), n)].foldl (sstep files) gs0 = ⟨(i : Int), [⟨f.ino, f.ver, [n]⟩], []⟩ := by
    show sstep files gs0 ((i : Int), n) = _
    rw [sstep_b hn0 (by rw [show (i : Int).toNat = i from rfl]; exact hi)]
    have e : filesL (-2) (i : Int) f ⟨false, [], []⟩ = [⟨f.ino, f.ver, []⟩] := by unfold filesL; rw [if_neg (by omega)]; rfl
    show (⟨_, _, _⟩ : GS) = _
    rw [show gs0.last = -2 from rfl, show gs0.fs = [] from rfl, e]
    rfl
  exact ⟨⟨⟨rfl, by rw [hs], by rw [hs], rfl, fun x hx => by rw [List.mem_singleton.1 hx]; exact .inr hlt⟩, by rw [hf], by rw [hf]; rfl⟩, by rw [hf], by rw [hs], Int.natCast_nonneg i, by simp, by rw [hf]; rfl, by show (1 : Nat) ≤ 30; decide⟩
theorem lv_one (files : List FI) (n : Int) (b : Bool) : LV files (b, [((-1 : Int), n)]) ⟨b, [], [n]⟩ :=
  ⟨⟨rfl, rfl, rfl, rfl, fun x hx => by rw [List.mem_singleton.1 hx]; exact .inl (show (-1 : Int) < 0 by decide)⟩, rfl, rfl⟩
/-- Both plans, step by step. -/
structure SI (files : List FI) (done : List It) (st : PkS) (rs : RSt) : Prop where
  len : st.out.length = rs.out.length
  left : st.left = rs.left
  all : ∀ (j : Nat) (a : Bool × List RI) (p : PcP), rs.out[j]? = some a → st.out[j]? = some p → PR files a p
  lv : st.out ≠ [] → LV files (lastR rs) (lastP st)
  lb : st.out ≠ [] → (∀ x ∈ done, x.isB) → LB files (lastR rs) st.file (lastP st)
theorem set_lt {α : Type} {l : List α} {i j : Nat} {x y : α} (h : (l.set i x)[j]? = some y) : (i = j ∧ y = x ∧ j < l.length) ∨ (i ≠ j ∧ l[j]? = some y) := by
  by_cases e : i = j
  · subst e
    rw [List.getElem?_set] at h
    simp only [if_true] at h
    split at h
    · injection h with h; exact .inl ⟨rfl, h.symm, by assumption⟩
    · cases h
  · rw [List.getElem?_set_ne e] at h
    exact .inr ⟨e, h⟩
theorem snoc_get {α : Type} {l : List α} {j : Nat} {x y : α} (h : (l ++ [x])[j]? = some y) : l[j]? = some y ∨ (j = l.length ∧ y = x) := by
  rcases Nat.lt_trichotomy j l.length with hj | hj | hj
  · rw [List.getElem?_append_left hj] at h; exact .inl h
  · subst hj
    rw [List.getElem?_append_right (Nat.le_refl _), Nat.sub_self] at h
    injection h with h
    exact .inr ⟨rfl, h.symm⟩
  · rw [List.getElem?_eq_none (by rw [List.length_append]; simp; omega)] at h
    cases h
theorem sim_step {files : List FI} {inos : List Int} {sz : Int} {done rest : List It} {st : PkS} {rs : RSt} {x : It} (h8 : 8 ≤ sz) (ha : itemsA files inos = done ++ x :: rest) (hJ : JP sz st) (hL : JL st) (h : SI files done st rs) : SI files (done ++ [x]) (actOf x st) (rstep sz rs (itR x)) := by
  have hne : st.out = [] ↔ rs.out = [] := by
    have := h.len
    constructor
    · intro e; rw [e] at this; exact List.eq_nil_of_length_eq_zero this.symm
    · intro e; rw [e] at this; exact List.eq_nil_of_length_eq_zero this
  -- both begin a piece
  have hbeg : ∀ (add : Int → PcP → PcP × Bool) (left : Int) (b : Bool) (st' : PkS), left = (if st.out = [] then st.left else st.left - blkN (lastP st).fs (lastP st).is) → b = decide (left ≤ 2) →
      st'.out = st.out ++ [(add (-1) ⟨b, [], []⟩).1] → lastP st' = (add (-1) ⟨b, [], []⟩).1 → st'.left = (if left ≤ 2 then sz else left) → (LV files (b, [itR x]) (add (-1) ⟨b, [], []⟩).1) → (x.isB → LB files (b, [itR x]) st'.file (add (-1) ⟨b, [], []⟩).1) →
      (st.out ≠ [] → ¬ fitsP ((lastR rs).2 ++ [itR x]) rs.left) → SI files (done ++ [x]) st' (rstep sz rs (itR x)) := fun add left b st' e1 e2 e3 e4 e5 hv hb hno => by
    have hr : rstep sz rs (itR x) = begR sz rs.out left (itR x) := by
      unfold rstep
      by_cases ho : st.out = []
      · rw [if_pos (hne.1 ho), e1, if_pos ho, h.left]
      · rw [if_neg (fun e => ho (hne.2 e)), if_neg (hno ho), e1, if_neg ho, (h.lv ho).pr.blk, h.left]
        congr 1
        omega
    have hd : decide (left < 3) = b := by rw [e2]; congr 1; exact propext ⟨fun h => by omega, fun h => by omega⟩
    have hlr : lastR (begR sz rs.out left (itR x)) = (b, [itR x]) := by
      unfold lastR begR
      rw [List.getLastD_eq_getLast?, List.getLast?_append, hd]
      rfl
    rw [hr]
    refine ⟨?_, ?_, fun j a p hj hp => ?_, fun _ => ?_, fun _ hal => ?_⟩
    · rw [e3]; unfold begR; rw [List.length_append, List.length_append, h.len]; rfl
    · rw [e5]
      show _ = if left < 3 then sz else left
      by_cases hc : left ≤ 2
      · rw [if_pos hc, if_pos (by omega)]
      · rw [if_neg hc, if_neg (by omega)]
    · rw [e3] at hp
      unfold begR at hj
      rw [hd] at hj
      rcases snoc_get hj with hj | ⟨j1, j2⟩
      · rcases snoc_get hp with hp | ⟨k1, k2⟩
        · exact h.all j a p hj hp
        · have := (List.getElem?_eq_some_iff.1 hj).1
          have := h.len
          omega
      · rcases snoc_get hp with hp | ⟨k1, k2⟩
        · have := (List.getElem?_eq_some_iff.1 hp).1
          have := h.len
          omega
        · rw [j2, k2]; exact hv.pr
    · rw [hlr, e4]; exact hv
    · rw [hlr, e4]; exact hb (hal x (by simp))
  -- both fill the last one
  have hfill : ∀ (q : PcP) (st' : PkS), st.out ≠ [] → st'.out = st.out.set (st.out.length - 1) q → st'.left = st.left → lastP st' = q → fitsP ((lastR rs).2 ++ [itR x]) rs.left → LV files ((lastR rs).1, (lastR rs).2 ++ [itR x]) q →
      ((∀ y ∈ done ++ [x], y.isB) → LB files ((lastR rs).1, (lastR rs).2 ++ [itR x]) st'.file q) → SI files (done ++ [x]) st' (rstep sz rs (itR x)) := fun q st' ho e1 e2 e3 hy hv hb => by
    have hrn : rs.out ≠ [] := fun e => ho (hne.2 e)
    have hr : rstep sz rs (itR x) = { rs with out := rs.out.set (rs.out.length - 1) ((lastR rs).1, (lastR rs).2 ++ [itR x]) } := by
      unfold rstep
      rw [if_neg hrn, if_pos hy]
    have hlr : lastR { rs with out := rs.out.set (rs.out.length - 1) ((lastR rs).1, (lastR rs).2 ++ [itR x]) } = ((lastR rs).1, (lastR rs).2 ++ [itR x]) := by
      show (rs.out.set (rs.out.length - 1) _).getLastD _ = _
      rw [set_lastQ hrn, List.getLastD_eq_getLast?, List.getLast?_append]
      rfl
    rw [hr]
    refine ⟨?_, by rw [e2]; exact h.left, fun j a p hj hp => ?_, fun _ => ?_, fun _ hal => ?_⟩
    · rw [e1, List.length_set]
      show _ = (rs.out.set _ _).length
      rw [List.length_set, h.len]
    · rw [e1] at hp
      rcases set_lt hp with ⟨k1, k2, k3⟩ | ⟨k1, k2⟩
      · rcases set_lt (hj : (rs.out.set _ _)[j]? = _) with ⟨j1, j2, j3⟩ | ⟨j1, j2⟩
        · rw [j2, k2]; exact hv.pr
        · exact absurd (by rw [← h.len]; exact k1) j1
      · rcases set_lt (hj : (rs.out.set _ _)[j]? = _) with ⟨j1, j2, j3⟩ | ⟨j1, j2⟩
        · exact absurd (by rw [h.len]; exact j1) k1
        · exact h.all j a p j2 k2
    · rw [hlr, e3]; exact hv
    · rw [hlr, e3]; exact hb hal
  cases x with
  | b i f n =>
    have hmem : It.b i f n ∈ itemsA files inos := by rw [ha]; simp
    obtain ⟨hf, -⟩ := itemsA_b hmem
    have hdB := before_b ha
    rcases item_cases h8 hJ (empL (i : Int) (Int.natCast_nonneg i) f n) with ⟨h1, h2, hfit, -, h5, h6⟩ | ⟨hno, left, b, e1, e2, h3, h5, h6, -, h7⟩
    · have hB := h.lb h1 hdB
      obtain ⟨k1, k2⟩ := lb_b (left := rs.left) (n := n) hB hf
      have hB' := k1 h2
      refine hfill _ (stepL (i : Int) f n st) h1 (by show (itemS _ st).out = _; rw [h5]) (by show (itemS _ st).left = _; rw [h5]) h6 (k2.2 ⟨h2, by rw [← h.left]; exact hfit⟩) hB'.lv (fun _ => hB')
    · refine hbeg (fun file p => addL file (i : Int) f n p) left b (stepL (i : Int) f n st) e1 e2 h5 h6 h7 ?_ (fun _ => ?_) (fun ho hy => ?_)
      · show LV files (b, [((i : Int), n)]) (addL (-1) (i : Int) f n ⟨b, [], []⟩).1
        rw [addL_emp (i : Int) (Int.natCast_nonneg i)]
        exact (lb_one hf n b).lv
      · show LB files (b, [((i : Int), n)]) (i : Int) (addL (-1) (i : Int) f n ⟨b, [], []⟩).1
        rw [addL_emp (i : Int) (Int.natCast_nonneg i)]
        exact lb_one hf n b
      · obtain ⟨k1, k2⟩ := lb_b (left := rs.left) (n := n) (h.lb ho hdB) hf
        have := k2.1 hy
        exact hno ⟨ho, this.1, by rw [h.left]; exact this.2⟩
  | v n =>
    have hnB : ∀ {P : Prop}, (∀ y ∈ done ++ [It.v n], y.isB) → P := fun hal => (hal (.v n) (by simp)).elim
    rcases item_cases h8 hJ (empI n) with ⟨h1, h2, hfit, -, h5, h6⟩ | ⟨hno, left, b, e1, e2, h3, h5, h6, -, h7⟩
    · obtain ⟨k1, k2⟩ := lv_v (file := st.file) (left := rs.left) (n := n) (h.lv h1)
      exact hfill _ (stepI n st) h1 (by show (itemS _ st).out = _; rw [h5]) (by show (itemS _ st).left = _; rw [h5]) h6 (k2.2 (by rw [← h.left]; exact hfit)) k1 hnB
    · refine hbeg (addI n) left b (stepI n st) e1 e2 h5 h6 h7 (lv_one files n b) (fun e => e.elim) (fun ho hy => ?_)
      obtain ⟨k1, k2⟩ := lv_v (file := st.file) (left := rs.left) (n := n) (h.lv ho)
      exact hno ⟨ho, rfl, by rw [h.left]; exact k2.1 hy⟩
/-- What both answer. -/
def SameP (files : List FI) : Option PkS → Option RSt → Prop
  | none, none => True
  | some st, some rs => st.out.length = rs.out.length ∧ ∀ (j : Nat) (a : Bool × List RI) (p : PcP), rs.out[j]? = some a → st.out[j]? = some p → PR files a p
  | _, _ => False
theorem sim_all {files : List FI} {inos : List Int} {sz : Int} (h8 : 8 ≤ sz) : ∀ (gs done : List It) (st : PkS) (rs : RSt), itemsA files inos = done ++ gs → JP sz st → JL st → SI files done st rs → SameP files (goS (gs.map actOf) st) (goR sz (gs.map itR) rs)
  | [], done, st, rs, _, _, _, h => ⟨h.len, h.all⟩
  | x :: gs, done, st, rs, ha, hJ, hL, h => by
    have h1 := sim_step h8 ha hJ hL h
    have hj := actOf_J (x := x) h8 hJ hL
    rw [List.map_cons, List.map_cons]
    by_cases h64 : 64 < (actOf x st).out.length
    · rw [goS_stop h64, goR, if_pos (by rw [← h1.len]; exact h64)]
      trivial
    · rw [goS_step h64, goR, if_neg (by rw [← h1.len]; exact h64)]
      exact sim_all h8 gs (done ++ [x]) _ _ (by rw [ha]; simp) hj.1 hj.2 h1
theorem plan_ref {files : List FI} {inos : List Int} {left size : Int} (h8 : 8 ≤ size) (h0 : 0 ≤ left) (h1 : left ≤ size) : SameP files (goS (actsA files inos) (startS left size)) (goR size ((itemsA files inos).map itR) ⟨[], left⟩) := by
  rw [actsA_items]
  have hj := start_J h0 h1
  exact sim_all h8 _ [] _ _ rfl hj.1 hj.2 ⟨rfl, rfl, by intro j a p hj; exact absurd hj (by simp), fun e => absurd rfl e, fun e => absurd rfl e⟩
end Go.Proofs.Ytopjkpopdffkeaa
