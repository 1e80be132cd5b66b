import Derived.Test.YtlobkefacnedeaaDoorJa08
import Derived.Lib.SliceRun
import Derived.Laws.CopyOwn
import Derived.Test.YtlobkefacnedeaaDoorJa01
import Derived.Deep.DrawnRows
import Derived.Laws.BitsAllLaws
import Derived.Laws.BitsLemmas
import Derived.Test.YtlobkefacnedeaaDoorProg
import Derived.Test.YtlobkefacnedeaaDoorJa04
set_option linter.unusedVariables false
set_option linter.unusedSimpArgs false
/- The walk over slices.Clone of blocks. -/
namespace Go.Proofs.YtlobkefacnedeaaDoor
open Go.RowKit
set_option maxRecDepth 100000

theorem sureC_one (l : List (List UInt8)) : ∀ u ∈ (sureC l).toList, u.oneCell' = true := fun u hu => by
  simp only [sureC, fl, List.mem_flatMap] at hu
  obtain ⟨x, _, hx⟩ := hu
  simp only [blkC, u8s, List.mem_map] at hx
  obtain ⟨a, _, rfl⟩ := hx
  rfl
theorem sureC_list (l : List (List UInt8)) (hl : ∀ x ∈ l, x.length = 64) : (sureC l).toList.length = l.length * 64 := by
  rw [← sureC_size l hl]; simp
/-- Sizes and zero values, kept whole in a walk. -/
def szK_clone_any : Sem Nat := sizeOf 122
theorem szK_clone_any_keep : sizeOf 122 = szK_clone_any := rfl
def zvK_clone_any : Sem Value := zeroValue 122
theorem zvK_clone_any_keep : zeroValue 122 = zvK_clone_any := rfl
def szL_clone_any : Sem Nat := sizeOf 124
theorem szL_clone_any_keep : sizeOf 124 = szL_clone_any := rfl
attribute [local go_sem ↓] szK_clone_any_keep zvK_clone_any_keep szL_clone_any_keep in
theorem clone_any (w : World) (s c : Nat) (l : List (List UInt8)) (pad : Array Value) (h : Blk w s 122 (sureC l ++ pad)) (hl : ∀ x ∈ l, x.length = 64) (h1 : 1 ≤ l.length) (h2 : l.length ≤ 4096) :
    Calls Tryd.prog 57 #[.slice (some ⟨s, 0, none⟩) l.length c] w fun e w' => ∃ g cap pad', e = .returned (.slice (some ⟨g, 0, none⟩) l.length cap) ∧ w.heap.size ≤ g ∧ Blk w' g 122 (sureC l ++ pad') ∧ Below w.heap.size w w' := by
  obtain ⟨k, hk⟩ : ∃ k, k = 64 := ⟨_, rfl⟩
  have ks : ∀ w, szK_clone_any.run Tryd.prog w = .ok k w := fun w => by rw [hk]; exact Tryd.sizeOf122 w
  have hz : (Tryd.prog.info? 122).map (fun i => (i.zero, i.size, i.bytes)) = some (some (.agg (u8s zero64).toArray), 64, 64) := by kernel_rfl
  obtain ⟨ie, hie, z1, z2, z3⟩ := info_parts hz
  have H := hide h
  have HE := hide (And.intro hie (And.intro z1 (And.intro z2 z3)))
  have hk0 : ¬ k = 0 := by omega
  clear h hk hz hie z1 z2 z3
  have hq := fun W => Lib.run_eql_slice_nil (P := Tryd.prog) W 93 122 (some ⟨s, 0, none⟩) l.length c 0 0 Tryd.underlying93
  have hown : Hid ((w.alloc (.cells #[] 122)).ownsRow w.heap.size 122 64 (.slice (some ⟨w.heap.size, 0, none⟩) 0 0) 0 []) :=
    hide ⟨rfl, .inr ⟨w.heap.size, 0, #[], rfl, Nat.le_refl _, heap_alloc_new w _, Nat.le_refl _, by simp [maxLen], rfl, rfl⟩⟩
  have hnews : Hid (∀ j u, (sureC l).toList[j]? = some u → (w.alloc (.cells #[] 122)).cell? ((⟨s, 0, none⟩ : Addr).add j) = some u) := hide fun j u hu => by
    rw [Addr.add_mid, Nat.zero_add, (H.out.alloc _).cell]
    exact get_app_left (by simpa using hu)
  go_enter Tryd.func57, Tryd.ntmps57
  go_wp2_with (
    at_builtin
    obtain ⟨hie, z1, z2, z3⟩ := HE.out
    refine wpList_append_lies _ rfl (.tmp 5) (.tmp 6) _ rfl w.heap.size 122 ie _ 64 64 Tryd.underlying93 hie z1 z2 z3 (by simp [Value.cells, u8s_length, zero64]) (by decide) (.slice (some ⟨w.heap.size, 0, none⟩) 0 0) 0 [] rfl hown.out ⟨s, 0, none⟩ l.length c (sureC l).toList rfl
      (sureC_list l hl) hnews.out (sureC_one l) (by omega) (by simp only [maxLen]; omega) (by omega) (by simp) _ rfl ?_
    intro g cap w2 hown2 hgrow hat hlt
    have HX := hide (And.intro hown2 (And.intro hgrow hat))
    clear hown2 hgrow hat)
  simp only [Nat.zero_add, List.nil_append] at HX
  go_ret
  obtain ⟨hown2, hgrow, hat⟩ := HX.out
  have hg : w.heap.size ≤ g := by
    rcases hat with h | h
    · simp only [Value.ownBlock, Option.some.injEq] at h; omega
    · rw [h]; simp
  refine ⟨g, cap, ?_⟩
  rcases hown2.2 with ⟨h0, _⟩ | ⟨g', cap', cur, e, e2, e3, e4, e5, e6, e7⟩
  · cases h0
  · injection e with x1 x2 x3
    injection x1 with x1
    injection x1 with x1
    subst x1
    refine ⟨(cur.toList.drop (l.length * 64)).toArray, rfl, hg, ?_, bel_grow ((Below.refl _ _).alloc (Nat.le_refl _) _) hgrow (fun k hk => ?_)⟩
    · have ec : cur = sureC l ++ (cur.toList.drop (l.length * 64)).toArray := by
        apply Array.toList_inj.1
        rw [Array.toList_append, ← e7, List.take_append_drop]
      rw [← ec]
      exact e3
    · simp only [Value.ownBlock, Option.some.injEq] at hk; omega
end Go.Proofs.YtlobkefacnedeaaDoor

/- What a crash leaves, in plain lists. -/
namespace Go.Proofs.YtlobkefacnedeaaDoor
open Go.RowKit
set_option maxRecDepth 100000

/-- A sector of a block. -/
def sect (b : List UInt8) (t : Nat) : List UInt8 := (b.drop (t * 16)).take 16
/-- A block with one sector of another. -/
def spl (a b : List UInt8) (t : Nat) : List UInt8 := a.take (t * 16) ++ sect b t ++ a.drop (t * 16 + 16)
theorem sect_len (b : List UInt8) (t : Nat) (hb : b.length = 64) (ht : t < 4) : (sect b t).length = 16 := by simp [sect]; omega
theorem spl_len (a b : List UInt8) (t : Nat) (ha : a.length = 64) (hb : b.length = 64) (ht : t < 4) : (spl a b t).length = 64 := by
  unfold spl
  rw [List.length_append, List.length_append, sect_len b t hb ht, List.length_take, List.length_drop]; omega
def cutIn (x : Nat × List UInt8) (l : List (List UInt8)) (t : Nat) : List (List UInt8) := l.set x.1 (spl (l.getD x.1 []) x.2 t)
def crash1 (f : Nat → Bool) (x : Nat × List UInt8) (m : Nat) (l : List (List UInt8)) : List (List UInt8) := (List.range m).foldl (fun l t => if f t then cutIn x l t else l) l
theorem crash1_step (f : Nat → Bool) (x : Nat × List UInt8) (m : Nat) (l : List (List UInt8)) : crash1 f x (m + 1) l = if f m then cutIn x (crash1 f x m l) m else crash1 f x m l := by
  unfold crash1
  rw [List.range_succ, List.foldl_append]
  rfl
def crashN (f : Nat → Nat → Bool) (q : List (Nat × List UInt8)) (n : Nat) (l : List (List UInt8)) : List (List UInt8) := (List.range n).foldl (fun l k => match q[k]? with | some x => crash1 (f k) x 4 l | none => l) l
theorem crashN_step (f : Nat → Nat → Bool) (q : List (Nat × List UInt8)) (n : Nat) (l : List (List UInt8)) (x : Nat × List UInt8) (hx : q[n]? = some x) : crashN f q (n + 1) l = crash1 (f n) x 4 (crashN f q n l) := by
  unfold crashN
  rw [List.range_succ, List.foldl_append]
  simp only [List.foldl_cons, List.foldl_nil, hx]
/-- Blocks stay blocks, and as many. -/
def All64 (n : Nat) (l : List (List UInt8)) : Prop := l.length = n ∧ ∀ x ∈ l, x.length = 64
theorem cutIn_64 {n : Nat} {x : Nat × List UInt8} {l : List (List UInt8)} {t : Nat} (h : All64 n l) (hx : x.2.length = 64) (hn : x.1 < n) (ht : t < 4) : All64 n (cutIn x l t) := by
  refine ⟨by unfold cutIn; rw [List.length_set]; exact h.1, fun y hy => ?_⟩
  rcases List.mem_or_eq_of_mem_set hy with hy | hy
  · exact h.2 y hy
  · rw [hy]
    refine spl_len _ _ _ ?_ hx ht
    have hl : x.1 < l.length := by rw [h.1]; exact hn
    rw [List.getD_eq_getElem?_getD, List.getElem?_eq_getElem hl]
    exact h.2 _ (List.getElem_mem hl)
theorem crash1_64 {n : Nat} {f : Nat → Bool} {x : Nat × List UInt8} {l : List (List UInt8)} (h : All64 n l) (hx : x.2.length = 64) (hn : x.1 < n) : ∀ m, m ≤ 4 → All64 n (crash1 f x m l)
  | 0, _ => h
  | m + 1, hm => by
    rw [crash1_step]
    split
    · exact cutIn_64 (crash1_64 h hx hn m (by omega)) hx hn (by omega)
    · exact crash1_64 h hx hn m (by omega)
theorem crashN_64 {n : Nat} {f : Nat → Nat → Bool} {q : List (Nat × List UInt8)} {l : List (List UInt8)} (h : All64 n l) (hq : ∀ x ∈ q, x.2.length = 64 ∧ x.1 < n) : ∀ m, m ≤ q.length → All64 n (crashN f q m l)
  | 0, _ => h
  | m + 1, hm => by
    have hx : q[m]? = some q[m] := List.getElem?_eq_getElem (by omega)
    obtain ⟨h1, h2⟩ := hq _ (List.getElem_mem (show m < q.length by omega))
    rw [crashN_step f q m l _ hx]
    exact crash1_64 (crashN_64 h hq m (by omega)) h1 h2 4 (Nat.le_refl _)
theorem flat_cut {α β : Type} {f : α → List β} {k : Nat} (xs : List α) (hk : ∀ x ∈ xs, (f x).length = k) (i : Nat) (o : Nat) (vs : List β) (ho : o + vs.length ≤ k) (x b : α) (hx : xs[i]? = some x) (hb : f b = (f x).take o ++ vs ++ (f x).drop (o + vs.length)) :
    (xs.flatMap f).take (i * k + o) ++ vs ++ (xs.flatMap f).drop (i * k + o + vs.length) = (xs.set i b).flatMap f := by
  induction xs generalizing i with
  | nil => simp at hx
  | cons y xs ih =>
    have hy := hk y (by simp)
    cases i with
    | zero =>
      simp only [List.getElem?_cons_zero, Option.some.injEq] at hx
      subst hx
      simp only [List.flatMap_cons, List.set_cons_zero, Nat.zero_mul, Nat.zero_add, hb]
      rw [List.take_append_of_le_length (by omega), List.drop_append_of_le_length (by omega)]
      simp only [List.append_assoc]
    | succ i =>
      have := ih (fun z hz => hk z (by simp [hz])) i (by simpa using hx)
      simp only [List.flatMap_cons, List.set_cons_succ]
      rw [show (i + 1) * k + o = (f y).length + (i * k + o) by rw [hy, Nat.succ_mul]; omega, List.take_length_add_append, show (f y).length + (i * k + o) + vs.length = (f y).length + (i * k + o + vs.length) by omega, List.drop_length_add_append, ← this]
      simp only [List.append_assoc]
/-- The row behind a copy of a sector. -/
theorem splice_cut {n : Nat} {l : List (List UInt8)} {pad : Array Value} {x : Nat × List UInt8} {t : Nat} (h : All64 n l) (hx : x.2.length = 64) (hn : x.1 < n) (ht : t < 4) :
    (splice (sureC l ++ pad).toList (x.1 * 64 + t * 16) (u8s (sect x.2 t))).toArray = sureC (cutIn x l t) ++ pad := by
  obtain ⟨h1, h2⟩ := h
  have hl : x.1 < l.length := by omega
  have hsl : (u8s (sect x.2 t)).length = 16 := by rw [u8s_length, sect_len _ _ hx ht]
  have hlen : (l.flatMap blkC).length = l.length * 64 := by
    have := sureC_size l h2
    simpa [sureC, fl] using this
  have hg : l[x.1]? = some (l.getD x.1 []) := by rw [List.getD_eq_getElem?_getD, List.getElem?_eq_getElem hl]; rfl
  have hgl : (l.getD x.1 []).length = 64 := h2 _ (List.mem_of_getElem? hg)
  have e := flat_cut (f := blkC) (k := 64) l (fun y hy => by unfold blkC; rw [u8s_length]; exact h2 y hy) x.1 (t * 16) (u8s (sect x.2 t)) (by omega) _ (spl (l.getD x.1 []) x.2 t) hg (by
    unfold blkC spl
    rw [u8s_append, u8s_append, ← u8s_take, ← u8s_drop, hsl])
  apply Array.toList_inj.1
  have e2 : (sureC l ++ pad).toList = l.flatMap blkC ++ pad.toList := by simp [sureC, fl]
  have e3 : (sureC (cutIn x l t) ++ pad).toList = (cutIn x l t).flatMap blkC ++ pad.toList := by simp [sureC, fl]
  rw [e3]
  unfold cutIn
  rw [← e, e2]
  unfold splice
  rw [List.take_append_of_le_length (by omega), List.drop_append_of_le_length (by omega)]
  simp only [List.append_assoc]
/-- copy into a row that is known whole, as a step of a region that draws. -/
theorem step_copy_row {P : Program} {ops : Array Oper} {o : Oper} {a : Act} {w : World} {K : Act → World → Prop} {Q : Exit → Act → World → Prop} {E : Prop} (hgd : o.guard = none) (d s : Operand) (dT sT : TypeId)
    (ho : o.op = .call { callee := .builtin .copy, args := #[d, s], argTypes := #[dT, sT] }) (elem : TypeId) (hu : P.underlying dT = some (.slice elem)) (hsz : (P.info? elem).map (·.size) = some 1)
    (dp sp : Option Addr) (dLen dCap sLen sCap : Nat) (hd : a.eval d = .slice dp dLen dCap) (hs : a.eval s = .slice sp sLen sCap)
    (g off : Nat) (cur : Array Value) (t : TypeId) (hg : w.heap[g]? = some (.cells cur t (0, 0))) (cs : List Value) (ad : Addr) (hdp : dp = some ⟨g, off, none⟩) (hsp : sp = some ad) (hn : cs.length = Nat.min sLen dLen)
    (hsrc : ∀ j v, cs[j]? = some v → w.cell? (ad.add j) = some v)
    (hfit : off + cs.length ≤ cur.size) (h1 : ∀ v ∈ cs, v.oneCell' = true)
    (h : ∀ w', Hid (w' = w.setRow g (splice cur.toList off cs).toArray) → K (a.put o.dst (goInt cs.length)) w') :
    if Region.wanted o (yielded ops a.tmps) = true then Oper.wp P o a w K Q else E := by
  have hw : Region.wanted o (yielded ops a.tmps) = true := by simp [Region.wanted, hgd]
  rw [if_pos hw]
  subst hdp hsp
  have hrun := run_copy_row (P := P) w dT sT o.type elem g off dLen dCap ad sLen sCap cur t cs hu hsz hg hn hsrc hfit h1
  unfold Oper.wp
  simp [execOp, ho, resolve, invoke, builtin, hd, hs, hrun, Result.andThen]
  exact h _ (hide (by simp [splice]))
theorem blk_row {w : World} {g g' : Nat} {t : TypeId} {cs r : Array Value} (h : Blk w g t cs) (hn : g ≠ g') : Blk (w.setRow g' r) g t cs := (setRow_other w g' g r hn).trans h
/-- What stands behind the copy of a sector. -/
theorem copied {w w' w0 : World} {cd g gw B n t : Nat} {td tb tw : TypeId} {cs ws pad : Array Value} {L : List (List UInt8)} {x : Nat × List UInt8} {o : Nat} (R1 : Blk w cd td cs) (R2 : Blk w g tb (sureC L ++ pad)) (R3 : Blk w gw tw ws) (R4 : Below B w0 w)
    (hB : B ≤ g) (h1 : g ≠ cd) (h2 : g ≠ gw) (ho : o = x.1 * 64 + t * 16) (e : w' = w.drew.setRow g (splice (sureC L ++ pad).toList o (u8s (sect x.2 t))).toArray) (h : All64 n L) (hx : x.2.length = 64) (hn : x.1 < n) (ht : t < 4) :
    Blk w' cd td cs ∧ Blk w' g tb (sureC (cutIn x L t) ++ pad) ∧ Blk w' gw tw ws ∧ Below B w0 w' := by
  subst ho e
  rw [splice_cut h hx hn ht]
  exact ⟨blk_row R1.drew h1.symm, setRow_heap _ _ _ _ _ _ R2.drew, blk_row R3.drew h2.symm, below_setRow R4.drew hB _⟩
theorem sect_src {w : World} {gw : Nat} {tw : TypeId} {x : Nat × List UInt8} (R3 : Blk w gw tw (wrC x).toArray) (t lo : Nat) (hlo : lo = t * 16) : ∀ j v, (u8s (sect x.2 t))[j]? = some v → w.drew.cell? ((⟨gw, 1 + lo, none⟩ : Addr).add j) = some v := fun j v hv => by
  subst hlo
  rw [Addr.add_mid]
  show w.cell? _ = _
  rw [R3.cell]
  unfold sect at hv
  rw [← u8s_take, ← u8s_drop, List.getElem?_take] at hv
  split at hv
  · rw [List.getElem?_drop] at hv
    rw [show 1 + t * 16 + j = t * 16 + j + 1 by omega]
    simpa [wrC] using hv
  · cases hv
end Go.Proofs.YtlobkefacnedeaaDoor

/- The walk over disk.Crash. -/
namespace Go.Proofs.YtlobkefacnedeaaDoor
open Go.RowKit
set_option maxRecDepth 100000

set_option maxRecDepth 100000 in
theorem wrA (m lo : Nat) (hm : m < 4) (h : lo = m * 16) : IntKind.i64.wrap ((m : Int) * 16) = (lo : Int) := by
  subst h
  match m, hm with
  | 0, _ => rfl
  | 1, _ => rfl
  | 2, _ => rfl
  | 3, _ => rfl
set_option maxRecDepth 100000 in
theorem wrB (m hi : Nat) (hm : m < 4) (h : hi = m * 16 + 16) : IntKind.i64.wrap (IntKind.i64.wrap ((m : Int) + 1) * 16) = (hi : Int) := by
  subst h
  match m, hm with
  | 0, _ => rfl
  | 1, _ => rfl
  | 2, _ => rfl
  | 3, _ => rfl
/-- The cut of an array, kept whole in a walk. -/
def sliceAtK_crash_any (t : TypeId) (v : Value) (l h m : Option Value) : Sem Value := Instr.sliceAt t v l h m
theorem sliceAtK_crash_any_keep (t : TypeId) (v : Value) (l h m : Option Value) : Instr.sliceAt t v l h m = sliceAtK_crash_any t v l h m := rfl
set_option maxRecDepth 100000 in
theorem cut_lh (w : World) (b o l h : Nat) (hl : l ≤ h) (hh : h ≤ 64) (h1 : l < 64) (r : Nat) (hr : h - l = r) : (sliceAtK_crash_any 122 (.pointer (some ⟨b, o, none⟩)) (some (.int .i64 (l : Int))) (some (.int .i64 (h : Int))) none).run Tryd.prog w = .ok (.slice (some ⟨b, o + l, none⟩) r (64 - l)) w := by
  unfold sliceAtK_crash_any
  subst hr
  have ht : Tryd.prog.underlying 122 = some (.array (Tryd.prog.arrayLen 122) (Tryd.prog.elem 122)) := by kernel_rfl
  have ha : Tryd.prog.arrayLen 122 = 64 := by kernel_rfl
  have hs : (sizeOf (Tryd.prog.elem 122)).run Tryd.prog w = .ok 1 w := Tryd.sizeOf5 w
  rw [run_sliceAt_array_lh w 122 _ ht .i64 .i64 (l : Int) (h : Int) (by omega) (by omega) (by rw [ha]; omega), hs, ha]
  simp only [Result.andThen_ok, slicedAt, Int.toNat_natCast]
  rw [if_neg (by omega), Nat.mul_one, Addr.add_mid]
set_option maxRecDepth 100000 in
theorem cut_l (w : World) (b o l : Nat) (h1 : l < 64) : (sliceAtK_crash_any 122 (.pointer (some ⟨b, o, none⟩)) (some (.int .i64 (l : Int))) none none).run Tryd.prog w = .ok (.slice (some ⟨b, o + l, none⟩) (64 - l) (64 - l)) w := by
  unfold sliceAtK_crash_any
  have ht : Tryd.prog.underlying 122 = some (.array (Tryd.prog.arrayLen 122) (Tryd.prog.elem 122)) := by kernel_rfl
  have ha : Tryd.prog.arrayLen 122 = 64 := by kernel_rfl
  have hs : (sizeOf (Tryd.prog.elem 122)).run Tryd.prog w = .ok 1 w := Tryd.sizeOf5 w
  rw [run_sliceAt_array_l w 122 _ ht .i64 (l : Int) (by omega) (by rw [ha]; omega), hs, ha]
  simp only [Result.andThen_ok, slicedAt, Int.toNat_natCast]
  rw [if_neg (by omega), Nat.mul_one, Addr.add_mid]
/-- Is this sector of the torn write kept? -/
def bitS (sectors : Int) (t : Nat) : Bool := bits BinOp.and IntKind.i64 (sectors / 2 ^ t) 1 == 1
def crashF (keep : List Bool) (torn sectors : Int) (j t : Nat) : Bool := keep.getD j false || ((j : Int) == torn && bitS sectors t)
/-- The disk behind a crash. -/
def Dsk.crashed (D : Dsk) (f : Nat → Nat → Bool) (cap : Nat) (pad : Array Value) : Dsk := ⟨crashN f D.queue D.queue.length D.sure, [], 0, -1, cap, pad⟩

set_option maxRecDepth 100000 in
theorem crash_end {w wr : World} {g cd cap j : Nat} {pad : Array Value} {D : Dsk} {f : Nat → Nat → Bool} (G1 : Blk wr cd 96 #[.slice (some ⟨g, 0, none⟩) D.sure.length cap, .slice none 0 0, .int .i64 0, .int .i64 (-1)])
    (G2 : Blk wr g 122 (sureC (crashN f D.queue j D.sure) ++ pad)) (G3 : Below w.heap.size w wr) (h1 : w.heap.size ≤ g) (h2 : w.heap.size ≤ cd) (hgd : g ≠ cd) (hj : j = D.queue.length) (h64 : All64 D.sure.length D.sure) (hq : ∀ x ∈ D.queue, x.2.length = 64 ∧ x.1 < D.sure.length) (hn : D.sure.length ≤ 4096) :
    DskA wr w.heap.size cd g (.slice none 0 0) (D.crashed f cap pad) ∧ Below w.heap.size w wr := by
  subst hj
  have h := crashN_64 (f := f) h64 hq D.queue.length (Nat.le_refl _)
  have hl : (D.crashed f cap pad).sure.length = D.sure.length := h.1
  refine ⟨⟨?_, G2, ⟨rfl, .inl ⟨rfl, rfl⟩⟩, hgd.symm, (fun x hx => by cases hx), h2, h1, ⟨h.2, (fun x hx => by cases hx), (by rw [hl]; exact hn), ⟨Int.le_refl _, (by show (-1 : Int) ≤ 9223372036854775807; decide)⟩, Nat.zero_le _, Nat.zero_le _⟩⟩, G3⟩
  rw [hl]
  exact G1

/-- Sizes and zero values, kept whole in a walk. -/
def szK_crash_any : Sem Nat := sizeOf 122
theorem szK_crash_any_keep : sizeOf 122 = szK_crash_any := rfl
def zvK_crash_any : Sem Value := zeroValue 122
theorem zvK_crash_any_keep : zeroValue 122 = zvK_crash_any := rfl
def szL_crash_any : Sem Nat := sizeOf 124
theorem szL_crash_any_keep : sizeOf 124 = szL_crash_any := rfl
attribute [local go_sem ↓] szK_crash_any_keep zvK_crash_any_keep szL_crash_any_keep in
attribute [local go_sem ↓] sliceAtK_crash_any_keep in
set_option maxHeartbeats 1000000 in
set_option maxRecDepth 100000 in
theorem crash_any (w : World) (base d s : Nat) (v : Value) (D : Dsk) (h : DskA w base d s v D) (h1 : 1 ≤ D.sure.length) (B : Nat) (A : Option Addr) (n c : Nat) (keep : List Bool) (hkp : Sl w B A n (keep.map Value.bool)) (hB : B ≤ w.heap.size) (hkn : n ≤ 9223372036854775807) (torn sectors : Int) :
    Calls Tryd.prog 23 #[.pointer (some ⟨d, 0, none⟩), .slice A n c, .int .i64 torn, .int .i64 sectors] w fun e w' => ∃ (d' s' cap : Nat) (pad : Array Value), e = .returned (.pointer (some ⟨d', 0, none⟩)) ∧ DskA w' w.heap.size d' s' (.slice none 0 0) (D.crashed (crashF keep torn sectors) cap pad) ∧ Below w.heap.size w w' := by
  obtain ⟨c0, c1, c2, c3, f1, f2, f3⟩ := dsk_cells h
  have kz' := wr_zero
  obtain ⟨k, hk⟩ : ∃ k, k = 64 := ⟨_, rfl⟩
  have ks : ∀ w, szK_crash_any.run Tryd.prog w = .ok k w := fun w => by rw [hk]; exact Tryd.sizeOf122 w
  obtain ⟨k', hk'⟩ : ∃ k, k = 65 := ⟨_, rfl⟩
  have ks' : ∀ w, szL_crash_any.run Tryd.prog w = .ok k' w := fun w => by rw [hk']; exact Tryd.sizeOf124 w
  have hk0 : ¬ k = 0 := by omega
  have K := hide (And.intro hk hk')
  have H := hide h
  have hn := h.ok.n
  have hqn := h.ok.qn
  have hq := hide h.ok.q
  obtain ⟨AQ, cQ, rfl, hA⟩ := dsk_slice h
  have HA := hide hA
  have HK := hide hkp
  clear hk hk' h hA hkp
  go_enter Tryd.func23, Tryd.ntmps23
  go_wp2_with fail
  refine (clone_any w s _ D.sure D.pad H.out.hs H.out.ok.b h1 hn).mono ?_
  rintro e w1 ⟨g, cap, pad', rfl, hg, hBg, hbl⟩
  have c1' : (w1.alloc (.cells #[.slice (some ⟨g, 0, none⟩) D.sure.length cap, .slice none 0 0, .int .i64 0, .int .i64 (-1)] 96)).cell? ⟨d, 1, none⟩ = some (.slice AQ D.queue.length cQ) := ((H.out.hd.below hbl).alloc _).cell 1
  have hBd := hide (Blk.new w1 96 #[.slice (some ⟨g, 0, none⟩) D.sure.length cap, .slice none 0 0, .int .i64 0, .int .i64 (-1)])
  have hBg' := hide (hBg.alloc (.cells #[.slice (some ⟨g, 0, none⟩) D.sure.length cap, .slice none 0 0, .int .i64 0, .int .i64 (-1)] 96))
  have hbl' := hide (hbl.alloc hbl.size (.cells #[.slice (some ⟨g, 0, none⟩) D.sure.length cap, .slice none 0 0, .int .i64 0, .int .i64 (-1)] 96))
  have hg1 := hide hg
  have hgd : Hid (g ≠ w1.heap.size) := hide (by have := hBg.lt; omega)
  have hdw : Hid (w.heap.size ≤ w1.heap.size) := hide hbl.size
  have h64 : Hid (All64 D.sure.length D.sure) := hide ⟨rfl, H.out.ok.b⟩
  clear hg hBg hbl
  go_wp2_with fail
  clear c1' c1 c0 c2 c3 f1 f2 f3
  generalize w1.heap.size = cd at *
  go_loopw [26] (fun x wr => ∃ j : Nat, j ≤ D.queue.length ∧ x = .int .i64 (j : Int) ∧ Blk wr cd 96 #[.slice (some ⟨g, 0, none⟩) D.sure.length cap, .slice none 0 0, .int .i64 0, .int .i64 (-1)] ∧ Blk wr g 122 (sureC (crashN (crashF keep torn sectors) D.queue j D.sure) ++ pad') ∧ Below w.heap.size w wr) (fun x _ => D.queue.length - (intOf x).toNat)
  case atStart => exact ⟨0, Nat.zero_le _, rfl, hBd.out, hBg'.out, hbl'.out⟩
  case round =>
    obtain ⟨j, hj, rfl, g1, g2, g3⟩ := hrel
    have G1 := hide g1
    have G2 := hide g2
    have G3 := hide g3
    clear g1 g2 g3
    by_cases hlt : j < D.queue.length
    · obtain ⟨x, hx⟩ : ∃ x, D.queue[j]? = some x := ⟨_, List.getElem?_eq_getElem hlt⟩
      obtain ⟨hxl, hxs⟩ := hq.out x (List.mem_of_getElem? hx)
      have Dr := dsk_kp H.out (Kp.of_below (gs := []) G3.out) (by simp) (by simp) (by simp)
      obtain ⟨gq, hAg, -⟩ := HA.out j x hx
      subst hAg
      obtain ⟨g', c', e, hr⟩ := at_queue Dr j x hx
      injection e with e1 e2 e3
      injection e1 with e1
      injection e1 with e1
      subst e1
      clear e2 e3
      obtain ⟨hk, hk'⟩ := K.out
      have hwl : (wrC x).length = k' := by rw [wrC, List.length_cons, u8s_length, hxl, hk']
      have k3 := ld_mid wr gq (j * k') k' _ hwl (by rw [hk']; exact hr)
      have k4 := st_wr wr x (0, zero64) hxl (by unfold zero64; rw [List.length_replicate])
      have hst := hide (crashN_step (crashF keep torn sectors) D.queue j D.sure x hx)
      have hN := hide (crashN_64 (f := crashF keep torn sectors) h64.out hq.out j hj)
      have P1 := hide (G1.out.alloc (.cells (wrC x).toArray 124))
      have P2 := hide (G2.out.alloc (.cells (wrC x).toArray 124))
      have P3 := hide (G3.out.alloc G3.out.size (.cells (wrC x).toArray 124))
      have P4 := hide (Blk.new wr 124 (wrC x).toArray)
      have hgl := hide G2.out.lt
      have hcl := hide G1.out.lt
      have hwr := hide G3.out.size
      clear hk hk' Dr hr hx G1 G2 G3
      by_cases hjk : j < n
      · have hlk : j < keep.length := by have := HK.out.len; rw [List.length_map] at this; omega
        obtain ⟨ad, u, hA', hadb, hu, hcu⟩ := (HK.out.below (P3.out.mono hB)).get hjk
        rw [List.getElem?_map, List.getElem?_eq_getElem hlk] at hu
        simp only [Option.map_some, Option.some.injEq] at hu
        subst hu
        obtain ⟨kb, hkb⟩ : ∃ kb, keep.getD j false = kb := ⟨_, rfl⟩
        have hke : keep[j] = kb := by rw [← hkb, List.getD_eq_getElem?_getD, List.getElem?_eq_getElem hlk]; rfl
        rw [hke] at hcu
        replace hkb := hide hkb
        clear hke
        subst hA'
        go_wp2_with fail
        clear hcu k4 k3
        generalize wr.heap.size = gw at *
        go_loopw [41] (fun y wx => ∃ m : Nat, m ≤ 4 ∧ y = .int .i64 (m : Int) ∧ Blk wx cd 96 #[.slice (some ⟨g, 0, none⟩) D.sure.length cap, .slice none 0 0, .int .i64 0, .int .i64 (-1)] ∧ Blk wx g 122 (sureC (crash1 (crashF keep torn sectors j) x m (crashN (crashF keep torn sectors) D.queue j D.sure)) ++ pad') ∧ Blk wx gw 124 (wrC x).toArray ∧ Below w.heap.size w wx) (fun y _ => 4 - (intOf y).toNat)
        case atStart => exact ⟨0, Nat.zero_le _, rfl, P1.out, P2.out, P4.out, P3.out⟩
        case round =>
          obtain ⟨m, hm4, rfl, g1, g2, g3, g4⟩ := hrel
          have R1 := hide g1
          have R2 := hide g2
          have R3 := hide g3
          have R4 := hide g4
          clear g1 g2 g3 g4
          by_cases hm : m < 4
          · have hcr := crash1_step (crashF keep torn sectors j) x m (crashN (crashF keep torn sectors) D.queue j D.sure)
            have hcf : crashF keep torn sectors j m = (kb || ((j : Int) == torn && bitS sectors m)) := by unfold crashF; rw [hkb.out]
            rw [hcf] at hcr
            replace hcr := hide hcr
            clear hcf
            have r1 : wr.cell? ⟨cd, 0, none⟩ = some (.slice (some ⟨g, 0, none⟩) D.sure.length cap) := R1.out.cell 0
            have r2 : wr.cell? ⟨gw, 0, none⟩ = some (.int .i64 (x.1 : Int)) := R3.out.cell 0
            have hm3 := hide hm
            obtain ⟨lo, hlo⟩ : ∃ lo, lo = m * 16 := ⟨_, rfl⟩
            obtain ⟨hi, hhi⟩ : ∃ hi, hi = m * 16 + 16 := ⟨_, rfl⟩
            have s1 := hide (fun W => cut_lh W g (x.1 * k) lo hi (by omega) (by omega) (by omega) 16 (by omega))
            have s2 := hide (fun W => cut_l W gw 1 lo (by omega))
            have wa := wrA m lo hm hlo
            have wb := wrB m hi hm hhi
            replace s1 := s1.out
            replace s2 := s2.out
            replace hlo := hide hlo
            clear hhi
            have hsz : (Tryd.prog.info? 5).map (·.size) = some 1 := by kernel_rfl
            have hC := hide (crash1_64 (f := crashF keep torn sectors j) hN.out hxl hxs m (by omega))
            have hcl2 : Hid ((u8s (sect x.2 m)).length = Nat.min (64 - lo) 16) := hide (by rw [u8s_length, sect_len _ _ hxl hm]; have := hlo.out; show 16 = min (64 - lo) 16; omega)
            have hsrc := hide (sect_src R3.out m lo hlo.out)
            have hfit : Hid (x.1 * k + lo + (u8s (sect x.2 m)).length ≤ (sureC (crash1 (crashF keep torn sectors j) x m (crashN (crashF keep torn sectors) D.queue j D.sure)) ++ pad').size) := hide (by
              rw [u8s_length, sect_len _ _ hxl hm, Array.size_append, sureC_size _ hC.out.2, hC.out.1, K.out.1, hlo.out]; omega)
            have hgw : Hid (g ≠ gw) := hide (by have := hgl.out; omega)
            replace hcr := hcr.out
            cases kb
            · by_cases ht : (j : Int) = torn
              · subst ht
                rw [beq_self_eq_true, Bool.false_or, Bool.true_and] at hcr
                by_cases hb : bitS sectors m = true
                · rw [if_pos hb] at hcr
                  replace hcr := hide hcr
                  unfold bitS at hb
                  go_wp2_with fail
                  go_region_law (
                    (refine step_copy_row rfl (.tmp 69) (.tmp 73) _ _ rfl 5 Tryd.underlying26 hsz _ _ _ _ _ _ (by rfl) (by rfl) g (x.1 * k + lo) (sureC (crash1 (crashF keep (j : Int) sectors j) x m (crashN (crashF keep (j : Int) sectors) D.queue j D.sure)) ++ pad') 122 R2.out.drew (u8s (sect x.2 m)) ⟨gw, 1 + lo, none⟩ rfl rfl hcl2.out hsrc.out hfit.out (u8s_one _) ?_
                     intro w2 hw2
                     clear wa wb s1 s2 r1 r2))
                  all_goals
                    go_wp2_with fail
                    obtain ⟨q1, q2, q3, q4⟩ := copied R1.out R2.out R3.out R4.out hg1.out hgd.out hgw.out (by rw [K.out.1, hlo.out]) hw2.out hC.out hxl hxs hm3.out
                    rw [← hcr.out] at q2
                    go_roundw
                    case rel =>
                      exact ⟨m + 1, by omega, by go_num, q1, q2, q3, q4⟩
                    case measure => simp [intOf]; omega
                · rw [if_neg hb] at hcr
                  replace hcr := hide hcr
                  unfold bitS at hb
                  go_wp2_with fail
                  have q2 := R2.out
                  rw [← hcr.out] at q2
                  go_roundw
                  case rel =>
                    exact ⟨m + 1, by omega, by go_num, R1.out, q2, R3.out, R4.out⟩
                  case measure => simp [intOf]; omega
              · rw [Bool.false_or, beq_eq_false_iff_ne.2 ht, Bool.false_and, if_neg (by decide)] at hcr
                replace hcr := hide hcr
                go_wp2_with fail
                have q2 := R2.out
                rw [← hcr.out] at q2
                go_roundw
                case rel =>
                  exact ⟨m + 1, by omega, by go_num, R1.out, q2, R3.out, R4.out⟩
                case measure => simp [intOf]; omega
            · rw [Bool.true_or, if_pos rfl] at hcr
              replace hcr := hide hcr
              go_wp2_with fail
              go_region_law (
                (refine step_copy_row rfl (.tmp 69) (.tmp 73) _ _ rfl 5 Tryd.underlying26 hsz _ _ _ _ _ _ (by rfl) (by rfl) g (x.1 * k + lo) (sureC (crash1 (crashF keep torn sectors j) x m (crashN (crashF keep torn sectors) D.queue j D.sure)) ++ pad') 122 R2.out.drew (u8s (sect x.2 m)) ⟨gw, 1 + lo, none⟩ rfl rfl hcl2.out hsrc.out hfit.out (u8s_one _) ?_
                 intro w2 hw2
                 clear wa wb s1 s2 r1 r2))
              all_goals
                go_wp2_with fail
                obtain ⟨q1, q2, q3, q4⟩ := copied R1.out R2.out R3.out R4.out hg1.out hgd.out hgw.out (by rw [K.out.1, hlo.out]) hw2.out hC.out hxl hxs hm3.out
                rw [← hcr.out] at q2
                go_roundw
                case rel =>
                  exact ⟨m + 1, by omega, by go_num, q1, q2, q3, q4⟩
                case measure => simp [intOf]; omega
          · have hm4' : m = 4 := by omega
            subst hm4'
            have R2' : Hid (Blk wr g 122 (sureC (crashN (crashF keep torn sectors) D.queue (j + 1) D.sure) ++ pad')) := by
              rw [hst.out]; exact R2
            clear R2
            go_wp2_with fail
            go_roundw
            case rel => exact ⟨j + 1, by omega, by go_num, R1.out, R2'.out, R4.out⟩
            case measure => simp [intOf]; omega
      · have hkb : Hid (keep.getD j false = false) := hide (by
          have hl := HK.out.len
          rw [List.length_map] at hl
          rw [List.getD_eq_getElem?_getD, List.getElem?_eq_none (by omega)]; rfl)
        go_wp2_with fail
        clear k4 k3
        generalize wr.heap.size = gw at *
        go_loopw [41] (fun y wx => ∃ m : Nat, m ≤ 4 ∧ y = .int .i64 (m : Int) ∧ Blk wx cd 96 #[.slice (some ⟨g, 0, none⟩) D.sure.length cap, .slice none 0 0, .int .i64 0, .int .i64 (-1)] ∧ Blk wx g 122 (sureC (crash1 (crashF keep torn sectors j) x m (crashN (crashF keep torn sectors) D.queue j D.sure)) ++ pad') ∧ Blk wx gw 124 (wrC x).toArray ∧ Below w.heap.size w wx) (fun y _ => 4 - (intOf y).toNat)
        case atStart => exact ⟨0, Nat.zero_le _, rfl, P1.out, P2.out, P4.out, P3.out⟩
        case round =>
          obtain ⟨m, hm4, rfl, g1, g2, g3, g4⟩ := hrel
          have R1 := hide g1
          have R2 := hide g2
          have R3 := hide g3
          have R4 := hide g4
          clear g1 g2 g3 g4
          by_cases hm : m < 4
          · have hcr := crash1_step (crashF keep torn sectors j) x m (crashN (crashF keep torn sectors) D.queue j D.sure)
            have hcf : crashF keep torn sectors j m = (false || ((j : Int) == torn && bitS sectors m)) := by unfold crashF; rw [hkb.out]
            rw [hcf] at hcr
            replace hcr := hide hcr
            clear hcf
            have r1 : wr.cell? ⟨cd, 0, none⟩ = some (.slice (some ⟨g, 0, none⟩) D.sure.length cap) := R1.out.cell 0
            have r2 : wr.cell? ⟨gw, 0, none⟩ = some (.int .i64 (x.1 : Int)) := R3.out.cell 0
            have hm3 := hide hm
            obtain ⟨lo, hlo⟩ : ∃ lo, lo = m * 16 := ⟨_, rfl⟩
            obtain ⟨hi, hhi⟩ : ∃ hi, hi = m * 16 + 16 := ⟨_, rfl⟩
            have s1 := hide (fun W => cut_lh W g (x.1 * k) lo hi (by omega) (by omega) (by omega) 16 (by omega))
            have s2 := hide (fun W => cut_l W gw 1 lo (by omega))
            have wa := wrA m lo hm hlo
            have wb := wrB m hi hm hhi
            replace s1 := s1.out
            replace s2 := s2.out
            replace hlo := hide hlo
            clear hhi
            have hsz : (Tryd.prog.info? 5).map (·.size) = some 1 := by kernel_rfl
            have hC := hide (crash1_64 (f := crashF keep torn sectors j) hN.out hxl hxs m (by omega))
            have hcl2 : Hid ((u8s (sect x.2 m)).length = Nat.min (64 - lo) 16) := hide (by rw [u8s_length, sect_len _ _ hxl hm]; have := hlo.out; show 16 = min (64 - lo) 16; omega)
            have hsrc := hide (sect_src R3.out m lo hlo.out)
            have hfit : Hid (x.1 * k + lo + (u8s (sect x.2 m)).length ≤ (sureC (crash1 (crashF keep torn sectors j) x m (crashN (crashF keep torn sectors) D.queue j D.sure)) ++ pad').size) := hide (by
              rw [u8s_length, sect_len _ _ hxl hm, Array.size_append, sureC_size _ hC.out.2, hC.out.1, K.out.1, hlo.out]; omega)
            have hgw : Hid (g ≠ gw) := hide (by have := hgl.out; omega)
            replace hcr := hcr.out
            by_cases ht : (j : Int) = torn
            · subst ht
              rw [beq_self_eq_true, Bool.false_or, Bool.true_and] at hcr
              by_cases hb : bitS sectors m = true
              · rw [if_pos hb] at hcr
                replace hcr := hide hcr
                unfold bitS at hb
                go_wp2_with fail
                go_region_law (
                  (refine step_copy_row rfl (.tmp 69) (.tmp 73) _ _ rfl 5 Tryd.underlying26 hsz _ _ _ _ _ _ (by rfl) (by rfl) g (x.1 * k + lo) (sureC (crash1 (crashF keep (j : Int) sectors j) x m (crashN (crashF keep (j : Int) sectors) D.queue j D.sure)) ++ pad') 122 R2.out.drew (u8s (sect x.2 m)) ⟨gw, 1 + lo, none⟩ rfl rfl hcl2.out hsrc.out hfit.out (u8s_one _) ?_
                   intro w2 hw2
                   clear wa wb s1 s2 r1 r2))
                all_goals
                  go_wp2_with fail
                  obtain ⟨q1, q2, q3, q4⟩ := copied R1.out R2.out R3.out R4.out hg1.out hgd.out hgw.out (by rw [K.out.1, hlo.out]) hw2.out hC.out hxl hxs hm3.out
                  rw [← hcr.out] at q2
                  go_roundw
                  case rel =>
                    exact ⟨m + 1, by omega, by go_num, q1, q2, q3, q4⟩
                  case measure => simp [intOf]; omega
              · rw [if_neg hb] at hcr
                replace hcr := hide hcr
                unfold bitS at hb
                go_wp2_with fail
                have q2 := R2.out
                rw [← hcr.out] at q2
                go_roundw
                case rel =>
                  exact ⟨m + 1, by omega, by go_num, R1.out, q2, R3.out, R4.out⟩
                case measure => simp [intOf]; omega
            · rw [Bool.false_or, beq_eq_false_iff_ne.2 ht, Bool.false_and, if_neg (by decide)] at hcr
              replace hcr := hide hcr
              go_wp2_with fail
              have q2 := R2.out
              rw [← hcr.out] at q2
              go_roundw
              case rel =>
                exact ⟨m + 1, by omega, by go_num, R1.out, q2, R3.out, R4.out⟩
              case measure => simp [intOf]; omega
          · have hm4' : m = 4 := by omega
            subst hm4'
            have R2' : Hid (Blk wr g 122 (sureC (crashN (crashF keep torn sectors) D.queue (j + 1) D.sure) ++ pad')) := by
              rw [hst.out]; exact R2
            clear R2
            go_wp2_with fail
            go_roundw
            case rel => exact ⟨j + 1, by omega, by go_num, R1.out, R2'.out, R4.out⟩
            case measure => simp [intOf]; omega
    · have hjn : j = D.queue.length := by omega
      have HL := hide (crash_end G1.out G2.out G3.out hg1.out hdw.out hgd.out hjn h64.out hq.out hn)
      go_wp2_with fail
      go_ret
      exact ⟨cd, g, cap, pad', rfl, HL.out⟩
end Go.Proofs.YtlobkefacnedeaaDoor

/- The disk of a law: all that it owns lies above the memory that was there; its calls, each by one contract. -/
namespace Go.Proofs.YtlobkefacnedeaaDoor
open Go.RowKit
set_option maxRecDepth 100000

/-- The disk at block d reads D; it lies above the memory of w0, which is as it was. -/
structure LD (w0 w : World) (d : Nat) (D : Dsk) : Prop where
  ex : ∃ s v, DskA w w0.heap.size d s v D
  bel : Below w0.heap.size w0 w

theorem own_base65 {w : World} {base base' n k : Nat} {e : TypeId} {v : Value} {xs : List Value} (h : w.ownsRow base e k v n xs) (hb : base' ≤ base) : w.ownsRow base' e k v n xs := by
  refine ⟨h.1, ?_⟩
  rcases h.2 with h0 | ⟨g, cap, cur, h1, h2, h3⟩
  · exact .inl h0
  · exact .inr ⟨g, cap, cur, h1, Nat.le_trans hb h2, h3⟩
theorem dsk_base {w : World} {base base' d s : Nat} {v : Value} {D : Dsk} (h : DskA w base d s v D) (hb : base' ≤ base) : DskA w base' d s v D :=
  { h with db := Nat.le_trans hb h.db, sb := Nat.le_trans hb h.sb, hq := own_base65 h.hq hb }
theorem dsk_own {w : World} {base d s : Nat} {v : Value} {D : Dsk} (h : DskA w base d s v D) {g : Nat} (hg : v.ownBlock = some g) : base ≤ g ∧ g < w.heap.size := h.hq.lt g hg

section
variable {w0 w w' : World} {d : Nat} {D : Dsk}
theorem LD.ok (h : LD w0 w d D) : D.Ok := by obtain ⟨_, _, h⟩ := h.ex; exact h.ok
theorem LD.db (h : LD w0 w d D) : w0.heap.size ≤ d := by obtain ⟨_, _, h⟩ := h.ex; exact h.db
theorem LD.lt (h : LD w0 w d D) : d < w.heap.size := by obtain ⟨_, _, h⟩ := h.ex; exact h.hd.lt
theorem LD.sz (h : LD w0 w d D) : w0.heap.size ≤ w.heap.size := h.bel.size
theorem LD.below (h : LD w0 w d D) (hb : Below w.heap.size w w') : LD w0 w' d D := by
  obtain ⟨s, v, hD⟩ := h.ex
  exact ⟨⟨s, v, dsk_kp hD (Kp.of_below (gs := []) hb) (by simp) (by simp) (by simp)⟩, h.bel.trans (hb.mono h.bel.size)⟩
theorem LD.drew (h : LD w0 w d D) : LD w0 w.drew d D := h.below (Below.refl _ _).drew
theorem LD.drewN (h : LD w0 w d D) (n : Nat) : LD w0 (w.drewN n) d D := h.below (bel_dN (Below.refl _ _) n)
theorem LD.alloc (h : LD w0 w d D) (o : Obj) : LD w0 (w.alloc o) d D := h.below ((Below.refl _ _).alloc (Nat.le_refl _) o)
theorem LD.base (h : LD w w' d D) (hb : Below w0.heap.size w0 w) : LD w0 w' d D := by
  obtain ⟨s, v, hD⟩ := h.ex
  exact ⟨⟨s, v, dsk_base hD hb.size⟩, hb.trans (h.bel.mono hb.size)⟩

/-- A block that is none of the disk's. -/
def Out (w0 w : World) (d : Nat) (D : Dsk) (k : Nat) : Prop := k < w.heap.size ∧ ∃ s v, DskA w w0.heap.size d s v D ∧ k ≠ d ∧ k ≠ s ∧ v.ownBlock ≠ some k
theorem dsk_same {base base' s s' : Nat} {v v' : Value} (h : DskA w base d s v D) (h' : DskA w base' d s' v' D) : s = s' ∧ v = v' := by
  have e := h.hd.symm.trans h'.hd
  simp only [Option.some.injEq, Obj.cells.injEq, Array.mk.injEq, List.cons.injEq, Value.slice.injEq, Addr.mk.injEq] at e
  simp at e
  exact e
theorem LD.out (h : LD w0 w d D) (hb : Below w.heap.size w w') {k : Nat} (hk : w.heap.size ≤ k) (hl : k < w'.heap.size) : Out w0 w' d D k := by
  obtain ⟨s, v, hD⟩ := h.ex
  refine ⟨hl, s, v, dsk_kp hD (Kp.of_below (gs := []) hb) (by simp) (by simp) (by simp), ?_, ?_, ?_⟩
  · have := hD.hd.lt; omega
  · have := hD.hs.lt; omega
  · intro e
    have := dsk_own hD e
    omega
theorem Out.below {k : Nat} (h : Out w0 w d D k) (hb : Below w.heap.size w w') : Out w0 w' d D k := by
  obtain ⟨hl, s, v, hD, h1⟩ := h
  exact ⟨Nat.lt_of_lt_of_le hl hb.size, s, v, dsk_kp hD (Kp.of_below (gs := []) hb) (by simp) (by simp) (by simp), h1⟩
/-- Another disk, that lies above B, stays while none of its blocks is written. -/
theorem dsk_keep {B c s : Nat} {v : Value} {C : Dsk} {gs : List Nat} (hC : DskA w B c s v C) (hK : Kp gs w w') (hn : ∀ k, B ≤ k → k < w.heap.size → k ∉ gs) : DskA w' B c s v C :=
  dsk_kp hC hK (hn c hC.db hC.hd.lt) (hn s hC.sb hC.hs.lt) (fun g hg => hn g (dsk_own hC hg).1 (dsk_own hC hg).2)
theorem LD.of {B c s : Nat} {v : Value} {C : Dsk} (hC : DskA w B c s v C) (hB : w0.heap.size ≤ B) (hb : Below w0.heap.size w0 w) : LD w0 w c C := ⟨⟨s, v, dsk_base hC hB⟩, hb⟩
theorem ld_new (w : World) (n : Nat) (h1 : 1 ≤ n) (h2 : n ≤ 4096) :
    Calls Tryd.prog 11 #[.int .i64 (n : Int)] w fun e w' => ∃ d, e = .returned (.tuple #[.pointer (some ⟨d, 0, none⟩), .int .i64 0]) ∧ LD w w' d (freshD n) := by
  refine (new_yes n w h1 h2).mono ?_
  rintro e w' ⟨d, s, rfl, hD, hb⟩
  exact ⟨d, rfl, ⟨s, _, hD⟩, hb⟩
theorem ld_size (h : LD w0 w d D) : Calls Tryd.prog 38 #[.pointer (some ⟨d, 0, none⟩)] w fun e w' => e = .returned (.int .i64 (D.sure.length : Int)) ∧ w = w' := by
  obtain ⟨s, v, hD⟩ := h.ex
  exact dsize_any w _ d s v D hD
theorem ld_steps (h : LD w0 w d D) : Calls Tryd.prog 34 #[.pointer (some ⟨d, 0, none⟩)] w fun e w' => e = .returned (.int .i64 (D.steps : Int)) ∧ w = w' := by
  obtain ⟨s, v, hD⟩ := h.ex
  exact steps_any w _ d s v D hD
theorem ld_arm_no (h : LD w0 w d D) (n : Int) (hn : n < 0) : Calls Tryd.prog 26 #[.pointer (some ⟨d, 0, none⟩), .int .i64 n] w fun e w' => e = .returned (.int .i64 22) ∧ w = w' := by
  obtain ⟨s, v, hD⟩ := h.ex
  exact arm_no w _ d s v D n hD hn
theorem ld_arm_dead (h : LD w0 w d D) (n : Int) (hn : ¬ n < 0) (hl : D.left = 0) : Calls Tryd.prog 26 #[.pointer (some ⟨d, 0, none⟩), .int .i64 n] w fun e w' => e = .returned (.int .i64 102) ∧ w = w' := by
  obtain ⟨s, v, hD⟩ := h.ex
  exact arm_dead w _ d s v D n hD hn hl
theorem ld_arm_ok (h : LD w0 w d D) (n : Int) (h0 : 0 ≤ n) (h1 : n ≤ 9223372036854775807) (hl : D.left ≠ 0) : Calls Tryd.prog 26 #[.pointer (some ⟨d, 0, none⟩), .int .i64 n] w fun e w' => e = .returned (.int .i64 0) ∧ LD w0 w' d { D with left := n } := by
  obtain ⟨s, v, hD⟩ := h.ex
  refine (arm_ok w _ d s v D n hD h0 h1 hl).mono ?_
  rintro e w' ⟨rfl, hD', hk⟩
  exact ⟨rfl, ⟨s, v, hD'⟩, Below.kp2 h.bel hk h.bel.size (by simpa using hD.db)⟩
theorem ld_read_no (h : LD w0 w d D) (i : Int) (hi : ¬ (0 ≤ i ∧ i < D.sure.length)) : Calls Tryd.prog 24 #[.pointer (some ⟨d, 0, none⟩), .int .i64 i] w fun e w' => e = .returned (.tuple #[.slice none 0 0, .int .i64 22]) ∧ w = w' := by
  obtain ⟨s, v, hD⟩ := h.ex
  exact read_no w _ d s v D i hD hi
theorem ld_read (h : LD w0 w d D) (i : Nat) (hi : i < D.sure.length) : Calls Tryd.prog 24 #[.pointer (some ⟨d, 0, none⟩), .int .i64 (i : Int)] w fun e w' => ∃ g, e = .returned (.tuple #[.slice (some ⟨g, 0, none⟩) 64 64, .int .i64 0]) ∧ w.heap.size ≤ g ∧ Blk w' g 122 (u8s (D.read i)).toArray ∧ Below w.heap.size w w' := by
  obtain ⟨s, v, hD⟩ := h.ex
  exact read_yes w _ d s v D i hD hi
theorem read_len {w : World} (h : LD w0 w d D) (i : Nat) (hi : i < D.sure.length) : (D.read i).length = 64 :=
  readQ_len _ _ _ (by rw [List.getD_eq_getElem?_getD, List.getElem?_eq_getElem hi]; exact h.ok.b _ (List.getElem_mem hi)) (fun x hx => (h.ok.q x hx).1)
theorem ld_queue (h : LD w0 w d D) : Calls Tryd.prog 48 #[.pointer (some ⟨d, 0, none⟩)] w fun e w' => ∃ A c, e = .returned (.slice A D.queue.length c) ∧ w'.ownsRow w.heap.size 3 1 (.slice A D.queue.length c) D.queue.length (atC (D.queue.map (·.1))) ∧ Below w.heap.size w w' := by
  obtain ⟨s, v, hD⟩ := h.ex
  exact queue_any w _ d s v D hD
theorem ld_write_no (h : LD w0 w d D) (i : Int) (B : Option Addr) (n c : Nat) (hi : ¬ (0 ≤ i ∧ i < D.sure.length) ∨ n ≠ 64) (hn : n ≤ 9223372036854775807) : Calls Tryd.prog 66 #[.pointer (some ⟨d, 0, none⟩), .int .i64 i, .slice B n c] w fun e w' => e = .returned (.int .i64 22) ∧ w = w' := by
  obtain ⟨s, v, hD⟩ := h.ex
  exact write_no w _ d s v D i B n c hD hi hn
theorem ld_write_dead (h : LD w0 w d D) (i : Nat) (B : Option Addr) (c : Nat) (hi : i < D.sure.length) (hl : D.left = 0) : Calls Tryd.prog 66 #[.pointer (some ⟨d, 0, none⟩), .int .i64 (i : Int), .slice B 64 c] w fun e w' => e = .returned (.int .i64 102) ∧ w = w' := by
  obtain ⟨s, v, hD⟩ := h.ex
  exact write_dead w _ d s v D i B c hD hi hl
/-- A write; its bytes lie at the head of a block that is none of the disk's. -/
theorem ld_write (h : LD w0 w d D) (i : Nat) (g : Nat) (t : TypeId) (b : List UInt8) (cs : Array Value) (hi : i < D.sure.length) (hl : D.left ≠ 0) (hs : D.steps < 1000000) (hq : D.queue.length < 1000000) (hb : b.length = 64) (hg : Blk w g t cs) (hcs : ∀ (j : Nat) (u : Value), (u8s b)[j]? = some u → cs[j]? = some u) (hgd : g ≠ d) :
    Calls Tryd.prog 66 #[.pointer (some ⟨d, 0, none⟩), .int .i64 (i : Int), .slice (some ⟨g, 0, none⟩) 64 64] w fun e w' => e = .returned (.int .i64 0) ∧ LD w0 w' d (D.wrote i b) ∧
      ∃ gs, Kp gs w w' ∧ ∀ k, Out w0 w d D k → k ∉ gs ∧ Out w0 w' d (D.wrote i b) k := by
  obtain ⟨s, v, hD⟩ := h.ex
  refine (write_ok w _ d s v D i ⟨g, 0, none⟩ 64 b hD hi hl hs hq hb (Nat.le_refl _) (fun w' hk j u hu => by
    rw [Addr.add_mid, Nat.zero_add, (hg.kp hk (by simpa using hgd)).cell]
    exact hcs j u hu)).mono ?_
  rintro e w' ⟨rfl, v', hD', hk, hnew⟩
  refine ⟨rfl, ⟨⟨s, v', hD'⟩, ?_⟩, d :: v.ownBlock.toList, hk (d :: v.ownBlock.toList) (by simp) (fun g hg => by simp [hg]), fun k hn => ?_⟩
  · refine Below.kp2 h.bel (hk (d :: v.ownBlock.toList) (by simp) (fun g hg => by simp [hg])) h.bel.size (fun g hg => ?_)
    rcases List.mem_cons.1 hg with rfl | hg
    · exact hD.db
    · exact (dsk_own hD (by simpa using hg)).1
  · obtain ⟨hkl, s2, v2, hD2, n1, n2, n3⟩ := hn
    obtain ⟨rfl, rfl⟩ := dsk_same hD hD2
    have hK := hk (d :: v.ownBlock.toList) (by simp) (fun g hg => by simp [hg])
    refine ⟨?_, Nat.lt_of_lt_of_le hkl hK.size, s, v', hD', n1, n2, ?_⟩
    · intro hm
      rcases List.mem_cons.1 hm with rfl | hm
      · exact n1 rfl
      · exact n3 (by simpa using hm)
    · intro e
      rcases hnew k e with h | h
      · exact n3 h
      · omega
theorem ld_barrier_dead (h : LD w0 w d D) (hl : D.left = 0) : Calls Tryd.prog 42 #[.pointer (some ⟨d, 0, none⟩)] w fun e w' => e = .returned (.int .i64 102) ∧ w = w' := by
  obtain ⟨s, v, hD⟩ := h.ex
  exact barrier_dead w _ d s v D hD hl
theorem ld_barrier (h : LD w0 w d D) (hl : D.left ≠ 0) (hs : D.steps < 1000000) : Calls Tryd.prog 42 #[.pointer (some ⟨d, 0, none⟩)] w fun e w' => e = .returned (.int .i64 0) ∧ LD w0 w' d D.barred ∧
      ∃ gs, Kp gs w w' ∧ ∀ k, Out w0 w d D k → k ∉ gs ∧ Out w0 w' d D.barred k := by
  obtain ⟨s, v, hD⟩ := h.ex
  refine (barrier_ok w _ d s v D hD hl hs).mono ?_
  rintro e w' ⟨rfl, hD', hk⟩
  refine ⟨rfl, ⟨⟨s, _, hD'⟩, Below.kp2 h.bel hk h.bel.size (by simpa using ⟨hD.db, hD.sb⟩)⟩, [d, s], hk, fun k hn => ?_⟩
  obtain ⟨hkl, s2, v2, hD2, n1, n2, n3⟩ := hn
  obtain ⟨rfl, rfl⟩ := dsk_same hD hD2
  exact ⟨by simp [n1, n2], Nat.lt_of_lt_of_le hkl hk.size, s, _, hD', n1, n2, by simp [Value.ownBlock]⟩
theorem ld_crash (h : LD w0 w d D) (h1 : 1 ≤ D.sure.length) (B : Nat) (A : Option Addr) (n c : Nat) (keep : List Bool) (hk : Sl w B A n (keep.map Value.bool)) (hB : B ≤ w.heap.size) (hn : n ≤ 9223372036854775807) (torn sectors : Int) :
    Calls Tryd.prog 23 #[.pointer (some ⟨d, 0, none⟩), .slice A n c, .int .i64 torn, .int .i64 sectors] w fun e w' => ∃ d' cap pad, e = .returned (.pointer (some ⟨d', 0, none⟩)) ∧ LD w w' d' (D.crashed (crashF keep torn sectors) cap pad) := by
  obtain ⟨s, v, hD⟩ := h.ex
  refine (crash_any w _ d s v D hD h1 B A n c keep hk hB hn torn sectors).mono ?_
  rintro e w' ⟨d', s', cap, pad, rfl, hD', hb⟩
  exact ⟨d', cap, pad, rfl, ⟨s', _, hD'⟩, hb⟩
end
theorem ld_bytes (w : World) (B : Nat) (A : Option Addr) (n c : Nat) (l : List UInt8) (h : By w B A n l) (hB : B ≤ w.heap.size) (hn : n ≤ 9223372036854775807) :
    Calls Tryd.prog 36 #[.slice A n c] w fun e w' => ∃ g, e = .returned (.slice (some ⟨g, 0, none⟩) 64 64) ∧ w.heap.size ≤ g ∧ Blk w' g 5 (u8s (round64 l)).toArray ∧ Below w.heap.size w w' :=
  (bytes_any w B A n c l h hB hn).mono fun e w' ⟨h1, h2, h3⟩ => ⟨_, h1, Nat.le_refl _, h2, h3⟩
theorem u8s_at {b : List UInt8} : ∀ (j : Nat) (u : Value), (u8s b)[j]? = some u → (u8s b).toArray[j]? = some u := fun j u h => by simpa using h
end Go.Proofs.YtlobkefacnedeaaDoor

/- Blocks of other types are none of a disk's; a disk stays while such are written. -/
namespace Go.Proofs.YtlobkefacnedeaaDoor
open Go.RowKit
set_option maxRecDepth 100000

theorem own_blkO {w : World} {base n k : Nat} {e : TypeId} {v : Value} {xs : List Value} (h : w.ownsRow base e k v n xs) {g : Nat} (hg : v.ownBlock = some g) : base ≤ g ∧ ∃ cs, Blk w g e cs := by
  rcases h.2 with ⟨hv, -⟩ | ⟨g', cap, cur, hv, hb, hB, -⟩
  · rw [hv] at hg; cases hg
  · rw [hv] at hg
    simp only [Value.ownBlock, Option.some.injEq] at hg
    subst hg
    exact ⟨hb, cur, hB⟩
theorem blk_typeO {w : World} {g : Nat} {t t' : TypeId} {cs cs' : Array Value} (h : Blk w g t cs) (h' : Blk w g t' cs') : t = t' := by
  have e := Option.some.inj (h.symm.trans h')
  injection e
theorem kp_growO {w w' : World} {r : Option Nat} (h : w.grownBy w' r) : Kp r.toList w w' := ⟨h.os, h.tape, h.output, h.size, fun k hk hn => h.block k hk (fun e => hn (by rw [← e]; simp))⟩
theorem out_typeO {w0 w : World} {d k : Nat} {D : Dsk} (h : LD w0 w d D) {t : TypeId} {cs : Array Value} (hB : Blk w k t cs) (ht : t ≠ 96 ∧ t ≠ 122 ∧ t ≠ 124) : Out w0 w d D k := by
  obtain ⟨s, v, hD⟩ := h.ex
  refine ⟨hB.lt, s, v, hD, ?_, ?_, ?_⟩
  · rintro rfl; exact ht.1 (blk_typeO hB hD.hd)
  · rintro rfl; exact ht.2.1 (blk_typeO hB hD.hs)
  · intro e
    obtain ⟨-, cs', hB'⟩ := own_blkO hD.hq e
    exact ht.2.2 (blk_typeO hB hB')
theorem LD.kpO {w0 w w' : World} {d : Nat} {D : Dsk} (h : LD w0 w d D) {gs : List Nat} (hK : Kp gs w w') (hgs : ∀ k ∈ gs, w0.heap.size ≤ k ∧ Out w0 w d D k) : LD w0 w' d D := by
  obtain ⟨s, v, hD⟩ := h.ex
  have ho : ∀ k ∈ gs, k ≠ d ∧ k ≠ s ∧ v.ownBlock ≠ some k := fun k hk => by
    obtain ⟨-, s2, v2, hD2, h1, h2, h3⟩ := (hgs k hk).2
    obtain ⟨rfl, rfl⟩ := dsk_same hD hD2
    exact ⟨h1, h2, h3⟩
  refine ⟨⟨s, v, dsk_kp hD hK (fun hm => (ho d hm).1 rfl) (fun hm => (ho s hm).2.1 rfl) (fun k hk hm => (ho k hm).2.2 hk)⟩, Below.kp2 h.bel hK h.bel.size (fun k hk => (hgs k hk).1)⟩
end Go.Proofs.YtlobkefacnedeaaDoor

/- The conversion of bytes to a text, kept whole till its world is known. -/
namespace Go.Proofs.YtlobkefacnedeaaDoor
open Go.RowKit
set_option maxRecDepth 100000

/-- What the conversion of a slice of bytes to a text says, under one name. -/
theorem cv_ex (P : Program) (s d : TypeId) : ∃ f : Value → World → Result Value, ∀ (A : Option Addr) (n c : Nat) (w : World), (convert s d (.slice A n c)).run P w = f (.slice A n c) w :=
  ⟨fun v w => (convert s d v).run P w, fun _ _ _ _ => rfl⟩
theorem cv_txt {P : Program} {src dst e : TypeId} {f : Value → World → Result Value} (hf : ∀ (A : Option Addr) (n c : Nat) (w : World), (convert src dst (.slice A n c)).run P w = f (.slice A n c) w)
    (hs : P.underlying src = some (.slice e)) (he : P.underlying e = some (.int .u8)) (hd : P.underlying dst = some .string)
    {w : World} {B : Nat} {A : Option Addr} {n : Nat} (c : Nat) {l : List UInt8} (h : By w B A n l) : f (.slice A n c) w = .ok (.string (txt l)) w := (hf _ _ _ _).symm.trans (run_conv_txt w hs he hd c h)
end Go.Proofs.YtlobkefacnedeaaDoor

/- The law's disk: what several walks share. -/
namespace Go.Proofs.YtlobkefacnedeaaDoor
open Go.RowKit
set_option maxRecDepth 100000

theorem modU (a q : Int) (hq : 0 < q) (hq2 : q < 1000000) : ∃ k : Nat, RowKit.wrap64 ((IntKind.u64.wrap a).tmod q) = k ∧ (k : Int) < q := by
  have h0' : 0 ≤ IntKind.u64.wrap a := by simp [IntKind.wrap, IntKind.bits, IntKind.signed]; omega
  generalize IntKind.u64.wrap a = u at *
  rw [Int.tmod_eq_emod_of_nonneg h0']
  have e1 := Int.emod_nonneg u (show q ≠ 0 by omega)
  have e2 := Int.emod_lt_of_pos u hq
  exact ⟨(u % q).toNat, by rw [IntWalk.wrap64_in _ (by omega)]; omega, by omega⟩
theorem ld_new' (w : World) (n : Nat) (x : Int) (hx : x = (n : Int)) (h1 : 1 ≤ n) (h2 : n ≤ 4096) :
    Calls Tryd.prog 11 #[.int .i64 x] w fun e w' => ∃ d, e = .returned (.tuple #[.pointer (some ⟨d, 0, none⟩), .int .i64 0]) ∧ LD w w' d (freshD n) := by subst hx; exact ld_new w n h1 h2
theorem mk_63 (w : World) : (Instr.makeSlice 26 (.int .i64 63) (.int .i64 63)).run Tryd.prog w = .ok (.slice (some ⟨w.heap.size, 0, none⟩) 63 63) (w.alloc (.cells (u8s (List.replicate 63 0)).toArray 5)) := by
  have := run_mks (P := Tryd.prog) (t := 26) (k := 1) (bytes := 1) (z := .int .u8 0) Tryd.underlying26 (by kernel_rfl) .i64 .i64 63 (by omega) (by omega) w
  rw [show madeCells (Value.int .u8 0).cells (63 * 1) = (u8s (List.replicate 63 0)).toArray by kernel_rfl] at this
  exact this
theorem by_blk {w : World} {g : Nat} {t : TypeId} {l : List UInt8} {n : Nat} (h : Blk w g t (u8s l).toArray) (hn : l.length = n) : By w w.heap.size (some ⟨g, 0, none⟩) n l :=
  ⟨by rw [u8s_length]; exact hn, fun j u hu => ⟨_, rfl, h.lt, by rw [Addr.add_mid, Nat.zero_add, h.cell]; simpa using hu⟩⟩
theorem fresh_read (n i : Nat) (hi : i < n) : (freshD n).read i = zero64 := by
  unfold Dsk.read freshD readQ
  simp [List.getD_eq_getElem?_getD, hi]
theorem wrote_read (D : Dsk) (i : Nat) (b : List UInt8) : (D.wrote i b).read i = b := by
  unfold Dsk.read Dsk.wrote Dsk.stepped readQ
  simp

theorem cvt' {f : Value → World → Result Value} (hf : ∀ (A : Option Addr) (n c : Nat) (w : World), (convert 26 9 (.slice A n c)).run Tryd.prog w = f (.slice A n c) w) {w : World} {B : Nat} {A : Option Addr} {n : Nat} (c : Nat) {l : List UInt8} (h : By w B A n l) : f (.slice A n c) w = .ok (.string (txt l)) w :=
  cv_txt hf Tryd.underlying26 Tryd.underlying5 Tryd.underlying9 c h
theorem u8inc (x : UInt8) : IntKind.u8.wrap ((x.toNat : Int) + 1) = (((x + 1 : UInt8).toNat : Nat) : Int) := by
  have h : (x + 1).toNat = (x.toNat + 1) % 256 := by rw [UInt8.toNat_add]; rfl
  rw [h]
  simp [IntKind.wrap, IntKind.bits, IntKind.signed]
theorem bool_at {w : World} {B m : Nat} {A : Option Addr} {bs : List Bool} (h : Sl w B A m (bs.map Value.bool)) (j : Nat) : (j < m ∧ ∃ ad, A = some ad ∧ w.cell? (ad.add j) = some (.bool (bs.getD j false))) ∨ (m ≤ j ∧ bs.getD j false = false) := by
  have hl := h.len
  rw [List.length_map] at hl
  rcases Nat.lt_or_ge j m with hj | hj
  · obtain ⟨ad, u, hA, -, hu, hc⟩ := h.get hj
    refine .inl ⟨hj, ad, hA, ?_⟩
    rw [List.getElem?_map, List.getElem?_eq_getElem (by omega)] at hu
    simp only [Option.map_some, Option.some.injEq] at hu
    rw [hc, ← hu, List.getD_eq_getElem?_getD, List.getElem?_eq_getElem (by omega)]
    rfl
  · exact .inr ⟨hj, by rw [List.getD_eq_getElem?_getD, List.getElem?_eq_none (by omega)]; rfl⟩
theorem ld_arm_ok' {w0 w : World} {d : Nat} {D : Dsk} (h : LD w0 w d D) (n x : Int) (hx : x = n) (h0 : 0 ≤ n) (h1 : n ≤ 9223372036854775807) (hl : D.left ≠ 0) : Calls Tryd.prog 26 #[.pointer (some ⟨d, 0, none⟩), .int .i64 x] w fun e w' => e = .returned (.int .i64 0) ∧ LD w0 w' d { D with left := n } := by
  subst hx; exact ld_arm_ok h x h0 h1 hl

end Go.Proofs.YtlobkefacnedeaaDoor

/- Plain facts on 32-bit numbers as natural numbers: the model's bits at u32, and the check sum's steps. No program in sight. -/
namespace Go.Proofs.YtlobkefacnedeaaDoor

theorem ofInt_u32 (a : Nat) (ha : a < 4294967296) : (BitVec.ofInt 32 (a : Int)).toNat = a := by
  rw [BitVec.ofInt_natCast, BitVec.toNat_ofNat]; exact Nat.mod_eq_of_lt (by omega)
theorem u32_xor_nat (a b : Nat) (ha : a < 4294967296) (hb : b < 4294967296) : bits .xor .u32 (a : Int) (b : Int) = ((a ^^^ b : Nat) : Int) := by
  have hx : a ^^^ b < 2 ^ 32 := Nat.xor_lt_two_pow (by omega) (by omega)
  show IntKind.u32.wrap ((BitVec.ofInt 32 (a : Int) ^^^ BitVec.ofInt 32 (b : Int)).toNat : Int) = _
  rw [BitVec.toNat_xor, ofInt_u32 a ha, ofInt_u32 b hb, IntKind.wrap_u32]
  omega
theorem u32_and_nat (a b : Nat) (ha : a < 4294967296) (hb : b < 4294967296) : bits .and .u32 (a : Int) (b : Int) = ((a &&& b : Nat) : Int) := by
  have hx : a &&& b < 2 ^ 32 := Nat.and_lt_two_pow _ (by omega)
  show IntKind.u32.wrap ((BitVec.ofInt 32 (a : Int) &&& BitVec.ofInt 32 (b : Int)).toNat : Int) = _
  rw [BitVec.toNat_and, ofInt_u32 a ha, ofInt_u32 b hb, IntKind.wrap_u32]
  omega
theorem u32_xor_lt (a b : Nat) (ha : a < 4294967296) (hb : b < 4294967296) : a ^^^ b < 4294967296 := Nat.xor_lt_two_pow (n := 32) ha hb

/-- One bit of the check sum. -/
def bit1 (c : Nat) : Nat := (c / 2) ^^^ ((c % 2) * 3988292384)
/-- n bits. -/
def bitN : Nat → Nat → Nat
  | 0, c => c
  | n + 1, c => bitN n (bit1 c)
/-- A byte. -/
def crcByte (c : Nat) (b : UInt8) : Nat := bitN 8 (c ^^^ b.toNat)
/-- Bytes behind a running sum; the inner number stands turned. -/
def crcRun (c : Nat) (l : List UInt8) : Nat := l.foldl crcByte c
/-- The sum with bytes behind. -/
def crcMore (c : Nat) (l : List UInt8) : Nat := (crcRun (c ^^^ 4294967295) l) ^^^ 4294967295
/-- The document's sum. -/
def crc (l : List UInt8) : Nat := crcMore 0 l

theorem bit1_lt (c : Nat) (h : c < 4294967296) : bit1 c < 4294967296 := by
  unfold bit1
  exact Nat.xor_lt_two_pow (n := 32) (by omega) (by omega)
theorem bitN_lt (n c : Nat) (h : c < 4294967296) : bitN n c < 4294967296 := by
  induction n generalizing c with
  | zero => exact h
  | succ n ih => exact ih _ (bit1_lt c h)
theorem bitN_succ (n c : Nat) : bitN (n + 1) c = bit1 (bitN n c) := by
  induction n generalizing c with
  | zero => rfl
  | succ n ih => exact ih (bit1 c)
theorem bitN_add (m n c : Nat) : bitN (m + n) c = bitN m (bitN n c) := by
  induction m with
  | zero => simp [bitN]
  | succ m ih => rw [show m + 1 + n = (m + n) + 1 by omega, bitN_succ, bitN_succ, ih]
theorem mod_xor (a b : Nat) : (a ^^^ b) % 2 = (a % 2) ^^^ (b % 2) := by
  have := Nat.xor_mod_two_pow (a := a) (b := b) (n := 1); simpa using this
theorem div_xor (a b : Nat) : (a ^^^ b) / 2 = (a / 2) ^^^ (b / 2) := by
  have := Nat.shiftRight_xor_distrib (a := a) (b := b) (i := 1); simpa [Nat.shiftRight_succ] using this
theorem xor4 (a b c d : Nat) : (a ^^^ b) ^^^ (c ^^^ d) = (a ^^^ c) ^^^ (b ^^^ d) := by
  rw [Nat.xor_assoc, Nat.xor_assoc, ← Nat.xor_assoc b, ← Nat.xor_assoc c, Nat.xor_comm b c]
theorem bit1_xor (a b : Nat) : bit1 (a ^^^ b) = bit1 a ^^^ bit1 b := by
  unfold bit1
  rw [mod_xor, div_xor]
  have ha : a % 2 = 0 ∨ a % 2 = 1 := by omega
  have hb : b % 2 = 0 ∨ b % 2 = 1 := by omega
  rw [xor4]
  congr 1
  rcases ha with h | h <;> rcases hb with h' | h' <;> rw [h, h'] <;> rfl
theorem bitN_xor (n a b : Nat) : bitN n (a ^^^ b) = bitN n a ^^^ bitN n b := by
  induction n generalizing a b with
  | zero => rfl
  | succ n ih => simp only [bitN]; rw [bit1_xor, ih]
theorem bit1_zero : bit1 0 = 0 := rfl
theorem bitN_zero (n : Nat) : bitN n 0 = 0 := by
  induction n with
  | zero => rfl
  | succ n ih => simp only [bitN, bit1_zero]; exact ih
theorem bit1_even (a : Nat) : bit1 (2 * a) = a := by
  unfold bit1
  rw [show 2 * a / 2 = a by omega, show 2 * a % 2 = 0 by omega]; simp
theorem bitN_pow (n a : Nat) : bitN n (2 ^ n * a) = a := by
  induction n generalizing a with
  | zero => simp [bitN]
  | succ n ih =>
    simp only [bitN]
    rw [show 2 ^ (n + 1) * a = 2 * (2 ^ n * a) by rw [Nat.pow_succ, Nat.mul_comm (2 ^ n) 2, Nat.mul_assoc], bit1_even, ih]
/-- Four bits at once: the low ones by themselves, the others moved. -/
theorem nib (c : Nat) : bitN 4 c = (c / 16) ^^^ bitN 4 (c % 16) := by
  have h : c = (2 ^ 4 * (c / 16)) ^^^ (c % 16) := by
    have h1 : 2 ^ 4 * (c / 16) + c % 16 = c := by omega
    have h2 := Nat.two_pow_add_eq_or_of_lt (i := 4) (b := c % 16) (by omega) (c / 16)
    have h3 : (2 ^ 4 * (c / 16)) &&& (c % 16) = 0 := by
      apply Nat.eq_of_testBit_eq
      intro i
      simp only [Nat.testBit_and, Nat.zero_testBit, Nat.testBit_two_pow_mul]
      by_cases hi : 4 ≤ i
      · have : (c % 16).testBit i = false := Nat.testBit_lt_two_pow (Nat.lt_of_lt_of_le (show c % 16 < 2 ^ 4 by omega) (Nat.pow_le_pow_right (by omega) hi))
        simp [this]
      · simp [hi]
    have h4 : (2 ^ 4 * (c / 16)) ^^^ (c % 16) = (2 ^ 4 * (c / 16)) ||| (c % 16) := by
      apply Nat.eq_of_testBit_eq
      intro i
      have := congrArg (fun n => n.testBit i) h3
      simp only [Nat.testBit_and, Nat.zero_testBit] at this
      simp only [Nat.testBit_xor, Nat.testBit_or]
      revert this
      cases (2 ^ 4 * (c / 16)).testBit i <;> cases (c % 16).testBit i <;> simp
    omega
  conv => lhs; rw [h]
  rw [bitN_xor, bitN_pow]
theorem and15 (c : Nat) : c &&& 15 = c % 16 := Nat.and_two_pow_sub_one_eq_mod c 4
theorem and1 (c : Nat) : c &&& 1 = c % 2 := Nat.and_two_pow_sub_one_eq_mod c 1
theorem and255 (c : Nat) : c &&& 255 = c % 256 := Nat.and_two_pow_sub_one_eq_mod c 8
theorem crcByte_lt (c : Nat) (b : UInt8) (h : c < 4294967296) : crcByte c b < 4294967296 :=
  bitN_lt _ _ (u32_xor_lt _ _ h (by have := b.toNat_lt; omega))
theorem crcRun_lt (c : Nat) (l : List UInt8) (h : c < 4294967296) : crcRun c l < 4294967296 := by
  induction l generalizing c with
  | nil => exact h
  | cons b l ih => exact ih _ (crcByte_lt c b h)
theorem crcMore_lt (c : Nat) (l : List UInt8) (h : c < 4294967296) : crcMore c l < 4294967296 :=
  u32_xor_lt _ _ (crcRun_lt _ _ (u32_xor_lt _ _ h (by omega))) (by omega)
theorem crc_lt (l : List UInt8) : crc l < 4294967296 := crcMore_lt _ _ (by omega)
theorem crcRun_append (c : Nat) (a b : List UInt8) : crcRun c (a ++ b) = crcRun (crcRun c a) b := List.foldl_append
theorem crcMore_append (c : Nat) (a b : List UInt8) : crcMore c (a ++ b) = crcMore (crcMore c a) b := by
  unfold crcMore
  rw [crcRun_append, Nat.xor_assoc (crcRun _ a), Nat.xor_self, Nat.xor_zero]
theorem crcMore_nil (c : Nat) : crcMore c [] = c := by
  unfold crcMore crcRun
  rw [List.foldl_nil, Nat.xor_assoc, Nat.xor_self, Nat.xor_zero]
theorem crc_append (a b : List UInt8) : crc (a ++ b) = crcMore (crc a) b := crcMore_append 0 a b
theorem crcByte_two (c : Nat) (b : UInt8) : crcByte c b = bitN 4 (bitN 4 (c ^^^ b.toNat)) := bitN_add 4 4 _

end Go.Proofs.YtlobkefacnedeaaDoor

/- The walks over package sum: quad, More, Sum. -/
namespace Go.Proofs.YtlobkefacnedeaaDoor
open Go.RowKit
set_option maxRecDepth 100000

theorem ret_u32 {a b : Nat} (h : a = b) : Ending.returned (.int .u32 (a : Int)) = .returned (.int .u32 (b : Int)) := by rw [h]
theorem quad_step (c : Nat) (hc : c < 4294967296) :
    bits BinOp.xor IntKind.u32 ((c : Int) / 2) (bits BinOp.and IntKind.u32 (c : Int) 1 * 3988292384 % 4294967296) = ((bit1 c : Nat) : Int) := by
  have h1 : bits BinOp.and IntKind.u32 (c : Int) 1 = ((c % 2 : Nat) : Int) := by
    have := u32_and_nat c 1 hc (by omega); rw [and1] at this; exact this
  have h2 : ((c % 2 : Nat) : Int) * 3988292384 % 4294967296 = ((c % 2 * 3988292384 : Nat) : Int) := by omega
  have h3 : ((c : Int) / 2) = ((c / 2 : Nat) : Int) := by omega
  rw [h1, h2, h3, u32_xor_nat _ _ (by omega) (by omega)]
  rfl

set_option maxHeartbeats 400000 in
theorem quad_any (x : Nat) (hx : x < 4294967296) (w : World) :
    Calls Tryd.prog 87 #[.int .u32 x] w fun e w' => e = .returned (.int .u32 (bitN 4 x : Nat)) ∧ w = w' := by
  go_enter Tryd.func87, Tryd.ntmps87
  go_wp2
  go_loop [0, 3] (fun c i => ∃ k : Nat, k ≤ 4 ∧ i = .int .i64 k ∧ c = .int .u32 (bitN k x : Nat)) (fun _ i => 4 - (intOf i).toNat)
  case atStart => exact ⟨0, by omega, rfl, rfl⟩
  case round =>
    obtain ⟨k, hk, rfl, rfl⟩ := hrel
    have hc := bitN_lt k x hx
    by_cases hlt : k < 4
    · have hq := hide (quad_step (bitN k x) hc) -- (bitN k x) hc
      go_wp2
      go_round
      case rel => exact ⟨k + 1, by omega, by go_num, by rw [hq.out, bitN_succ]⟩
      case measure => simp [intOf]; omega
    · go_wp2
      go_ret
      exact ⟨ret_u32 (by rw [show k = 4 by omega]), rfl⟩

theorem u32_not (c : Nat) (hc : c < 4294967296) : bits BinOp.xor IntKind.u32 IntKind.u32.max (c : Int) = ((c ^^^ 4294967295 : Nat) : Int) := by
  have : IntKind.u32.max = ((4294967295 : Nat) : Int) := rfl
  rw [this, u32_xor_nat _ _ (by omega) hc, Nat.xor_comm]
theorem nib_step (c : Nat) (hc : c < 4294967296) :
    bits BinOp.xor IntKind.u32 ((c : Int) / 16) ((bitN 4 (c % 16) : Nat) : Int) = ((bitN 4 c : Nat) : Int) := by
  have h3 : ((c : Int) / 16) = ((c / 16 : Nat) : Int) := by omega
  rw [h3, u32_xor_nat _ _ (by omega) (bitN_lt _ _ (by omega)), ← nib]
theorem and15_step (c : Nat) (hc : c < 4294967296) : bits BinOp.and IntKind.u32 (c : Int) 15 = ((c % 16 : Nat) : Int) := by
  have := u32_and_nat c 15 hc (by omega); rw [and15] at this; exact this
theorem crcRun_snoc (c : Nat) (l : List UInt8) (k : Nat) (hk : k < l.length) : crcRun c (l.take (k + 1)) = crcByte (crcRun c (l.take k)) l[k] := by
  rw [List.take_succ_eq_append_getElem hk, crcRun_append]; rfl

set_option maxHeartbeats 400000 in
theorem more_any (c : Nat) (hc : c < 4294967296) (A : Option Addr) (n cap B : Nat) (l : List UInt8) (w : World) (h : By w B A n l) (hn : n ≤ 9223372036854775807) :
    Calls Tryd.prog 70 #[.int .u32 c, .slice A n cap] w fun e w' => e = .returned (.int .u32 (crcMore c l : Nat)) ∧ w = w' := by
  have hs : IntKind.u32.signed = false := rfl
  have hc1 : c ^^^ 4294967295 < 4294967296 := u32_xor_lt _ _ hc (by omega)
  have hnot := hide (u32_not c hc)
  have H := hide h
  clear h
  go_enter Tryd.func70, Tryd.ntmps70
  go_wp2
  rw [hnot.out]
  go_loop [5, 12] (fun c' i => ∃ k : Nat, k ≤ n ∧ i = .int .i64 k ∧ c' = .int .u32 (crcRun (c ^^^ 4294967295) (l.take k) : Nat)) (fun _ i => n - (intOf i).toNat)
  case atStart => exact ⟨0, by omega, rfl, rfl⟩
  case round =>
    obtain ⟨k, hk, rfl, rfl⟩ := hrel
    have hcr := crcRun_lt _ (l.take k) hc1
    by_cases hlt : k < n
    · obtain ⟨hl, ad, rfl, hcell⟩ := By.get H.out hlt
      have hsn := hide (crcRun_snoc (c ^^^ 4294967295) l k hl)
      have hb := l[k].toNat_lt
      generalize crcRun (c ^^^ 4294967295) (l.take k) = r at *
      have hsb := hide (crcByte_two r l[k])
      generalize l[k].toNat = b at *
      replace hb : b < 256 := hb
      have hx := u32_xor_lt r b hcr (by omega)
      have hx1 := bitN_lt 4 _ hx
      go_wp2_with fail
      rw [u32_xor_nat r b hcr (by omega), and15_step _ hx]
      refine (quad_any _ (by omega) _).mono ?_
      rintro e w' ⟨rfl, rfl⟩
      go_wp2_with fail
      rw [nib_step _ hx, and15_step _ hx1]
      refine (quad_any _ (by omega) _).mono ?_
      rintro e w' ⟨rfl, rfl⟩
      go_wp2_with fail
      rw [nib_step _ hx1]
      go_round
      case rel => exact ⟨k + 1, by omega, by go_num, by rw [hsn.out, hsb.out]⟩
      case measure => simp [intOf]; omega
    · have hnot2 := hide (u32_not _ hcr)
      have hl := By.length H.out
      have hfin := hide (show crcRun (c ^^^ 4294967295) (l.take k) ^^^ 4294967295 = crcMore c l by
        rw [List.take_of_length_le (by omega)]; rfl)
      clear hl
      go_wp2
      go_ret
      exact ⟨by show Ending.returned (Value.int IntKind.u32 (bits BinOp.xor IntKind.u32 IntKind.u32.max _)) = _; rw [hnot2.out, hfin.out], rfl⟩
end Go.Proofs.YtlobkefacnedeaaDoor

/- The walk of sum.Parts (out of XPartsW). -/
namespace Go.Proofs.YtlobkefacnedeaaDoor
open Go.RowKit
set_option maxRecDepth 100000

/-- The sum of lists, one behind the other. -/
def crcRows (rs : List Row) : Nat := rs.foldl (fun c r => crcMore c r.l) 0
theorem crcRows_snoc {rs : List Row} {k : Nat} (hk : k < rs.length) : crcRows (rs.take (k + 1)) = crcMore (crcRows (rs.take k)) rs[k].l := by
  unfold crcRows; rw [List.take_succ_eq_append_getElem hk, List.foldl_append]; rfl
theorem crcRows_eq (rs : List Row) : crcRows rs = crc (rowsL rs) := by
  have : ∀ (rs : List Row) (c : Nat), rs.foldl (fun c r => crcMore c r.l) c = crcMore c (rowsL rs) := by
    intro rs
    induction rs with
    | nil => intro c; exact (crcMore_nil c).symm
    | cons r rs ih =>
      intro c
      rw [List.foldl_cons, ih]
      show _ = crcMore c (r.l ++ rowsL rs)
      rw [crcMore_append]
  exact this rs 0

set_option maxHeartbeats 400000 in
theorem parts_any (rs : List Row) (A : Option Addr) (m c B : Nat) (w : World) (h : Sl w B A m (rs.map Row.v)) (hr : ∀ r ∈ rs, By w B r.a r.n r.l) (hN : rowsN rs ≤ 1099511627776) (hm : m ≤ 1099511627776) :
    Calls Tryd.prog 41 #[.slice A m c] w fun e w' => e = .returned (.int .u32 (crc (rowsL rs) : Nat)) ∧ w = w' := by
  have H := hide h
  have Hr := hide hr
  have Hlen := hide (show rs.length = m by have := h.len; simpa using this)
  clear h hr
  go_enter Tryd.func41, Tryd.ntmps41
  go_wp2
  go_loop [3, 8] (fun s i => ∃ k : Nat, k ≤ m ∧ i = .int .i64 k ∧ s = .int .u32 (crcRows (rs.take k) : Nat) ∧ crcRows (rs.take k) < 4294967296) (fun _ i => m - (intOf i).toNat)
  case atStart => exact ⟨0, by omega, rfl, rfl, by simp [crcRows]⟩
  case round =>
    obtain ⟨k, hk, rfl, rfl, hlt32⟩ := hrel
    by_cases hlt : k < m
    · obtain ⟨ad, u, rfl, _, hu, hcell⟩ := H.out.get hlt
      have hk2 : k < rs.length := by rw [Hlen.out]; exact hlt
      rw [List.getElem?_map, List.getElem?_eq_getElem hk2] at hu
      simp only [Option.map_some, Option.some.injEq] at hu
      subst hu
      have hsn := hide (crcRows_snoc hk2)
      have hby := hide (Hr.out _ (List.getElem_mem hk2))
      have hle2 := rowsN_le rs (k + 1)
      rw [rowsN_snoc hk2] at hle2
      simp only [Row.v] at hcell
      generalize rs[k] = r at *
      clear hk2
      generalize crcRows (rs.take k) = s at *
      go_wp2_with fail
      refine (more_any s hlt32 _ _ _ _ r.l _ hby.out (by omega)).mono ?_
      rintro e w' ⟨rfl, rfl⟩
      go_wp2_with fail
      go_round
      case rel => exact ⟨k + 1, by omega, by go_num, by rw [hsn.out], by rw [hsn.out]; exact crcMore_lt _ _ hlt32⟩
      case measure => simp [intOf]; omega
    · have Hk := hide (show rs.take k = rs from List.take_of_length_le (by rw [Hlen.out]; omega))
      rw [Hk.out]
      go_wp2
      go_ret
      exact ⟨ret_u32 (crcRows_eq rs), rfl⟩
end Go.Proofs.YtlobkefacnedeaaDoor
