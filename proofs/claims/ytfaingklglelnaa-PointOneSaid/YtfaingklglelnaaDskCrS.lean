/- What a crash leaves, in plain lists. -/
import Derived.Test.YtfaingklglelnaaDskClW
import Derived.Laws.CopyOwn
namespace Go.Proofs.Ytfaingklglelnaa
open Go.RowKit

/-- A sector of a block. -/
def sect (b : List UInt8) (t : Nat) : List UInt8 := (b.drop (t * 16)).take 16
/-- A block with one sector of another. -/
def spl (a b : List UInt8) (t : Nat) : List UInt8 := a.take (t * 16) ++ sect b t ++ a.drop (t * 16 + 16)
theorem sect_len (b : List UInt8) (t : Nat) (hb : b.length = 64) (ht : t < 4) : (sect b t).length = 16 := by simp [sect]; omega
theorem spl_len (a b : List UInt8) (t : Nat) (ha : a.length = 64) (hb : b.length = 64) (ht : t < 4) : (spl a b t).length = 64 := by
  unfold spl
  rw [List.length_append, List.length_append, sect_len b t hb ht, List.length_take, List.length_drop]; omega
def cutIn (x : Nat × List UInt8) (l : List (List UInt8)) (t : Nat) : List (List UInt8) := l.set x.1 (spl (l.getD x.1 []) x.2 t)
def crash1 (f : Nat → Bool) (x : Nat × List UInt8) (m : Nat) (l : List (List UInt8)) : List (List UInt8) := (List.range m).foldl (fun l t => if f t then cutIn x l t else l) l
theorem crash1_step (f : Nat → Bool) (x : Nat × List UInt8) (m : Nat) (l : List (List UInt8)) : crash1 f x (m + 1) l = if f m then cutIn x (crash1 f x m l) m else crash1 f x m l := by
  unfold crash1
  rw [List.range_succ, List.foldl_append]
  rfl
def crashN (f : Nat → Nat → Bool) (q : List (Nat × List UInt8)) (n : Nat) (l : List (List UInt8)) : List (List UInt8) := (List.range n).foldl (fun l k => match q[k]? with | some x => crash1 (f k) x 4 l | none => l) l
theorem crashN_step (f : Nat → Nat → Bool) (q : List (Nat × List UInt8)) (n : Nat) (l : List (List UInt8)) (x : Nat × List UInt8) (hx : q[n]? = some x) : crashN f q (n + 1) l = crash1 (f n) x 4 (crashN f q n l) := by
  unfold crashN
  rw [List.range_succ, List.foldl_append]
  simp only [List.foldl_cons, List.foldl_nil, hx]
/-- Blocks stay blocks, and as many. -/
def All64 (n : Nat) (l : List (List UInt8)) : Prop := l.length = n ∧ ∀ x ∈ l, x.length = 64
theorem cutIn_64 {n : Nat} {x : Nat × List UInt8} {l : List (List UInt8)} {t : Nat} (h : All64 n l) (hx : x.2.length = 64) (hn : x.1 < n) (ht : t < 4) : All64 n (cutIn x l t) := by
  refine ⟨by unfold cutIn; rw [List.length_set]; exact h.1, fun y hy => ?_⟩
  rcases List.mem_or_eq_of_mem_set hy with hy | hy
  · exact h.2 y hy
  · rw [hy]
    refine spl_len _ _ _ ?_ hx ht
    have hl : x.1 < l.length := by rw [h.1]; exact hn
    rw [List.getD_eq_getElem?_getD, List.getElem?_eq_getElem hl]
    exact h.2 _ (List.getElem_mem hl)
theorem crash1_64 {n : Nat} {f : Nat → Bool} {x : Nat × List UInt8} {l : List (List UInt8)} (h : All64 n l) (hx : x.2.length = 64) (hn : x.1 < n) : ∀ m, m ≤ 4 → All64 n (crash1 f x m l)
  | 0, _ => h
  | m + 1, hm => by
    rw [crash1_step]
    split
    · exact cutIn_64 (crash1_64 h hx hn m (by omega)) hx hn (by omega)
    · exact crash1_64 h hx hn m (by omega)
theorem crashN_64 {n : Nat} {f : Nat → Nat → Bool} {q : List (Nat × List UInt8)} {l : List (List UInt8)} (h : All64 n l) (hq : ∀ x ∈ q, x.2.length = 64 ∧ x.1 < n) : ∀ m, m ≤ q.length → All64 n (crashN f q m l)
  | 0, _ => h
  | m + 1, hm => by
    have hx : q[m]? = some q[m] := List.getElem?_eq_getElem (by omega)
    obtain ⟨h1, h2⟩ := hq _ (List.getElem_mem (show m < q.length by omega))
    rw [crashN_step f q m l _ hx]
    exact crash1_64 (crashN_64 h hq m (by omega)) h1 h2 4 (Nat.le_refl _)
theorem flat_cut {α β : Type} {f : α → List β} {k : Nat} (xs : List α) (hk : ∀ x ∈ xs, (f x).length = k) (i : Nat) (o : Nat) (vs : List β) (ho : o + vs.length ≤ k) (x b : α) (hx : xs[i]? = some x) (hb : f b = (f x).take o ++ vs ++ (f x).drop (o + vs.length)) :
    (xs.flatMap f).take (i * k + o) ++ vs ++ (xs.flatMap f).drop (i * k + o + vs.length) = (xs.set i b).flatMap f := by
  induction xs generalizing i with
  | nil => simp at hx
  | cons y xs ih =>
    have hy := hk y (by simp)
    cases i with
    | zero =>
      simp only [List.getElem?_cons_zero, Option.some.injEq] at hx
      subst hx
      simp only [List.flatMap_cons, List.set_cons_zero, Nat.zero_mul, Nat.zero_add, hb]
      rw [List.take_append_of_le_length (by omega), List.drop_append_of_le_length (by omega)]
      simp only [List.append_assoc]
    | succ i =>
      have := ih (fun z hz => hk z (by simp [hz])) i (by simpa using hx)
      simp only [List.flatMap_cons, List.set_cons_succ]
      rw [show (i + 1) * k + o = (f y).length + (i * k + o) by rw [hy, Nat.succ_mul]; omega, List.take_length_add_append, show (f y).length + (i * k + o) + vs.length = (f y).length + (i * k + o + vs.length) by omega, List.drop_length_add_append, ← this]
      simp only [List.append_assoc]
/-- The row behind a copy of a sector. -/
theorem splice_cut {n : Nat} {l : List (List UInt8)} {pad : Array Value} {x : Nat × List UInt8} {t : Nat} (h : All64 n l) (hx : x.2.length = 64) (hn : x.1 < n) (ht : t < 4) :
    (splice (sureC l ++ pad).toList (x.1 * 64 + t * 16) (u8s (sect x.2 t))).toArray = sureC (cutIn x l t) ++ pad := by
  obtain ⟨h1, h2⟩ := h
  have hl : x.1 < l.length := by omega
  have hsl : (u8s (sect x.2 t)).length = 16 := by rw [u8s_length, sect_len _ _ hx ht]
  have hlen : (l.flatMap blkC).length = l.length * 64 := by
    have := sureC_size l h2
    simpa [sureC, fl] using this
  have hg : l[x.1]? = some (l.getD x.1 []) := by rw [List.getD_eq_getElem?_getD, List.getElem?_eq_getElem hl]; rfl
  have hgl : (l.getD x.1 []).length = 64 := h2 _ (List.mem_of_getElem? hg)
  have e := flat_cut (f := blkC) (k := 64) l (fun y hy => by unfold blkC; rw [u8s_length]; exact h2 y hy) x.1 (t * 16) (u8s (sect x.2 t)) (by omega) _ (spl (l.getD x.1 []) x.2 t) hg (by
    unfold blkC spl
    rw [u8s_append, u8s_append, ← u8s_take, ← u8s_drop, hsl])
  apply Array.toList_inj.1
  have e2 : (sureC l ++ pad).toList = l.flatMap blkC ++ pad.toList := by simp [sureC, fl]
  have e3 : (sureC (cutIn x l t) ++ pad).toList = (cutIn x l t).flatMap blkC ++ pad.toList := by simp [sureC, fl]
  rw [e3]
  unfold cutIn
  rw [← e, e2]
  unfold splice
  rw [List.take_append_of_le_length (by omega), List.drop_append_of_le_length (by omega)]
  simp only [List.append_assoc]
/-- copy into a row that is known whole, as a step of a region that draws. -/
theorem step_copy_row {P : Program} {ops : Array Oper} {o : Oper} {a : Act} {w : World} {K : Act → World → Prop} {Q : Exit → Act → World → Prop} {E : Prop} (hgd : o.guard = none) (d s : Operand) (dT sT : TypeId)
    (ho : o.op = .call { callee := .builtin .copy, args := #[d, s], argTypes := #[dT, sT] }) (elem : TypeId) (hu : P.underlying dT = some (.slice elem)) (hsz : (P.info? elem).map (·.size) = some 1)
    (dp sp : Option Addr) (dLen dCap sLen sCap : Nat) (hd : a.eval d = .slice dp dLen dCap) (hs : a.eval s = .slice sp sLen sCap)
    (g off : Nat) (cur : Array Value) (t : TypeId) (hg : w.heap[g]? = some (.cells cur t (0, 0))) (cs : List Value) (ad : Addr) (hdp : dp = some ⟨g, off, none⟩) (hsp : sp = some ad) (hn : cs.length = Nat.min sLen dLen)
    (hsrc : ∀ j v, cs[j]? = some v → w.cell? (ad.add j) = some v)
    (hfit : off + cs.length ≤ cur.size) (h1 : ∀ v ∈ cs, v.oneCell' = true)
    (h : ∀ w', Hid (w' = w.setRow g (splice cur.toList off cs).toArray) → K (a.put o.dst (goInt cs.length)) w') :
    if Region.wanted o (yielded ops a.tmps) = true then Oper.wp P o a w K Q else E := by
  have hw : Region.wanted o (yielded ops a.tmps) = true := by simp [Region.wanted, hgd]
  rw [if_pos hw]
  subst hdp hsp
  have hrun := run_copy_row (P := P) w dT sT o.type elem g off dLen dCap ad sLen sCap cur t cs hu hsz hg hn hsrc hfit h1
  unfold Oper.wp
  simp [execOp, ho, resolve, invoke, builtin, hd, hs, hrun, Result.andThen]
  exact h _ (hide (by simp [splice]))
theorem blk_row {w : World} {g g' : Nat} {t : TypeId} {cs r : Array Value} (h : Blk w g t cs) (hn : g ≠ g') : Blk (w.setRow g' r) g t cs := (setRow_other w g' g r hn).trans h
/-- What stands behind the copy of a sector. -/
theorem copied {w w' w0 : World} {cd g gw B n t : Nat} {td tb tw : TypeId} {cs ws pad : Array Value} {L : List (List UInt8)} {x : Nat × List UInt8} {o : Nat} (R1 : Blk w cd td cs) (R2 : Blk w g tb (sureC L ++ pad)) (R3 : Blk w gw tw ws) (R4 : Below B w0 w)
    (hB : B ≤ g) (h1 : g ≠ cd) (h2 : g ≠ gw) (ho : o = x.1 * 64 + t * 16) (e : w' = w.drew.setRow g (splice (sureC L ++ pad).toList o (u8s (sect x.2 t))).toArray) (h : All64 n L) (hx : x.2.length = 64) (hn : x.1 < n) (ht : t < 4) :
    Blk w' cd td cs ∧ Blk w' g tb (sureC (cutIn x L t) ++ pad) ∧ Blk w' gw tw ws ∧ Below B w0 w' := by
  subst ho e
  rw [splice_cut h hx hn ht]
  exact ⟨blk_row R1.drew h1.symm, setRow_heap _ _ _ _ _ _ R2.drew, blk_row R3.drew h2.symm, below_setRow R4.drew hB _⟩
theorem sect_src {w : World} {gw : Nat} {tw : TypeId} {x : Nat × List UInt8} (R3 : Blk w gw tw (wrC x).toArray) (t lo : Nat) (hlo : lo = t * 16) : ∀ j v, (u8s (sect x.2 t))[j]? = some v → w.drew.cell? ((⟨gw, 1 + lo, none⟩ : Addr).add j) = some v := fun j v hv => by
  subst hlo
  rw [Addr.add_mid]
  show w.cell? _ = _
  rw [R3.cell]
  unfold sect at hv
  rw [← u8s_take, ← u8s_drop, List.getElem?_take] at hv
  split at hv
  · rw [List.getElem?_drop] at hv
    rw [show 1 + t * 16 + j = t * 16 + j + 1 by omega]
    simpa [wrC] using hv
  · cases hv
end Go.Proofs.Ytfaingklglelnaa
