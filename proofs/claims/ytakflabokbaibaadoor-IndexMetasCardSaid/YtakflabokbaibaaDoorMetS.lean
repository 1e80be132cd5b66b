/- The law IndexMetas in plain numbers: the program's way of finding the blocks of pointers of a stretch gives those that the reference's list has for it. -/
import Derived.Test.YtakflabokbaibaaDoorAllS
set_option linter.unusedVariables false
set_option linter.unusedSimpArgs false
namespace Go.Proofs.YtakflabokbaibaaDoor

/-- All blocks of pointers: the number, the first data, the first data behind. -/
def allT : List (Int × Nat × Nat) := [(-6, 6, 22), (-23, 22, 278), (-22, 22, 38), (-38, 38, 54), (-54, 54, 70), (-70, 70, 86), (-86, 86, 102), (-102, 102, 118), (-118, 118, 134), (-134, 134, 150), (-150, 150, 166), (-166, 166, 182), (-182, 182, 198), (-198, 198, 214), (-214, 214, 230), (-230, 230, 246), (-246, 246, 262), (-262, 262, 278), (-280, 278, 600), (-279, 278, 534), (-278, 278, 294), (-294, 294, 310), (-310, 310, 326), (-326, 326, 342), (-342, 342, 358), (-358, 358, 374), (-374, 374, 390), (-390, 390, 406), (-406, 406, 422), (-422, 422, 438), (-438, 438, 454), (-454, 454, 470), (-470, 470, 486), (-486, 486, 502), (-502, 502, 518), (-518, 518, 534), (-535, 534, 600), (-534, 534, 550), (-550, 550, 566), (-566, 566, 582), (-582, 582, 598), (-598, 598, 600)]
theorem allT_eq : allR.map (fun m => (m.n, m.first, m.first + manyN m.level m.first)) = allT := by decide +kernel
theorem allT_nodup : (allT.map (·.1)).Nodup := by decide +kernel
/-- What the reference answers. -/
def metasR (a b : Nat) (l : List MetaL) : List Int := (l.filter fun m => decide (m.first < b) && decide (a < m.first + manyN m.level m.first) && decide (a < b)).map (·.n)
def oldT (b : Nat) : List (Int × Nat × Nat) := (allT.take (cntN b)).filter fun x => decide (b < x.2.2)
def newT (b : Nat) : List (Int × Nat × Nat) := (allT.drop (cntN b)).take (cntN (b + 1) - cntN b)
def metasAt (b : Nat) : List Int := match toP (b : Int) with | some p => p.metas | none => []
def covAt (b : Nat) : Bool := decide (metasAt b = (oldT b).map (·.1) ++ (newT b).map (·.1)) && (newT b).all (fun x => decide (b < x.2.2)) && decide (cntN b ≤ cntN (b + 1))
theorem metasN_succ (a k : Nat) : metasN a (k + 1) = addAll (metasN a k) (metasAt (a + k)) := by
  rw [metasN]
  unfold metasAt
  generalize toP ((a + k : Nat) : Int) = o
  cases o <;> rfl
theorem cov_all : (List.range 600).all covAt = true := by decide +kernel
theorem sorted_all : (List.range 601).all (fun b => decide (allT.filter (fun x => decide (x.2.1 < b)) = allT.take (cntN b))) = true := by decide +kernel
theorem addAll_in {o : List Int} : ∀ {ms : List Int}, (∀ x ∈ ms, x ∈ o) → addAll o ms = o
  | [], _ => rfl
  | m :: ms, h => by
    unfold addAll
    rw [List.foldl_cons, if_pos (h m (by simp))]
    exact addAll_in (fun x hx => h x (by simp [hx]))
theorem addAll_new : ∀ {ms o : List Int}, (o ++ ms).Nodup → addAll o ms = o ++ ms
  | [], o, _ => by simp [addAll]
  | m :: ms, o, h => by
    have hm : m ∉ o := fun hm => by
      have := List.nodup_append.1 h
      exact this.2.2 m hm m (by simp) rfl
    unfold addAll
    rw [List.foldl_cons, if_neg hm]
    have := addAll_new (ms := ms) (o := o ++ [m]) (by simpa using h)
    unfold addAll at this
    rw [this, List.append_assoc]
    rfl
theorem addAll_two (o a b : List Int) : addAll o (a ++ b) = addAll (addAll o a) b := by simp [addAll]
theorem take_next {b : Nat} (h : cntN b ≤ cntN (b + 1)) : allT.take (cntN (b + 1)) = allT.take (cntN b) ++ newT b := by
  unfold newT
  rw [← List.take_add]
  congr 1; omega
/-- The stretch's. -/
def strT (a b : Nat) : List Int := ((allT.take (cntN b)).filter fun x => decide (a < x.2.2)).map (·.1)
theorem metasN_str (a : Nat) : ∀ k, a + k ≤ 600 → 1 ≤ k → metasN a k = strT a (a + k)
  | 0, _, h => by omega
  | k + 1, hk, _ => by
    have h2 := List.all_eq_true.1 cov_all (a + k) (List.mem_range.2 (by omega))
    unfold covAt at h2
    simp only [Bool.and_eq_true, decide_eq_true_eq] at h2
    obtain ⟨⟨c1, c2⟩, c3⟩ := h2
    have hn := take_next c3
    have hnf : ((newT (a + k)).filter fun x => decide (a < x.2.2)) = newT (a + k) := List.filter_eq_self.2 (fun x hx => by
      have := List.all_eq_true.1 c2 x hx
      simp only [decide_eq_true_eq] at this ⊢
      omega)
    have hst : strT a (a + k + 1) = strT a (a + k) ++ (newT (a + k)).map (·.1) := by
      unfold strT
      rw [hn, List.filter_append, hnf, List.map_append]
    have hnd : (strT a (a + k) ++ (newT (a + k)).map (·.1)).Nodup := by
      rw [← hst]
      exact List.Nodup.sublist (((List.filter_sublist).trans (List.take_sublist _ _)).map _) allT_nodup
    rw [metasN_succ, ← Nat.add_assoc]
    rewrite [hst, c1, addAll_two]
    rcases Nat.eq_zero_or_pos k with rfl | hp
    · have e0 : metasN a 0 = [] := rfl
      have e1 : strT a (a + 0) = (oldT (a + 0)).map (·.1) := rfl
      rw [e0, ← e1, addAll_new (ms := strT a (a + 0)) (o := []) (by rw [List.nil_append]; exact (List.nodup_append.1 hnd).1), List.nil_append]
      exact addAll_new hnd
    · rw [metasN_str a k (by omega) hp, addAll_in (o := strT a (a + k)) (ms := (oldT (a + k)).map (·.1))]
      · exact addAll_new hnd
      · intro x hx
        obtain ⟨y, hy, rfl⟩ := List.mem_map.1 hx
        unfold oldT at hy
        rw [List.mem_filter] at hy
        refine List.mem_map.2 ⟨y, List.mem_filter.2 ⟨hy.1, ?_⟩, rfl⟩
        have := hy.2
        simp only [decide_eq_true_eq] at this ⊢
        omega
theorem metasR_str {a b : Nat} (hab : a < b) (hb : b ≤ 600) : metasR a b allR = strT a b := by
  have h1 : metasR a b allR = ((allR.map (fun m => (m.n, m.first, m.first + manyN m.level m.first))).filter fun x => decide (a < x.2.2) && decide (x.2.1 < b)).map (·.1) := by
    rw [List.filter_map, List.map_map]
    unfold metasR
    congr 1
    refine List.filter_congr (fun m _ => ?_)
    simp only [Function.comp_apply, decide_eq_true hab, Bool.and_true]
    exact Bool.and_comm _ _
  have h2 := List.all_eq_true.1 sorted_all b (List.mem_range.2 (by omega))
  rw [decide_eq_true_eq] at h2
  rw [h1, allT_eq, ← List.filter_filter, h2]
  rfl
/-- Both ways agree. -/
theorem metas_agree {a b : Nat} (hab : a ≤ b) (hb : b ≤ 600) : metasR a b allR = metasN a (b - a) := by
  rcases Nat.lt_or_ge a b with h | h
  · rw [metasR_str h hb, metasN_str a (b - a) (by omega) (by omega), show a + (b - a) = b by omega]
  · have e : b - a = 0 := by omega
    rw [e]
    unfold metasR
    rw [List.filter_eq_nil_iff.2 (fun m _ => by simp [Nat.not_lt.2 h])]
    rfl
end Go.Proofs.YtakflabokbaibaaDoor
