/- A region whose last operation waits for all others: what the region holds to need not hold behind that last one. No program in sight. -/
import Derived.Deep.RegionHeld3
set_option linter.unusedVariables false
set_option linter.unusedSimpArgs false
namespace Go.Proofs.YtopjkpopdffkeaaDoor

/-- The post of the region without its last operation. -/
def LastQ (P : Program) (ops : Array Oper) (Q : Exit → Act → World → Prop) (z : Nat) : Exit → Act → World → Prop
  | .normal, a, w => wpOp P ops Q z (fun a' w' => Q .normal a' w') a w
  | e, a, w => Q e a w
section
variable {P : Program} {ops : Array Oper} {Q : Exit → Act → World → Prop} {md : Region.Mode} {z : Nat}
theorem upon_imp {o : Oper} {a : Act} {K K' : Act → World → Prop} {Q' : Exit → Act → World → Prop} (hK : ∀ a w, K a w → K' a w) (hp : ∀ c a w, Q' (.panic c) a w → Q (.panic c) a w) (ho : LetsOut Q' → LetsOut Q) :
    ∀ r, o.upon P a K Q' r → o.upon P a K' Q r := by
  intro r h
  unfold Oper.upon at *
  split at h
  · exact hK _ _ h
  · exact hK _ _ h
  · exact hK _ _ h
  · refine Calls.mono h fun e w' he => ?_
    cases e with
    | returned v => exact hK _ _ he
    | panicked c => exact hp _ _ _ he
    | outgrown => exact ho he
  · exact Rows.mono h fun u w' he => hK _ _ he
  · exact hp _ _ _ h
  · exact h
theorem wpOp_imp {i : Nat} {a : Act} {w : World} {K K' : Act → World → Prop} {Q' : Exit → Act → World → Prop} (hK : ∀ a w, K a w → K' a w) (hp : ∀ c a w, Q' (.panic c) a w → Q (.panic c) a w) (ho : LetsOut Q' → LetsOut Q)
    (h : wpOp P ops Q' i K a w) : wpOp P ops Q i K' a w := by
  unfold wpOp at *
  split
  · rename_i hn
    simp only [hn] at h
    exact hK _ _ h
  · rename_i o hn
    simp only [hn] at h
    split
    · rename_i hw
      rw [if_pos hw] at h
      rcases h with h | ⟨h1, h2⟩
      · exact .inl (upon_imp hK hp ho _ h)
      · exact .inr ⟨h1, ho h2⟩
    · rename_i hw
      rw [if_neg hw] at h
      exact hK _ _ h
/-- The check: each edge leads back, none to z, and for each other one somebody waits. -/
def lastOk (ops : Array Oper) (md : Region.Mode) (z : Nat) : Bool :=
  decide (z + 1 = ops.size) && (List.range ops.size).all (fun i => match ops[i]? with
    | none => true
    | some o => o.after.all (fun e => !Region.binds md e || (decide (e.on < i) && decide (e.on ≠ z)))) &&
  (List.range z).all fun j => (List.range ops.size).any fun i => match ops[i]? with
    | none => false
    | some o => o.after.any fun e => Region.binds md e && decide (e.on = j)
theorem lastOk_spec (h : lastOk ops md z = true) : z + 1 = ops.size ∧ (∀ i o, ops[i]? = some o → ∀ e ∈ o.after, Region.binds md e = true → e.on < i ∧ e.on ≠ z) ∧ ∀ j, j < z → ∃ (i : Nat) (o : Oper), ops[i]? = some o ∧ ∃ e ∈ o.after, Region.binds md e = true ∧ e.on = j := by
  unfold lastOk at h
  rw [Bool.and_eq_true, Bool.and_eq_true] at h
  obtain ⟨⟨h1, h2⟩, h3⟩ := h
  have h1 := of_decide_eq_true h1
  refine ⟨h1, fun i o ho e he hb => ?_, fun j hj => ?_⟩
  · have h4 := List.all_eq_true.1 h2 i (List.mem_range.2 (Array.getElem?_eq_some_iff.1 ho).1)
    rw [ho] at h4
    have h5 := Array.all_eq_true'.1 h4 e he
    rw [hb] at h5
    simp only [Bool.not_true, Bool.false_or, Bool.and_eq_true] at h5
    exact ⟨of_decide_eq_true h5.1, of_decide_eq_true h5.2⟩
  · obtain ⟨i, hi, h4⟩ := List.any_eq_true.1 (List.all_eq_true.1 h3 j (List.mem_range.2 hj))
    rcases ho : ops[i]? with _ | o
    · rw [ho] at h4; cases h4
    · rw [ho] at h4
      obtain ⟨e, he, h6⟩ := Array.any_eq_true'.1 h4
      rw [Bool.and_eq_true] at h6
      exact ⟨i, o, ho, e, he, h6.1, of_decide_eq_true h6.2⟩
/-- What is listed, its edges are. -/
def Shut2 (ops : Array Oper) (md : Region.Mode) (z : Nat) (listed : Array Bool) : Prop := ∀ i o, i ≠ z → ops[i]? = some o → listed.getD i false = true → ∀ e ∈ o.after, Region.binds md e = true → listed.getD e.on false = true
theorem Shut2.add {listed : Array Bool} (h : Shut2 ops md z listed) {i : Nat} (hi : i ∈ Region.ready md ops listed) : Shut2 ops md z (listed.setIfInBounds i true) := by
  intro j o hj ho hl e he hb
  refine getD_set_true ?_
  by_cases hij : i = j
  · subst hij
    obtain ⟨-, o', ho', h'⟩ := mem_ready.1 hi
    rw [ho] at ho'
    injection ho' with ho'
    subst ho'
    exact h' e he hb
  · rw [getD_set_ne false hij] at hl
    exact h j o hj ho hl e he hb
theorem wpAny_last (hok : lastOk ops md z = true) : ∀ (fuel : Nat) (listed : Array Bool) (a : Act) (w : World), listed.size = ops.size → listed.getD z true = false → Shut2 ops md z listed →
    wpAny P md ops (LastQ P ops Q z) fuel (listed.setIfInBounds z true) a w → wpAny P md ops Q (fuel + 1) listed a w := by
  obtain ⟨hz, hback, hwait⟩ := lastOk_spec hok
  have hzlt : z < ops.size := by omega
  obtain ⟨oz, hoz⟩ : ∃ o, ops[z]? = some o := ⟨_, Array.getElem?_eq_getElem hzlt⟩
  -- what is ready while z is not listed, and what is where it is held for listed
  have hsame : ∀ (listed : Array Bool) (j : Nat), j ≠ z → (j ∈ Region.ready md ops listed ↔ j ∈ Region.ready md ops (listed.setIfInBounds z true)) := fun listed j hj => by
    rw [mem_ready, mem_ready, getD_set_ne true (Ne.symm hj)]
    refine and_congr_right fun _ => ⟨fun ⟨o, ho, h⟩ => ⟨o, ho, fun e he hb => ?_⟩, fun ⟨o, ho, h⟩ => ⟨o, ho, fun e he hb => ?_⟩⟩
    · exact getD_set_true (h e he hb)
    · have := h e he hb
      rwa [getD_set_ne false (Ne.symm (hback j o ho e he hb).2)] at this
  have hall : ∀ (listed : Array Bool), listed.size = ops.size → Region.ready md ops (listed.setIfInBounds z true) = [] → ∀ j, j < z → listed.getD j false = true := fun listed hs hr j => by
    induction j using Nat.strongRecOn with
    | _ j ih =>
      intro hj
      rcases hb : listed.getD j true with _ | _
      · exfalso
        have hjo : j < ops.size := by omega
        have : j ∈ Region.ready md ops (listed.setIfInBounds z true) := (hsame listed j (by omega)).1 (mem_ready.2 ⟨hb, _, Array.getElem?_eq_getElem hjo, fun e he hbd => by
          obtain ⟨h1, h2⟩ := hback j _ (Array.getElem?_eq_getElem hjo) e he hbd
          exact ih e.on h1 (by omega)⟩)
        rw [hr] at this
        cases this
      · have hjl : j < listed.size := by omega
        simpa [hjl] using hb
  have hzr : ∀ (listed : Array Bool), Shut2 ops md z listed → z ∈ Region.ready md ops listed → ∀ j, j < z → listed.getD j false = true := fun listed hcl hr => by
    obtain ⟨-, o, ho, h⟩ := mem_ready.1 hr
    have main : ∀ d j, z - j = d → j < z → listed.getD j false = true := fun d => by
      induction d using Nat.strongRecOn with
      | _ d ih =>
        intro j hd hj
        obtain ⟨i, oi, hoi, e, he, hb, rfl⟩ := hwait j hj
        have h1 := (hback i oi hoi e he hb).1
        have hil := (Array.getElem?_eq_some_iff.1 hoi).1
        by_cases hiz : i = z
        · subst hiz
          rw [ho] at hoi
          injection hoi with hoi
          subst hoi
          exact h e he hb
        · exact hcl i oi hiz hoi (ih (z - i) (by omega) i rfl (by omega)) e he hb
    exact fun j hj => main (z - j) j rfl hj
  have fin : ∀ (fuel : Nat) (listed : Array Bool) (a : Act) (w : World), listed.size = ops.size → listed.getD z true = false → (∀ j, j < z → listed.getD j false = true) → LastQ P ops Q z .normal a w → wpAny P md ops Q (fuel + 1) listed a w := fun fuel listed a w hs hl hA h => by
    have hnone : ∀ j, j ∈ Region.ready md ops listed → j = z := fun j hj => by
      obtain ⟨h0, o, ho, -⟩ := mem_ready.1 hj
      have hjl := (Array.getElem?_eq_some_iff.1 ho).1
      rcases Nat.lt_trichotomy j z with h1 | h1 | h1
      · have := hA j h1
        have hjs : j < listed.size := by omega
        simp [hjs] at h0 this
        rw [h0] at this; cases this
      · exact h1
      · omega
    have hzm : z ∈ Region.ready md ops listed := mem_ready.2 ⟨hl, oz, hoz, fun e he hb => by
      obtain ⟨h1, h2⟩ := hback z oz hoz e he hb
      exact hA e.on h1⟩
    refine ⟨fun h0 => (by rw [h0] at hzm; cases hzm), fun i hi => ?_⟩
    have := hnone i hi
    subst this
    refine wpOp_mono (fun a' w' hq => ?_) h
    have hr : Region.ready md ops (listed.setIfInBounds i true) = [] := by
      rw [List.eq_nil_iff_forall_not_mem]
      intro j hj
      obtain ⟨h0, o, ho, -⟩ := mem_ready.1 hj
      have hjl := (Array.getElem?_eq_some_iff.1 ho).1
      have hil : i < listed.size := by omega
      by_cases e : j = i
      · subst e
        simp [hil] at h0
      · rw [getD_set_ne true (Ne.symm e)] at h0
        have hji : j < i := by omega
        have := hA j hji
        have hjs : j < listed.size := by omega
        simp [hjs] at h0 this
        rw [h0] at this; cases this
    cases fuel with
    | zero => exact ⟨hr, hq⟩
    | succ n => exact ⟨fun _ => hq, fun k hk => by rw [hr] at hk; cases hk⟩
  intro fuel
  induction fuel with
  | zero =>
    intro listed a w hs hl hcl h
    exact fin 0 listed a w hs hl (hall listed hs h.1) h.2
  | succ fuel ih =>
    intro listed a w hs hl hcl h
    by_cases hr : Region.ready md ops (listed.setIfInBounds z true) = []
    · exact fin (fuel + 1) listed a w hs hl (hall listed hs hr) (h.1 hr)
    · obtain ⟨j0, hj0⟩ := List.exists_mem_of_ne_nil _ hr
      have hj0z : j0 ≠ z := by
        rintro rfl
        obtain ⟨h0, -⟩ := mem_ready.1 hj0
        have hil : j0 < listed.size := by omega
        simp [hil] at h0
      refine ⟨fun h0 => ?_, fun i hi => ?_⟩
      · have := (hsame listed j0 hj0z).2 hj0
        rw [h0] at this; cases this
      · by_cases hiz : i = z
        · exfalso
          subst hiz
          obtain ⟨h0, o, ho, -⟩ := mem_ready.1 hj0
          rw [getD_set_ne true (Ne.symm hj0z)] at h0
          have hjl := (Array.getElem?_eq_some_iff.1 ho).1
          have hA := hzr listed hcl hi j0 (by omega)
          have hjs : j0 < listed.size := by omega
          simp [hjs] at h0 hA
          rw [h0] at hA; cases hA
        · have h1 := h.2 i ((hsame listed i hiz).1 hi)
          refine wpOp_imp (fun a' w' hk => ?_) (fun _ _ _ hp => hp) (fun hp => hp) h1
          rw [Array.setIfInBounds_comm _ _ (Ne.symm hiz)] at hk
          exact ih (listed.setIfInBounds i true) a' w' (by simpa using hs) (by rw [getD_set_ne true hiz]; exact hl) (hcl.add hi) hk
/-- The beginning of a region whose last operation stands apart. -/
theorem wp_region_last {S : World → Prop} {id : Nat} {a : Act} {w : World} {n : Nat} (hm : P.follows .mixedOrders = true) (hn : ops.size = n + 1) (hok : lastOk ops .any n = true) (hS : S w.drew)
    (h : S w.drew → wpAnyH P .any ops (LastQ P ops Q n) S n ((Array.replicate ops.size false).setIfInBounds n true) a w.drew) : (Code.region id ops true).wp P Q a w := by
  refine wp_region_any hm ?_
  rw [hn]
  exact wpAny_last hok n _ a _ (by simp [hn]) (by simp) (fun i o _ _ hl => by exfalso; rw [Array.getD_eq_getD_getElem?, Array.getElem?_replicate] at hl; split at hl <;> simp at hl) (by have := wpAny_of_held _ _ _ _ (h hS); rw [hn] at this; exact this)
theorem LastQ.step {a : Act} {w : World} {o : Oper} (ho : ops[z]? = some o) (hg : o.guard = none) (h : Oper.wp P o a w (fun a' w' => Q .normal a' w') Q) : LastQ P ops Q z .normal a w := by
  show wpOp P ops Q z _ a w
  unfold wpOp
  simp only [ho]
  rw [if_pos (by simp [Region.wanted, hg])]
  exact .inl h
end
end Go.Proofs.YtopjkpopdffkeaaDoor
