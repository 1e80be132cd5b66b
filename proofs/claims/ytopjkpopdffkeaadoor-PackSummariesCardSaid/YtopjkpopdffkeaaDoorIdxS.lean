/- The index in plain numbers: what the program finds, what the reference lists, and that they agree. No program in sight. -/
import Derived.Test.YtopjkpopdffkeaaDoorMem
set_option linter.unusedVariables false
set_option linter.unusedSimpArgs false
namespace Go.Proofs.YtopjkpopdffkeaaDoor

/-- From where on, behind the direct pointers. -/
def spanN : Nat → Nat
  | 0 => 0
  | 1 => 6
  | 2 => 22
  | 3 => 278
  | _ => 1073741824
/-- By how many levels a data block is reached. -/
def rootN (f : Nat) : Nat := if f < 6 then 0 else if f < 22 then 1 else if f < 278 then 2 else 3
/-- May a block of pointers of this level begin at f? -/
def okL (f l : Nat) : Bool := decide (f < 600) && decide (l ≤ rootN f) && decide ((f - spanN (rootN f)) % 16 ^ l = 0)
/-- The candidate's first data of a level; -1: none. -/
def candI (n : Int) (l : Nat) : Int := -(n + (l : Int) - 1)
def hitL (n : Int) (l : Nat) : Bool := decide (0 ≤ candI n l) && okL (candI n l).toNat l
/-- What the program finds: the level, the first data. -/
def findP (n : Int) : Option (Nat × Nat) :=
  if 0 ≤ n then (if n < 600 then some (0, n.toNat) else none)
  else if hitL n 1 then some (1, (candI n 1).toNat)
  else if hitL n 2 then some (2, (candI n 2).toNat)
  else if hitL n 3 then some (3, (candI n 3).toNat)
  else none
structure PathL where
  root : Nat
  metas : List Int
  slots : List Nat
deriving DecidableEq
/-- The way down: from level k, m levels. -/
def wayP (k i : Nat) : Nat → PathL
  | 0 => ⟨5 + k, [], []⟩
  | m + 1 =>
    let p := wayP k i m
    let lev := k - m
    let at_ := i - i % 16 ^ lev
    ⟨p.root, p.metas ++ [-((spanN k + at_ : Nat) : Int) - ((lev : Int) - 1)], p.slots ++ [(i - at_) / 16 ^ (lev - 1)]⟩
/-- The program's path. -/
def toP (n : Int) : Option PathL :=
  match findP n with
  | none => none
  | some (l, f) => if rootN f = 0 then some ⟨f, [], []⟩ else some (wayP (rootN f) (f - spanN (rootN f)) (rootN f - l))

/-- A block of pointers, as the reference lists it. -/
structure MetaL where
  n : Int
  level : Nat
  first : Nat
  p : PathL
deriving DecidableEq
def belowR : Nat → Nat → PathL → List MetaL
  | 0, _, _ => []
  | l + 1, first, p =>
    if 600 ≤ first then [] else
      ⟨-(first : Int) - (l : Int), l + 1, first, p⟩ ::
        (List.range 16).flatMap fun i => belowR l (first + i * 16 ^ l) ⟨p.root, p.metas ++ [-(first : Int) - (l : Int)], p.slots ++ [i]⟩
def allR : List MetaL := belowR 1 6 ⟨6, [], []⟩ ++ belowR 2 22 ⟨7, [], []⟩ ++ belowR 3 278 ⟨8, [], []⟩
/-- What the reference finds on its list. -/
def findL (n : Int) : List MetaL → Option MetaL
  | [] => none
  | m :: l => if m.n = n then some m
    else if m.level = 1 ∧ (m.first : Int) ≤ n ∧ n < (m.first : Int) + 16 ∧ n < 600 then some ⟨n, 0, n.toNat, ⟨m.p.root, m.p.metas ++ [m.n], m.p.slots ++ [(n - (m.first : Int)).toNat]⟩⟩
    else findL n l
def findR (n : Int) : Option MetaL := if 0 ≤ n ∧ n < 6 then some ⟨n, 0, n.toNat, ⟨n.toNat, [], []⟩⟩ else findL n allR
def manyN (l f : Nat) : Nat := min (16 ^ l) (600 - f)

def okAt (n : Int) : Bool := match findR n, findP n, toP n with
  | none, none, none => true
  | some m, some (l, f), some p => decide (m.n = n ∧ m.level = l ∧ m.first = f ∧ m.p = p)
  | _, _, _ => false
theorem ok_all : (List.range 1210).all (fun i => okAt ((i : Int) - 605)) = true := by decide +kernel
theorem all_bd : allR.all (fun m => decide (-602 ≤ m.n ∧ m.n < 0 ∧ m.first < 600)) = true := by decide +kernel
theorem findL_none (n : Int) (hn : n < -605 ∨ 605 ≤ n) : ∀ l : List MetaL, (∀ m ∈ l, -602 ≤ m.n ∧ m.n < 0 ∧ m.first < 600) → findL n l = none
  | [], _ => rfl
  | m :: l, h => by
    have hm := h m (by simp)
    unfold findL
    rw [if_neg (by omega), if_neg (by omega)]
    exact findL_none n hn l (fun x hx => h x (by simp [hx]))
theorem findP_out (n : Int) (hn : n < -605 ∨ 605 ≤ n) : findP n = none := by
  unfold findP
  rcases hn with hn | hn
  · have hc : ∀ l : Nat, l ≤ 3 → 1 ≤ l → hitL n l = false := fun l hl h1 => by
      unfold hitL okL candI
      have : ¬ ((-(n + (l : Int) - 1)).toNat < 600) := by omega
      simp [this]
    rw [if_neg (by omega), if_neg (by simp [hc 1]), if_neg (by simp [hc 2]), if_neg (by simp [hc 3])]
  · rw [if_pos (by omega), if_neg (by omega)]
theorem okAt_any (n : Int) : okAt n = true := by
  by_cases h : n < -605 ∨ 605 ≤ n
  · have h1 : findR n = none := by
      unfold findR
      rw [if_neg (by omega)]
      refine findL_none n h _ fun m hm => ?_
      have := List.all_eq_true.1 all_bd m hm
      simpa using this
    have h2 := findP_out n h
    have h3 : toP n = none := by unfold toP; rw [h2]
    unfold okAt
    rw [h1, h2, h3]
  · have := List.all_eq_true.1 ok_all (n + 605).toNat (by simp; omega)
    rwa [show (((n + 605).toNat : Nat) : Int) - 605 = n by omega] at this
/-- They agree. -/
theorem find_agree (n : Int) : (findP n = none ∧ findR n = none ∧ toP n = none) ∨ ∃ m, findR n = some m ∧ findP n = some (m.level, m.first) ∧ toP n = some m.p ∧ m.n = n := by
  have h := okAt_any n
  unfold okAt at h
  split at h
  · rename_i h1 h2 h3; exact .inl ⟨h2, h1, h3⟩
  · rename_i m l f p h1 h2 h3
    obtain ⟨e1, rfl, rfl, rfl⟩ := of_decide_eq_true h
    exact .inr ⟨m, h1, h2, h3, e1⟩
  · cases h
theorem findP_bd {n : Int} {l f : Nat} (h : findP n = some (l, f)) : l ≤ 3 ∧ f < 600 ∧ (l = 0 → n = (f : Int)) ∧ -605 ≤ n ∧ n < 605 := by
  have hn : -605 ≤ n ∧ n < 605 := by
    by_cases hh : n < -605 ∨ 605 ≤ n
    · rw [findP_out n hh] at h; cases h
    · omega
  unfold findP at h
  have hb : ∀ l, hitL n l = true → (candI n l).toNat < 600 := fun l hl => by
    unfold hitL okL at hl
    simp at hl
    have := hl.2.1.1
    omega
  split at h
  · split at h
    · injection h with h; injection h with h1 h2; subst h1 h2; omega
    · cases h
  · split at h
    · rename_i hh; have := hb _ hh; injection h with h; injection h with h1 h2; subst h1 h2; omega
    · split at h
      · rename_i hh; have := hb _ hh; injection h with h; injection h with h1 h2; subst h1 h2; omega
      · split at h
        · rename_i hh; have := hb _ hh; injection h with h; injection h with h1 h2; subst h1 h2; omega
        · cases h
end Go.Proofs.YtopjkpopdffkeaaDoor
