/- The document's disk, plain, and how it stands to the program's. No condition. -/
import Derived.Test.YteikpbangjpilaaDskU
import Derived.Test.YteikpbangjpilaaDskX
import Derived.Test.YteikpbangjpilaaDskV
set_option linter.unusedSimpArgs false
set_option linter.unusedVariables false
namespace Go.Proofs.Yteikpbangjpilaa.DskW
open Go Go.RowKit Go.Proofs.Yteikpbangjpilaa.Sp Go.Proofs.Yteikpbangjpilaa.Fus
/-- A write that is pending: which slot, what was there, and what is. -/
structure Wt where
  slot : Nat
  was : List UInt8
  now : List UInt8
/-- The document's disk. -/
structure Rk where
  slots : List (List UInt8)
  live : Bool
  wait : List Wt
structure Rk.ok (M : Rk) : Prop where
  few : M.slots.length ≤ 64
  len : ∀ b ∈ M.slots, b.length = 96
  wlen : ∀ x ∈ M.wait, x.was.length = 96 ∧ x.now.length = 96
  wslot : ∀ x ∈ M.wait, x.slot < M.slots.length
  wfew : M.wait.length ≤ 1000000
def Rk.new (n : Int) : Rk := ⟨List.replicate (min n.toNat 64) blk0, true, []⟩
def rkWrite (F : Fu) (M : Rk) (i : Int) (bs : List UInt8) : Int × Fu × Rk :=
  if ¬ ((0 ≤ i ∧ i < M.slots.length) ∧ bs.length = 96) then (1, F, M) else if M.live = false then (5, F, M) else if fdead (some F) = true then (4, F, M) else (0, (fspend (some F)).getD F, ⟨M.slots.set i.toNat bs, M.live, M.wait ++ [⟨i.toNat, M.slots.getD i.toNat [], bs⟩]⟩)
def rkErr (M : Rk) (i : Int) : Int := if 0 ≤ i ∧ i < M.slots.length then (if M.live = false then 5 else 0) else 1
def rkRead (M : Rk) (i : Int) : List UInt8 := if (0 ≤ i ∧ i < M.slots.length) ∧ M.live = true then M.slots.getD i.toNat [] else []
def rkSync (F : Fu) (M : Rk) : Int × Rk := if M.live = false then (5, M) else if fdead (some F) = true then (4, M) else (0, ⟨M.slots, M.live, []⟩)
def rkReplace (M : Rk) : Rk := ⟨List.replicate M.slots.length blk0, true, []⟩
/-- The last write of a slot has these bytes. -/
def setLast (slot : Nat) (b : List UInt8) (l : List Wt) : Nat → List Wt
  | 0 => l
  | q + 1 => if (l.getD q ⟨0, [], []⟩).slot = slot then l.set q ⟨slot, (l.getD q ⟨0, [], []⟩).was, b⟩ else setLast slot b l q
def rkRot (M : Rk) (i k : Int) (x : UInt8) : Bool × Rk :=
  if (0 ≤ i ∧ i < M.slots.length) ∧ 0 ≤ k ∧ k < 96 ∧ M.live = true then
    (true, ⟨M.slots.set i.toNat ((M.slots.getD i.toNat []).set k.toNat ((M.slots.getD i.toNat []).getD k.toNat 0 ^^^ x)), M.live, setLast i.toNat ((M.slots.getD i.toNat []).set k.toNat ((M.slots.getD i.toNat []).getD k.toNat 0 ^^^ x)) M.wait M.wait.length⟩)
  else (false, M)
/-- The last writes undone, down to the q-th. -/
def undo (l : List Wt) (S : List (List UInt8)) : Nat → List (List UInt8)
  | 0 => S
  | d + 1 => (undo l S d).set (l.getD (l.length - 1 - d) ⟨0, [], []⟩).slot (l.getD (l.length - 1 - d) ⟨0, [], []⟩).was
def rkCrash (M : Rk) (keep torn : Int) : Rk :=
  let k := min keep.toNat M.wait.length
  let t := min torn.toNat 96
  let S := undo M.wait M.slots (M.wait.length - k)
  let w := M.wait.getD k ⟨0, [], []⟩
  ⟨if k < M.wait.length then S.set w.slot (w.now.take t ++ w.was.drop t) else S, M.live, []⟩
/-- What the document keeps of writes that are pending. -/
def waits (L : List (List UInt8)) (pend : List (Nat × List UInt8)) : List Wt := (List.range pend.length).map fun j => ⟨(pend.getD j (0, [])).1, nowB L (pend.take j) (pend.getD j (0, [])).1, (pend.getD j (0, [])).2⟩
/-- How the document's disk stands to the program's. -/
structure Sim (D : Dk) (M : Rk) : Prop where
  len : M.slots.length = D.lasts.length
  live : M.live = !D.gone
  slots : D.gone = false → ∀ i, i < D.lasts.length → M.slots.getD i [] = nowB D.lasts D.pend i
  wait : D.gone = false → M.wait = waits D.lasts D.pend
theorem getD_set_self {α : Type} (l : List α) (i : Nat) (h : i < l.length) (x d : α) : (l.set i x).getD i d = x := by
  rw [List.getD_eq_getElem?_getD, List.getElem?_set_self h]
  rfl
theorem getD_set_ne {α : Type} (l : List α) (i j : Nat) (h : i ≠ j) (x d : α) : (l.set i x).getD j d = l.getD j d := by
  rw [List.getD_eq_getElem?_getD, List.getD_eq_getElem?_getD, List.getElem?_set_ne h]
theorem nowB_nil (L : List (List UInt8)) (s : Nat) : nowB L [] s = L.getD s [] := rfl
theorem nowB_snoc (L : List (List UInt8)) (p : List (Nat × List UInt8)) (x : Nat × List UInt8) (s : Nat) : nowB L (p ++ [x]) s = if x.1 = s then x.2 else nowB L p s := by
  unfold nowB
  rw [List.foldl_append]
  rfl
theorem nowB_take (L : List (List UInt8)) (p : List (Nat × List UInt8)) (j : Nat) (h : j < p.length) (s : Nat) : nowB L (p.take (j + 1)) s = if (p.getD j (0, [])).1 = s then (p.getD j (0, [])).2 else nowB L (p.take j) s := by
  rw [List.take_succ_eq_append_getElem h, nowB_snoc]
  simp [List.getD_eq_getElem?_getD, h]
theorem waits_len (L : List (List UInt8)) (p : List (Nat × List UInt8)) : (waits L p).length = p.length := by simp [waits]
theorem waits_at (L : List (List UInt8)) (p : List (Nat × List UInt8)) (j : Nat) (h : j < p.length) : (waits L p).getD j ⟨0, [], []⟩ = ⟨(p.getD j (0, [])).1, nowB L (p.take j) (p.getD j (0, [])).1, (p.getD j (0, [])).2⟩ := by
  simp [waits, List.getD_eq_getElem?_getD, h]
theorem waits_snoc (L : List (List UInt8)) (p : List (Nat × List UInt8)) (x : Nat × List UInt8) : waits L (p ++ [x]) = waits L p ++ [⟨x.1, nowB L p x.1, x.2⟩] := by
  unfold waits
  rw [List.length_append, List.length_singleton, List.range_succ, List.map_append, List.map_singleton]
  congr 1
  · refine List.map_congr_left fun j hj => ?_
    have hj' : j < p.length := by simpa using hj
    rw [List.take_append_of_le_length (by omega)]
    simp [List.getD_eq_getElem?_getD, List.getElem?_append_left hj']
  · simp [List.getD_eq_getElem?_getD]
theorem lastK_now (keep torn : Nat) (p : List (Nat × List UInt8)) (L : List (List UInt8)) (hs : ∀ x ∈ p, x.1 < L.length) : ∀ k, k ≤ p.length → k ≤ keep → ∀ s, s < L.length → (lastK keep torn p L k).getD s [] = nowB L (p.take k) s
  | 0, _, _, s, _ => rfl
  | k + 1, h, hk, s, hsl => by
    have ih := lastK_now keep torn p L hs k (by omega) (by omega) s hsl
    rw [nowB_take L p k (by omega)]
    unfold lastK step
    rw [if_pos (by omega)]
    have hsk : (p.getD k (0, [])).1 < L.length := by
      have e : p.getD k (0, []) = p[k] := by simp [List.getD_eq_getElem?_getD, show k < p.length by omega]
      rw [e]; exact hs _ (List.getElem_mem _)
    by_cases e : (p.getD k (0, [])).1 = s
    · rw [if_pos e, e]
      exact getD_set_self _ _ (by rw [lastK_len]; exact hsl) _ _
    · rw [if_neg e, ← ih]
      exact getD_set_ne _ _ _ e _ _
theorem lastK_after (keep torn : Nat) (p : List (Nat × List UInt8)) (L : List (List UInt8)) : ∀ d, lastK keep torn p L (keep + 1 + d) = lastK keep torn p L (keep + 1)
  | 0 => rfl
  | d + 1 => by
    rw [← lastK_after keep torn p L d]
    show step keep torn (keep + 1 + d) _ (lastK keep torn p L (keep + 1 + d)) = _
    unfold step
    rw [if_neg (by omega), if_neg (by omega)]
theorem undo_len (l : List Wt) (S : List (List UInt8)) : ∀ d, (undo l S d).length = S.length
  | 0 => rfl
  | d + 1 => by unfold undo; rw [List.length_set, undo_len l S d]
theorem undo_now {L S : List (List UInt8)} {p : List (Nat × List UInt8)} (hS : ∀ s, s < L.length → S.getD s [] = nowB L p s) (hl : S.length = L.length) (hp : ∀ x ∈ p, x.1 < L.length) : ∀ d, d ≤ p.length → ∀ s, s < L.length → (undo (waits L p) S d).getD s [] = nowB L (p.take (p.length - d)) s
  | 0, _, s, hs => by rw [Nat.sub_zero, List.take_length]; exact hS s hs
  | d + 1, h, s, hs => by
    have ih := undo_now hS hl hp d (by omega) s hs
    unfold undo
    rw [waits_len, waits_at L p _ (by omega)]
    rw [show p.length - d = p.length - 1 - d + 1 by omega, nowB_take L p _ (by omega)] at ih
    rw [show p.length - (d + 1) = p.length - 1 - d by omega]
    by_cases e : (p.getD (p.length - 1 - d) (0, [])).1 = s
    · simp only [e]
      exact getD_set_self _ _ (by rw [undo_len, hl]; exact hs) _ _
    · rw [if_neg e] at ih
      rw [← ih]
      exact getD_set_ne _ _ _ e _ _
section
variable {D : Dk} {M : Rk}
theorem sim_new (n : Int) : Sim (Dk.new n) (Rk.new n) where
  len := by simp [Dk.new, Rk.new]
  live := rfl
  slots := fun _ i hi => rfl
  wait := fun _ => rfl
theorem sim_write (h : Sim D M) (F : Fu) (i : Int) (bs : List UInt8) : (rkWrite F M i bs).1 = (dWrite (some F) D i bs).1 ∧ some (rkWrite F M i bs).2.1 = (dWrite (some F) D i bs).2.1 ∧ Sim (dWrite (some F) D i bs).2.2 (rkWrite F M i bs).2.2 := by
  unfold rkWrite dWrite
  rw [h.len, h.live]
  by_cases c : (0 ≤ i ∧ i < (D.lasts.length : Int)) ∧ bs.length = 96
  · rw [if_neg (not_not_intro c), if_neg (not_not_intro c)]
    cases hg : D.gone
    · rw [if_neg (show ¬ ((!false) = false) by simp), if_neg (show ¬ (false = true) by simp)]
      by_cases hd : fdead (some F) = true
      · rw [if_pos hd, if_pos hd]
        exact ⟨rfl, rfl, h⟩
      · have hsp : ∃ F', fspend (some F) = some F' := by
          simp [fspend]
        obtain ⟨F', hF⟩ := hsp
        rw [if_neg hd, if_neg hd, hF]
        refine ⟨rfl, rfl, ⟨by simp [h.len], by simp, fun _ s hs => ?_, fun _ => ?_⟩⟩
        · have hs' : s < D.lasts.length := hs
          show (M.slots.set i.toNat bs).getD s [] = nowB D.lasts (D.pend ++ [(i.toNat, bs)]) s
          rw [nowB_snoc]
          by_cases e : i.toNat = s
          · rw [if_pos e, e]
            exact getD_set_self _ _ (by rw [h.len]; exact hs') _ _
          · rw [if_neg e, ← h.slots hg s hs']
            exact getD_set_ne _ _ _ e _ _
        · show M.wait ++ _ = waits D.lasts (D.pend ++ [(i.toNat, bs)])
          rw [waits_snoc, ← h.wait hg, h.slots hg i.toNat (by omega)]
    · rw [if_pos (show (!true) = false from rfl), if_pos rfl]
      exact ⟨rfl, rfl, h⟩
  · rw [if_pos c, if_pos c]
    exact ⟨rfl, rfl, h⟩
theorem sim_read (h : Sim D M) (i : Int) : rkErr M i = dErr D i ∧ rkRead M i = dRead D i := by
  unfold rkErr dErr rkRead dRead
  rw [h.len, h.live]
  by_cases c : 0 ≤ i ∧ i < (D.lasts.length : Int)
  · cases hg : D.gone
    · simp [c]
      exact h.slots hg _ (by omega)
    · simp [c]
  · simp only [if_neg c, c, false_and, if_false, and_self]
theorem sim_sync (h : Sim D M) (hok : D.ok) (F : Fu) : (rkSync F M).1 = (dSync (some F) D).1 ∧ Sim (dSync (some F) D).2 (rkSync F M).2 := by
  unfold rkSync dSync
  rw [h.live]
  cases hg : D.gone
  · rw [if_neg (show ¬ ((!false) = false) by simp), if_neg (show ¬ (false = true) by simp)]
    by_cases hd : fdead (some F) = true
    · rw [if_pos hd, if_pos hd]
      exact ⟨rfl, h⟩
    · rw [if_neg hd, if_neg hd]
      refine ⟨rfl, ⟨by rw [lastK_len]; exact h.len, rfl, fun _ s hs => ?_, fun _ => rfl⟩⟩
      have hs' : s < D.lasts.length := by rw [lastK_len] at hs; exact hs
      show M.slots.getD s [] = (lastK D.pend.length 0 D.pend D.lasts D.pend.length).getD s []
      rw [lastK_now _ _ _ _ hok.pslot _ (Nat.le_refl _) (Nat.le_refl _) s hs', List.take_length]
      exact h.slots hg s hs'
  · rw [if_pos (show (!true) = false from rfl), if_pos rfl]
    exact ⟨rfl, h⟩
theorem sim_replace (h : Sim D M) : Sim ⟨List.replicate D.lasts.length blk0, [], false⟩ (rkReplace M) where
  len := by simp [rkReplace, h.len]
  live := rfl
  slots := fun _ i hi => by simp [rkReplace, h.len, nowB_nil]
  wait := fun _ => rfl
theorem sim_fail (h : Sim D M) : Sim ⟨D.lasts, D.pend, true⟩ ⟨M.slots, false, M.wait⟩ where
  len := h.len
  live := rfl
  slots := fun e => by cases e
  wait := fun e => by cases e
theorem sim_crash (h : Sim D M) (hok : D.ok) (keep torn : Int) : Sim (dCrash D keep torn) (rkCrash M keep torn) := by
  refine ⟨?_, ?_, fun hg s hs => ?_, fun _ => rfl⟩
  · unfold rkCrash dCrash
    simp only
    split <;> simp [undo_len, lastK_len, h.len]
  · exact h.live
  · have hg' : D.gone = false := hg
    have hs' : s < D.lasts.length := by unfold dCrash at hs; rw [lastK_len] at hs; exact hs
    have hS := h.slots hg'
    show (if min keep.toNat M.wait.length < M.wait.length then _ else _ : List (List UInt8)).getD s [] = (lastK keep.toNat (min torn.toNat 96) D.pend D.lasts D.pend.length).getD s []
    rw [h.wait hg', waits_len]
    generalize hk : keep.toNat = k
    generalize min torn.toNat 96 = t
    by_cases c : k < D.pend.length
    · rw [Nat.min_eq_left (by omega), if_pos c, waits_at _ _ _ c]
      have hu := undo_now hS h.len hok.pslot (D.pend.length - k) (by omega) s hs'
      rw [show D.pend.length - (D.pend.length - k) = k by omega] at hu
      obtain ⟨d, hd⟩ : ∃ d, D.pend.length = k + 1 + d := ⟨D.pend.length - (k + 1), by omega⟩
      have hl := lastK_now k t D.pend D.lasts hok.pslot k (by omega) (Nat.le_refl _)
      have e1 : lastK k t D.pend D.lasts D.pend.length = step k t k (D.pend.getD k (0, [])) (lastK k t D.pend D.lasts k) := by
        conv => lhs; rw [hd, lastK_after]
        rfl
      rw [e1]
      unfold step
      rw [if_neg (by omega), if_pos rfl]
      have hsk : (D.pend.getD k (0, [])).1 < D.lasts.length := by
        have e : D.pend.getD k (0, []) = D.pend[k] := by simp [List.getD_eq_getElem?_getD, c]
        rw [e]; exact hok.pslot _ (List.getElem_mem _)
      rw [hl _ hsk]
      by_cases e : (D.pend.getD k (0, [])).1 = s
      · simp only [e]
        rw [getD_set_self _ _ (by rw [undo_len, h.len]; exact hs'), getD_set_self _ _ (by rw [lastK_len]; exact hs')]
      · rw [getD_set_ne _ _ _ e, getD_set_ne _ _ _ e, hu, hl s hs']
    · rw [Nat.min_eq_right (by omega), if_neg (by omega), Nat.sub_self]
      rw [lastK_now k t D.pend D.lasts hok.pslot _ (Nat.le_refl _) (by omega) s hs', List.take_length]
      exact hS s hs'
theorem lastIdx_lt (p : List (Nat × List UInt8)) (s : Nat) : ∀ m q, lastIdx p s m = some q → q < m ∧ (p.getD q (0, [])).1 = s ∧ ∀ j, q < j → j < m → (p.getD j (0, [])).1 ≠ s
  | 0, q, h => by cases h
  | m + 1, q, h => by
    unfold lastIdx at h
    split at h
    · rename_i e
      cases h
      exact ⟨by omega, e, fun j h1 h2 => by omega⟩
    · rename_i e
      obtain ⟨h1, h2, h3⟩ := lastIdx_lt p s m q h
      refine ⟨by omega, h2, fun j h4 h5 => ?_⟩
      by_cases h6 : j = m
      · rw [h6]; exact e
      · exact h3 j h4 (by omega)
theorem lastIdx_no (p : List (Nat × List UInt8)) (s : Nat) : ∀ m, lastIdx p s m = none → ∀ j, j < m → (p.getD j (0, [])).1 ≠ s
  | 0, _, j, hj => by omega
  | m + 1, h, j, hj => by
    unfold lastIdx at h
    split at h
    · cases h
    · rename_i e
      by_cases h6 : j = m
      · rw [h6]; exact e
      · exact lastIdx_no p s m h j (by omega)
theorem lastIdx_same {p p' : List (Nat × List UInt8)} (h : ∀ j, (p'.getD j (0, [])).1 = (p.getD j (0, [])).1) (s : Nat) : ∀ m, lastIdx p' s m = lastIdx p s m
  | 0 => rfl
  | m + 1 => by unfold lastIdx; rw [h m, lastIdx_same h s m]
/-- What a slot has behind the first j writes. -/
def nowN (L : List (List UInt8)) (p : List (Nat × List UInt8)) (s j : Nat) : List UInt8 := match lastIdx p s j with
  | none => L.getD s []
  | some q => (p.getD q (0, [])).2
theorem nowB_idx (L : List (List UInt8)) (p : List (Nat × List UInt8)) (s : Nat) : ∀ j, j ≤ p.length → nowB L (p.take j) s = nowN L p s j
  | 0, _ => rfl
  | j + 1, h => by
    rw [nowB_take L p j (by omega), nowB_idx L p s j (by omega)]
    unfold nowN
    rw [show lastIdx p s (j + 1) = if (p.getD j (0, [])).1 = s then some j else lastIdx p s j from rfl]
    by_cases e : (p.getD j (0, [])).1 = s
    · rw [if_pos e, if_pos e]
    · rw [if_neg e, if_neg e]
theorem setLast_eq (L : List (List UInt8)) (p : List (Nat × List UInt8)) (s : Nat) (b : List UInt8) : ∀ m, m ≤ p.length → setLast s b (waits L p) m = match lastIdx p s m with
    | none => waits L p
    | some q => (waits L p).set q ⟨s, nowB L (p.take q) s, b⟩
  | 0, _ => rfl
  | m + 1, h => by
    unfold setLast lastIdx
    rw [waits_at L p m (by omega)]
    by_cases e : (p.getD m (0, [])).1 = s
    · rw [if_pos e, if_pos e]
      simp only [e]
    · rw [if_neg e, if_neg e]
      exact setLast_eq L p s b m (by omega)
theorem waits_get (L : List (List UInt8)) (p : List (Nat × List UInt8)) (j : Nat) : (waits L p)[j]? = if j < p.length then some ⟨(p.getD j (0, [])).1, nowN L p (p.getD j (0, [])).1 j, (p.getD j (0, [])).2⟩ else none := by
  by_cases h : j < p.length
  · rw [if_pos h, ← nowB_idx L p _ j (by omega)]
    simp [waits, h]
  · rw [if_neg h]
    simp [waits]
    omega
theorem sim_rot (h : Sim D M) (hok : D.ok) (i k : Int) (x : UInt8) : (rkRot M i k x).1 = (dRot D i k x).1 ∧ Sim (dRot D i k x).2 (rkRot M i k x).2 := by
  unfold rkRot dRot
  rw [h.len, h.live]
  by_cases c : (0 ≤ i ∧ i < (D.lasts.length : Int)) ∧ 0 ≤ k ∧ k < 96 ∧ D.gone = false
  · have c' : (0 ≤ i ∧ i < (D.lasts.length : Int)) ∧ 0 ≤ k ∧ k < 96 ∧ (!D.gone) = true := ⟨c.1, c.2.1, c.2.2.1, by simp [c.2.2.2]⟩
    rw [if_pos c, if_pos c']
    have hg := c.2.2.2
    have hi : i.toNat < D.lasts.length := by omega
    rw [h.slots hg _ hi]
    generalize (nowB D.lasts D.pend i.toNat).set k.toNat ((nowB D.lasts D.pend i.toNat).getD k.toNat 0 ^^^ x) = b
    generalize i.toNat = s at hi
    refine ⟨rfl, ?_⟩
    rw [h.wait hg, waits_len, setLast_eq _ _ _ _ _ (Nat.le_refl _)]
    have hall := fun (L : List (List UInt8)) (p : List (Nat × List UInt8)) (y : Nat) => (show nowB L p y = nowN L p y p.length by have q := nowB_idx L p y p.length (Nat.le_refl _); rw [List.take_length] at q; exact q)
    unfold setNow
    cases e : lastIdx D.pend s D.pend.length with
    | none =>
      have hno := lastIdx_no _ _ _ e
      simp only
      have hN : ∀ y j, j ≤ D.pend.length → nowN (D.lasts.set s b) D.pend y j = if y = s ∧ lastIdx D.pend y j = none then b else nowN D.lasts D.pend y j := fun y j hj => by
        unfold nowN
        cases e2 : lastIdx D.pend y j with
        | none =>
          by_cases hy : y = s
          · subst hy; simp [List.getD_eq_getElem?_getD, List.getElem?_set_self, hi]
          · rw [if_neg (by simp [hy])]
            simp [List.getD_eq_getElem?_getD, List.getElem?_set_ne (Ne.symm hy)]
        | some q => simp
      refine ⟨by simp [h.len], rfl, fun _ y hy => ?_, fun _ => ?_⟩
      · have hy' : y < D.lasts.length := by simpa using hy
        show (M.slots.set s b).getD y [] = nowB (D.lasts.set s b) D.pend y
        rw [hall, hN _ _ (Nat.le_refl _)]
        by_cases hys : y = s
        · subst hys
          rw [if_pos ⟨rfl, e⟩]
          simp [List.getD_eq_getElem?_getD, List.getElem?_set_self, h.len, hi]
        · rw [if_neg (by simp [hys]), ← hall, ← h.slots hg y hy']
          simp [List.getD_eq_getElem?_getD, List.getElem?_set_ne (Ne.symm hys)]
      · show waits D.lasts D.pend = waits (D.lasts.set s b) D.pend
        refine List.ext_getElem? fun j => ?_
        rw [waits_get, waits_get]
        by_cases hj : j < D.pend.length
        · rw [if_pos hj, if_pos hj, hN _ _ (by omega), if_neg (by intro hh; exact hno j hj hh.1)]
        · rw [if_neg hj, if_neg hj]
    | some q =>
      obtain ⟨h1, h2, h3⟩ := lastIdx_lt _ _ _ _ e
      simp only
      have hg1 : ∀ j, (D.pend.set q (s, b)).getD j (0, []) = if j = q then (s, b) else D.pend.getD j (0, []) := fun j => by
        by_cases hj : j = q
        · subst hj; simp [List.getD_eq_getElem?_getD, List.getElem?_set_self, h1]
        · rw [if_neg hj]; simp [List.getD_eq_getElem?_getD, List.getElem?_set_ne (Ne.symm hj)]
      have hsl : ∀ j, ((D.pend.set q (s, b)).getD j (0, [])).1 = (D.pend.getD j (0, [])).1 := fun j => by
        rw [hg1]
        by_cases hj : j = q
        · rw [if_pos hj, hj, h2]
        · rw [if_neg hj]
      have hN : ∀ y j, nowN D.lasts (D.pend.set q (s, b)) y j = if lastIdx D.pend y j = some q then b else nowN D.lasts D.pend y j := fun y j => by
        unfold nowN
        rw [lastIdx_same hsl]
        cases e2 : lastIdx D.pend y j with
        | none => simp
        | some q2 =>
          simp only [hg1, Option.some.injEq]
          by_cases hq : q2 = q
          · rw [if_pos hq, if_pos hq]
          · rw [if_neg hq, if_neg hq]
      refine ⟨by simp [h.len], rfl, fun _ y hy => ?_, fun _ => ?_⟩
      · have hy' : y < D.lasts.length := hy
        show (M.slots.set s b).getD y [] = nowB D.lasts (D.pend.set q (s, b)) y
        rw [hall, hN, List.length_set]
        by_cases hys : y = s
        · subst hys
          rw [if_pos e]
          simp [List.getD_eq_getElem?_getD, List.getElem?_set_self, h.len, hi]
        · rw [if_neg (by intro hh; exact hys ((lastIdx_lt _ _ _ _ hh).2.1.symm.trans h2)), ← hall, ← h.slots hg y hy']
          simp [List.getD_eq_getElem?_getD, List.getElem?_set_ne (Ne.symm hys)]
      · show (waits D.lasts D.pend).set q _ = waits D.lasts (D.pend.set q (s, b))
        refine List.ext_getElem? fun j => ?_
        rw [waits_get, List.length_set, hg1, hN]
        by_cases hj : j = q
        · subst hj
          rw [List.getElem?_set_self (by rw [waits_len]; exact h1), if_pos h1, if_pos rfl, nowB_idx _ _ _ _ (by omega), if_neg (by intro hh; have := (lastIdx_lt _ _ _ _ hh).1; omega)]
        · rw [List.getElem?_set_ne (Ne.symm hj), waits_get, if_neg hj]
          by_cases hjl : j < D.pend.length
          · rw [if_pos hjl, if_pos hjl, if_neg (by
              intro hh
              obtain ⟨a1, a2, a3⟩ := lastIdx_lt _ _ _ _ hh
              exact h3 j a1 hjl (a2.symm.trans h2))]
          · rw [if_neg hjl, if_neg hjl]
  · have c' : ¬ ((0 ≤ i ∧ i < (D.lasts.length : Int)) ∧ 0 ≤ k ∧ k < 96 ∧ (!D.gone) = true) := by
      intro hh
      exact c ⟨hh.1, hh.2.1, hh.2.2.1, by simpa using hh.2.2.2⟩
    rw [if_neg c, if_neg c']
    exact ⟨rfl, h⟩
end
end Go.Proofs.Yteikpbangjpilaa.DskW
