/- Records, plain: which may be, their bytes, and how bytes are read as one. No condition. -/
import Derived.Test.YtnfkcmcchkcflaaSp
namespace Go.Proofs.Ytnfkcmcchkcflaa.RcM
open Go

structure Lc where
  d : Int
  s : Int
  id : Int
deriving DecidableEq
structure Tb where
  hot : Int
  warm : Int
  gap : Int
  add : Int
  top : Int
  half : Int
deriving DecidableEq
structure Rc where
  kind : Int
  key : List UInt8
  n : Int
  sid : Int
  sids : List Int
  colour : Int
  locs : List Lc
  tab : Tb
deriving DecidableEq
def Tb.list (t : Tb) : List Int := [t.hot, t.warm, t.gap, t.add, t.top, t.half]
def Tb.zero : Tb := ⟨0, 0, 0, 0, 0, 0⟩
def Rc.zero : Rc := ⟨0, [], 0, 0, [], 0, [], Tb.zero⟩
/-- What a kind names. -/
structure Sh where
  key : Bool
  sid : Bool
  colour : Bool
  table : Bool
  n : Int
  sids : Int
  locs : Int
def shp (k : Nat) : Sh :=
  match k with
  | 1 => ⟨true, true, false, false, 64, -1, 3⟩
  | 2 => ⟨true, false, false, false, -1, -1, 0⟩
  | 3 => ⟨true, true, true, false, -1, -1, 6⟩
  | 4 => ⟨true, true, false, false, -1, -1, 3⟩
  | 5 => ⟨false, true, false, false, -1, 1, 4⟩
  | 6 => ⟨false, true, false, false, -1, 0, -1⟩
  | 7 => ⟨false, true, false, false, 15, -1, 1⟩
  | 8 => ⟨false, false, false, true, -1, -1, 0⟩
  | _ => ⟨false, false, false, false, 0, 0, 0⟩
def inn (n lo hi : Int) : Bool := decide (lo ≤ n) && decide (n ≤ hi)
def chOk (c : UInt8) : Bool := decide (32 < c.toNat) && decide (c.toNat < 127)
def keyOk (k : List UInt8) : Bool := decide (1 ≤ k.length) && decide (k.length ≤ 16) && k.all chOk
def lcOk (l : Lc) : Bool := inn l.d 0 23 && inn l.s 0 63 && inn l.id 1 2147483647
def tbOk (t : Tb) : Bool := t.list.all fun n => inn n 0 1000000
/-- How many Locs a record has. -/
def cntL (x : Sh) (sids : List Int) : Nat := if 0 ≤ x.locs then x.locs.toNat else 2 * (sids.filter fun s => decide (s ≠ 0)).length
def plain (x : Sh) (r : Rc) : Bool :=
  (if x.key then keyOk r.key else decide (r.key = [])) && (if x.sid then inn r.sid 1 2147483647 else decide (r.sid = 0)) && inn r.n 0 (max x.n 0) &&
  (if x.colour then inn r.colour 0 2 else decide (r.colour = 0)) && (if x.table then tbOk r.tab else decide (r.tab = Tb.zero))
def rOk (r : Rc) : Bool :=
  inn r.kind 1 8 && (plain (shp r.kind.toNat) r && decide (r.sids.length = if 0 ≤ (shp r.kind.toNat).sids then 3 else 0) && r.sids.all (fun s => inn s (shp r.kind.toNat).sids 2147483647) &&
    (decide (r.locs.length = cntL (shp r.kind.toNat) r.sids) && r.locs.all lcOk))
/-- A byte of a number. -/
def b1 (n : Int) : UInt8 := UInt8.ofNat n.toNat
def be4 (n : Int) : List UInt8 := [b1 (n / 16777216), b1 (n / 65536), b1 (n / 256), b1 n]
def lcB (l : Lc) : List UInt8 := [b1 l.d, b1 l.s] ++ be4 l.id
def rBytes (r : Rc) : List UInt8 :=
  let x := shp r.kind.toNat
  [b1 r.kind] ++ (if x.key then b1 r.key.length :: r.key else []) ++ (if 0 ≤ x.n then [b1 r.n] else []) ++ (if x.sid then be4 r.sid else []) ++ (if x.colour then [b1 r.colour] else []) ++
    r.sids.flatMap be4 ++ (if x.locs < 0 then [b1 r.locs.length] else []) ++ r.locs.flatMap lcB ++ (if x.table then r.tab.list.flatMap be4 else [])

/-! ### reading -/
def pNum (l : List UInt8) : Int := l.foldl (fun n c => n * 256 + (c.toNat : Int)) 0
section
variable {σ : Type} (tk : Nat → σ → List UInt8 × σ)
def gNum (n : Nat) (s : σ) : Int × σ := (pNum (tk n s).1, (tk n s).2)
def gLoc (s : σ) : Lc × σ := (⟨(gNum tk 1 s).1, (gNum tk 1 (gNum tk 1 s).2).1, (gNum tk 4 (gNum tk 1 (gNum tk 1 s).2).2).1⟩, (gNum tk 4 (gNum tk 1 (gNum tk 1 s).2).2).2)
/-- So many, one behind the other. -/
def gMany {α : Type} (f : σ → α × σ) : Nat → σ → List α × σ
  | 0, s => ([], s)
  | n + 1, s => ((gMany f n s).1 ++ [(f (gMany f n s).2).1], (f (gMany f n s).2).2)
def gKey (x : Sh) (s : σ) : List UInt8 × σ := if x.key then tk (gNum tk 1 s).1.toNat (gNum tk 1 s).2 else ([], s)
def gN (x : Sh) (s : σ) : Int × σ := if 0 ≤ x.n then gNum tk 1 s else (0, s)
def gSid (x : Sh) (s : σ) : Int × σ := if x.sid then gNum tk 4 s else (0, s)
def gCol (x : Sh) (s : σ) : Int × σ := if x.colour then gNum tk 1 s else (0, s)
def gSids (x : Sh) (s : σ) : List Int × σ := if 0 ≤ x.sids then gMany (gNum tk 4) 3 s else ([], s)
def gCnt (x : Sh) (s : σ) : Int × σ := if x.locs < 0 then gNum tk 1 s else (x.locs, s)
def gTab (x : Sh) (s : σ) : List Int × σ := if x.table then gMany (gNum tk 4) 6 s else ([0, 0, 0, 0, 0, 0], s)
def tbOf (l : List Int) : Tb := ⟨l.getD 0 0, l.getD 1 0, l.getD 2 0, l.getD 3 0, l.getD 4 0, l.getD 5 0⟩
def gRead (x : Sh) (kind : Int) (s : σ) : Rc × σ :=
  let k := gKey tk x s
  let n := gN tk x k.2
  let i := gSid tk x n.2
  let c := gCol tk x i.2
  let ss := gSids tk x c.2
  let q := gCnt tk x ss.2
  let l := gMany (gLoc tk) q.1.toNat q.2
  let t := gTab tk x l.2
  (⟨kind, k.1, n.1, i.1, ss.1, c.1, l.1, tbOf t.1⟩, t.2)
def gParse (s : σ) : Rc × σ := gRead tk (shp (gNum tk 1 s).1.toNat) (gNum tk 1 s).1 (gNum tk 1 s).2
end

/-! ### bytes are read as they were written -/
theorem b1_toNat {n : Int} (h0 : 0 ≤ n) (h1 : n < 256) : ((b1 n).toNat : Int) = n := by
  unfold b1
  rw [UInt8.toNat_ofNat']
  omega
theorem b1_mod (n : Int) (h0 : 0 ≤ n) : ((b1 n).toNat : Int) = n % 256 := by
  unfold b1
  rw [UInt8.toNat_ofNat']
  omega
theorem pNum_one {n : Int} (h0 : 0 ≤ n) (h1 : n < 256) : pNum [b1 n] = n := by
  have e := b1_toNat h0 h1
  simp [pNum, e]
theorem pNum_be4 {n : Int} (h0 : 0 ≤ n) (h1 : n < 4294967296) : pNum (be4 n) = n := by
  simp only [pNum, be4, List.foldl]
  rw [b1_mod _ (by omega), b1_mod _ (by omega), b1_mod _ (by omega), b1_mod _ (by omega)]
  omega
theorem gMany_st {σ : Type} {st : List UInt8 → σ} {α : Type} {f : σ → α × σ} {g : α → List UInt8} {p : α → Prop} (hf : ∀ a r, p a → f (st (g a ++ r)) = (a, st r)) : ∀ (n : Nat) (l : List α), l.length = n → (∀ a ∈ l, p a) → ∀ r, gMany f n (st (l.flatMap g ++ r)) = (l, st r) := by
  intro n
  induction n with
  | zero => intro l hl hp r; rw [List.eq_nil_of_length_eq_zero hl]; rfl
  | succ n ih =>
    intro l hl hp r
    have hne : l ≠ [] := by rintro rfl; simp at hl
    have e : l.dropLast ++ [l.getLast hne] = l := List.dropLast_concat_getLast hne
    have hd : l.dropLast.length = n := by simp [hl]
    have hp1 : ∀ a ∈ l.dropLast, p a := fun a ha => hp a (List.dropLast_subset l ha)
    have hp2 : p (l.getLast hne) := hp _ (List.getLast_mem hne)
    have eb : l.flatMap g ++ r = l.dropLast.flatMap g ++ (g (l.getLast hne) ++ r) := by
      rw [← List.append_assoc]
      congr 1
      have : l.flatMap g = (l.dropLast ++ [l.getLast hne]).flatMap g := by rw [e]
      rw [this]
      simp
    rw [eb]
    simp only [gMany, ih _ hd hp1, hf _ _ hp2, e]
section
variable {σ : Type} {tk : Nat → σ → List UInt8 × σ} {st : List UInt8 → σ} (ht : ∀ a b, tk a.length (st (a ++ b)) = (a, st b))
include ht
theorem gNum1_st {n : Int} (h0 : 0 ≤ n) (h1 : n < 256) (r : List UInt8) : gNum tk 1 (st (b1 n :: r)) = (n, st r) := by
  have e := ht [b1 n] r
  simp only [List.length_cons, List.length_nil, List.cons_append, List.nil_append, Nat.zero_add] at e
  simp only [gNum, e, pNum_one h0 h1]
theorem gNum4_st {n : Int} (h0 : 0 ≤ n) (h1 : n < 4294967296) (r : List UInt8) : gNum tk 4 (st (be4 n ++ r)) = (n, st r) := by
  have e := ht (be4 n) r
  have e4 : (be4 n).length = 4 := rfl
  rw [e4] at e
  simp only [gNum, e, pNum_be4 h0 h1]
theorem gLoc_st {l : Lc} (h : lcOk l = true) (r : List UInt8) : gLoc tk (st (lcB l ++ r)) = (l, st r) := by
  simp only [lcOk, inn, Bool.and_eq_true, decide_eq_true_eq] at h
  obtain ⟨⟨⟨a, b⟩, c, d⟩, e, f⟩ := h
  obtain ⟨l1, l2, l3⟩ := l
  simp only at a b c d e f
  simp only [gLoc, lcB, List.cons_append, List.nil_append]
  rw [gNum1_st ht (by omega) (by omega)]
  simp only
  rw [gNum1_st ht (by omega) (by omega)]
  simp only
  rw [gNum4_st ht (by omega) (by omega)]
end
theorem shp_n (k : Nat) : (shp k).n ≤ 64 := by unfold shp; split <;> decide
theorem shp_l (k : Nat) : (shp k).locs < 0 → 0 ≤ (shp k).sids := by unfold shp; split <;> decide
theorem shp_l2 (k : Nat) : (shp k).locs ≤ 6 := by unfold shp; split <;> decide
/-- What may be, field by field. -/
structure Good (x : Sh) (r : Rc) : Prop where
  k0 : 1 ≤ r.kind
  k1 : r.kind ≤ 8
  key : x.key = true → keyOk r.key = true
  key0 : x.key = false → r.key = []
  sid : x.sid = true → 1 ≤ r.sid ∧ r.sid ≤ 2147483647
  sid0 : x.sid = false → r.sid = 0
  n0 : 0 ≤ r.n
  n1 : r.n ≤ max x.n 0
  col : x.colour = true → 0 ≤ r.colour ∧ r.colour ≤ 2
  col0 : x.colour = false → r.colour = 0
  tab : x.table = true → ∀ n ∈ r.tab.list, 0 ≤ n ∧ n ≤ 1000000
  tab0 : x.table = false → r.tab = Tb.zero
  ns : r.sids.length = if 0 ≤ x.sids then 3 else 0
  sids : ∀ s ∈ r.sids, x.sids ≤ s ∧ s ≤ 2147483647
  nl : r.locs.length = cntL x r.sids
  locs : ∀ l ∈ r.locs, lcOk l = true
theorem inn_iff {n a b : Int} : inn n a b = true ↔ a ≤ n ∧ n ≤ b := by simp [inn]
theorem good_iff (r : Rc) : rOk r = true ↔ Good (shp r.kind.toNat) r := by
  unfold rOk plain
  generalize shp r.kind.toNat = x
  constructor
  · intro h
    simp only [Bool.and_eq_true, inn_iff, decide_eq_true_eq, List.all_eq_true] at h
    obtain ⟨⟨h1, h2⟩, ⟨⟨⟨⟨⟨⟨h3, h4⟩, h5, h6⟩, h7⟩, h8⟩, h9⟩, h10⟩, h11, h12⟩ := h
    exact {
      k0 := h1, k1 := h2
      key := fun e => by rw [if_pos e] at h3; exact h3
      key0 := fun e => by rw [if_neg (by simp [e])] at h3; simpa using h3
      sid := fun e => by rw [if_pos e] at h4; exact inn_iff.1 h4
      sid0 := fun e => by rw [if_neg (by simp [e])] at h4; simpa using h4
      n0 := h5, n1 := h6
      col := fun e => by rw [if_pos e] at h7; exact inn_iff.1 h7
      col0 := fun e => by rw [if_neg (by simp [e])] at h7; simpa using h7
      tab := fun e n hn => by rw [if_pos e] at h8; exact inn_iff.1 ((List.all_eq_true.1 h8) n hn)
      tab0 := fun e => by rw [if_neg (by simp [e])] at h8; simpa using h8
      ns := h9, sids := h10, nl := h11, locs := h12 }
  · intro g
    simp only [Bool.and_eq_true, inn_iff, decide_eq_true_eq, List.all_eq_true]
    refine ⟨⟨g.k0, g.k1⟩, ⟨⟨⟨⟨⟨⟨?_, ?_⟩, g.n0, g.n1⟩, ?_⟩, ?_⟩, g.ns⟩, g.sids⟩, g.nl, g.locs⟩
    · cases e : x.key
      · simpa using g.key0 e
      · simpa using g.key e
    · cases e : x.sid
      · simpa using g.sid0 e
      · simpa [inn_iff] using g.sid e
    · cases e : x.colour
      · simpa using g.col0 e
      · simpa [inn_iff] using g.col e
    · cases e : x.table
      · simpa using g.tab0 e
      · simpa [tbOk, inn_iff] using g.tab e
def kB (x : Sh) (r : Rc) : List UInt8 := if x.key then b1 r.key.length :: r.key else []
def nB (x : Sh) (r : Rc) : List UInt8 := if 0 ≤ x.n then [b1 r.n] else []
def sB (x : Sh) (r : Rc) : List UInt8 := if x.sid then be4 r.sid else []
def cB (x : Sh) (r : Rc) : List UInt8 := if x.colour then [b1 r.colour] else []
def qB (x : Sh) (r : Rc) : List UInt8 := if x.locs < 0 then [b1 r.locs.length] else []
def tB (x : Sh) (r : Rc) : List UInt8 := if x.table then r.tab.list.flatMap be4 else []
theorem rBytes_eq (r : Rc) : rBytes r = b1 r.kind :: (kB (shp r.kind.toNat) r ++ (nB (shp r.kind.toNat) r ++ (sB (shp r.kind.toNat) r ++ (cB (shp r.kind.toNat) r ++ (r.sids.flatMap be4 ++ (qB (shp r.kind.toNat) r ++ (r.locs.flatMap lcB ++ tB (shp r.kind.toNat) r))))))) := by
  simp only [rBytes, kB, nB, sB, cB, qB, tB, List.append_assoc, List.cons_append, List.nil_append]
theorem cnt6 {x : Sh} {sids : List Int} (h : sids.length ≤ 3) (hl : x.locs ≤ 6) : cntL x sids ≤ 6 := by
  unfold cntL
  split
  · omega
  · have := List.length_filter_le (fun s : Int => decide (s ≠ 0)) sids
    omega
section
variable {σ : Type} {tk : Nat → σ → List UInt8 × σ} {st : List UInt8 → σ} (ht : ∀ a b, tk a.length (st (a ++ b)) = (a, st b))
include ht
theorem gRead_st {x : Sh} {r : Rc} (g : Good x r) (hn : x.n ≤ 64) (_hl : x.locs < 0 → 0 ≤ x.sids) (hl2 : x.locs ≤ 6) (z : List UInt8) :
    gRead tk x r.kind (st (kB x r ++ (nB x r ++ (sB x r ++ (cB x r ++ (r.sids.flatMap be4 ++ (qB x r ++ (r.locs.flatMap lcB ++ (tB x r ++ z))))))))) = (r, st z) := by
  have e1 : ∀ z, gKey tk x (st (kB x r ++ z)) = (r.key, st z) := fun z => by
    unfold gKey kB
    cases e : x.key
    · simp [g.key0 e]
    · have h := g.key e
      simp only [keyOk, Bool.and_eq_true, decide_eq_true_eq] at h
      simp only [if_true, List.cons_append]
      rw [gNum1_st ht (by omega) (by omega)]
      simp only [Int.toNat_natCast]
      exact ht _ _
  have e2 : ∀ z, gN tk x (st (nB x r ++ z)) = (r.n, st z) := fun z => by
    have h0 := g.n0
    have h1 := g.n1
    unfold gN nB
    by_cases e : 0 ≤ x.n
    · simp only [if_pos e, List.cons_append, List.nil_append]
      exact gNum1_st ht h0 (by omega) z
    · simp only [if_neg e, List.nil_append]
      rw [show r.n = 0 by omega]
  have e3 : ∀ z, gSid tk x (st (sB x r ++ z)) = (r.sid, st z) := fun z => by
    unfold gSid sB
    cases e : x.sid
    · simp [g.sid0 e]
    · have h := g.sid e
      simp only [if_true]
      exact gNum4_st ht (by omega) (by omega) z
  have e4 : ∀ z, gCol tk x (st (cB x r ++ z)) = (r.colour, st z) := fun z => by
    unfold gCol cB
    cases e : x.colour
    · simp [g.col0 e]
    · have h := g.col e
      simp only [if_true, List.cons_append, List.nil_append]
      exact gNum1_st ht (by omega) (by omega) z
  have e5 : ∀ z, gSids tk x (st (r.sids.flatMap be4 ++ z)) = (r.sids, st z) := fun z => by
    have h := g.ns
    have h2 := g.sids
    unfold gSids
    by_cases e : 0 ≤ x.sids
    · rw [if_pos e] at h ⊢
      exact gMany_st (p := fun s => 0 ≤ s ∧ s < 4294967296) (fun a r ⟨p, q⟩ => gNum4_st ht p q r) 3 _ h (fun a ha => by have := h2 a ha; omega) z
    · rw [if_neg e] at h ⊢
      rw [List.eq_nil_of_length_eq_zero h]; rfl
  have e6 : ∀ z, gCnt tk x (st (qB x r ++ z)) = ((r.locs.length : Int), st z) := fun z => by
    have h := g.nl
    unfold gCnt qB
    by_cases e : x.locs < 0
    · simp only [if_pos e, List.cons_append, List.nil_append]
      refine gNum1_st ht (by omega) ?_ z
      have h3 := g.ns
      have h4 := cnt6 (x := x) (sids := r.sids) (by rw [h3]; split <;> omega) hl2
      omega
    · simp only [if_neg e, List.nil_append]
      unfold cntL at h
      rw [if_pos (by omega)] at h
      rw [show x.locs = (r.locs.length : Int) by omega]
  have e7 : ∀ z, gMany (gLoc tk) r.locs.length (st (r.locs.flatMap lcB ++ z)) = (r.locs, st z) := fun z =>
    gMany_st (p := fun l => lcOk l = true) (fun a r h => gLoc_st ht h r) _ _ rfl g.locs z
  have e8 : ∀ z, gTab tk x (st (tB x r ++ z)) = (r.tab.list, st z) := fun z => by
    unfold gTab tB
    cases e : x.table
    · rw [g.tab0 e]; rfl
    · have h := g.tab e
      simp only [if_true]
      exact gMany_st (p := fun s => 0 ≤ s ∧ s < 4294967296) (fun a r ⟨p, q⟩ => gNum4_st ht p q r) 6 _ rfl (fun a ha => by have := h a ha; omega) z
  simp only [gRead, e1, e2, e3, e4, e5, e6, Int.toNat_natCast, e7, e8]
  rfl
/-- What was written is read. -/
theorem parse_bytes {r : Rc} (h : rOk r = true) (z : List UInt8) : gParse tk (st (rBytes r ++ z)) = (r, st z) := by
  have g := (good_iff r).1 h
  have h0 := g.k0
  have h1 := g.k1
  rw [rBytes_eq]
  simp only [gParse, List.cons_append, List.append_assoc]
  rw [gNum1_st ht (by omega) (by omega)]
  exact gRead_st ht g (shp_n _) (shp_l _) (shp_l2 _) z
end
/-- The program's way: beyond the end stand noughts. -/
def ptk (n : Nat) (l : List UInt8) : List UInt8 × List UInt8 := (l.take n ++ List.replicate (n - l.length) 0, l.drop n)
theorem ptk_st (a b : List UInt8) : ptk a.length (id (a ++ b)) = (a, id b) := by
  simp [ptk]
/-- The document's way: what is not all there is noughts, and bad. -/
def dtk (n : Nat) (s : List UInt8 × Bool) : List UInt8 × (List UInt8 × Bool) := if n ≤ s.1.length then (s.1.take n, s.1.drop n, s.2) else (List.replicate n 0, [], true)
theorem dtk_st (a b : List UInt8) : dtk a.length ((a ++ b), false) = (a, b, false) := by
  simp [dtk]
/-- What bytes are a record's. -/
def pr (b : List UInt8) : Rc := (gParse ptk b).1
def rOf (b : List UInt8) : Option Rc := if rOk (pr b) && decide (rBytes (pr b) = b) then some (pr b) else none
theorem pr_bytes {r : Rc} (h : rOk r = true) : pr (rBytes r) = r := by
  have := parse_bytes (tk := ptk) (st := id) ptk_st h []
  simp only [List.append_nil, id] at this
  simp [pr, this]
theorem rOf_bytes {r : Rc} (h : rOk r = true) : rOf (rBytes r) = some r := by
  simp [rOf, pr_bytes h, h]
theorem rOf_some {b : List UInt8} {r : Rc} (h : rOf b = some r) : rOk r = true ∧ rBytes r = b := by
  unfold rOf at h
  split at h
  · rename_i h1
    cases h
    simpa using h1
  · cases h
/-- The document's reading is this one. -/
theorem doc_some {b : List UInt8} {r : Rc} (_hr : (gParse dtk (b, false)).1 = r) (h1 : rOk r = true) (h2 : rBytes r = b) : rOf b = some r := by
  rw [← h2]; exact rOf_bytes h1
theorem doc_none {b : List UInt8} (h : ¬ (rOk (gParse dtk (b, false)).1 = true ∧ rBytes (gParse dtk (b, false)).1 = b ∧ (gParse dtk (b, false)).2.2 = false)) : rOf b = none := by
  cases e : rOf b with
  | none => rfl
  | some r =>
    exfalso
    obtain ⟨h1, h2⟩ := rOf_some e
    have := parse_bytes (tk := dtk) (st := fun l => (l, false)) dtk_st h1 []
    simp only [List.append_nil, h2] at this
    exact h (by rw [this]; exact ⟨h1, h2, rfl⟩)
theorem rBytes_inj {r q : Rc} (h1 : rOk r = true) (h2 : rOk q = true) (h : rBytes r = rBytes q) : r = q := by
  have a := rOf_bytes h1
  rw [h, rOf_bytes h2] at a
  exact (Option.some.inj a).symm
theorem flat_len {α : Type} {f : α → List UInt8} {k : Nat} (hf : ∀ a, (f a).length = k) : ∀ l : List α, (l.flatMap f).length = l.length * k
  | [] => by simp
  | a :: l => by simp [hf, flat_len hf l, Nat.add_mul, Nat.add_comm]
theorem rBytes_len {r : Rc} (h : rOk r = true) : (rBytes r).length ≤ 100 := by
  have g := (good_iff r).1 h
  rw [rBytes_eq]
  have hl := shp_l2 r.kind.toNat
  revert g
  generalize shp r.kind.toNat = x at *
  intro g
  have h1 : (kB x r).length ≤ 17 := by
    unfold kB
    cases e : x.key
    · simp
    · have h := g.key e
      simp only [keyOk, Bool.and_eq_true, decide_eq_true_eq] at h
      simp; omega
  have h2 : (nB x r).length ≤ 1 := by unfold nB; split <;> simp
  have h3 : (sB x r).length ≤ 4 := by unfold sB; split <;> simp [be4]
  have h4 : (cB x r).length ≤ 1 := by unfold cB; split <;> simp
  have h5 : r.sids.length ≤ 3 := by have h := g.ns; split at h <;> omega
  have h6 : (qB x r).length ≤ 1 := by unfold qB; split <;> simp
  have h7 : r.locs.length ≤ 6 := by have := cnt6 (x := x) h5 hl; rw [g.nl]; exact this
  have h8 : (tB x r).length ≤ 24 := by
    unfold tB
    split
    · rw [flat_len (k := 4) (fun _ => rfl)]; simp [Tb.list]
    · simp
  simp only [List.length_cons, List.length_append]
  rw [flat_len (k := 4) (fun _ => rfl), flat_len (k := 6) (fun _ => rfl)]
  omega

/-! ### records made of numbers -/
def keys : List (List UInt8) := [[97], [98], [99], [100], [101], [102], [103], [104], [105], [106], [107], [108, 111, 110, 103, 45, 107, 101, 121, 45, 111, 102, 45, 49, 54, 45, 98]]
def keyAt (n : Int) : List UInt8 := keys.getD n.toNat []
/-- The next number, behind so many. -/
def nx (l : List Int) (a : Nat) (n : Int) : Int := if l.length ≤ a then (((a : Int) + 1) * 7) % n else (l.getD a 0 % 16777216) % n
def lcs (l : List Int) (a n : Nat) : List Lc := (List.range n).map fun i => ⟨nx l (a + 3 * i) 24, nx l (a + 3 * i + 1) 64, nx l (a + 3 * i + 2) 1000 + 1⟩
def nz (s : List Int) : Nat := 2 * (s.filter fun s => decide (s ≠ 0)).length
def recK (l : List Int) (k : Nat) : Rc :=
  match k with
  | 1 => { Rc.zero with kind := 1, key := keyAt (nx l 1 12), n := nx l 2 65, sid := nx l 3 50 + 1, locs := lcs l 4 3 }
  | 2 => { Rc.zero with kind := 2, key := keyAt (nx l 1 12) }
  | 3 => { Rc.zero with kind := 3, key := keyAt (nx l 1 12), sid := nx l 2 50 + 1, colour := nx l 3 3, locs := lcs l 4 6 }
  | 4 => { Rc.zero with kind := 4, key := keyAt (nx l 1 12), sid := nx l 2 50 + 1, locs := lcs l 3 3 }
  | 5 => { Rc.zero with kind := 5, sid := nx l 1 50 + 1, sids := [nx l 2 50 + 1, nx l 3 50 + 1, nx l 4 50 + 1], locs := lcs l 5 4 }
  | 6 => { Rc.zero with kind := 6, sid := nx l 1 50 + 1, sids := [nx l 2 50, nx l 3 50, nx l 4 50], locs := lcs l 5 (nz [nx l 2 50, nx l 3 50, nx l 4 50]) }
  | 7 => { Rc.zero with kind := 7, sid := nx l 1 50 + 1, n := nx l 2 16, locs := lcs l 3 1 }
  | _ => { Rc.zero with kind := 8, tab := ⟨nx l 1 100, nx l 2 50, nx l 3 20, nx l 4 50, nx l 5 1000, nx l 6 10⟩ }
def recL (l : List Int) : Rc := recK l ((nx l 0 8).toNat + 1)
theorem nx_lo (l : List Int) (a : Nat) {n : Int} (h : 0 < n) : 0 ≤ nx l a n := by unfold nx; split <;> exact Int.emod_nonneg _ (by omega)
theorem nx_hi (l : List Int) (a : Nat) {n : Int} (h : 0 < n) : nx l a n < n := by unfold nx; split <;> exact Int.emod_lt_of_pos _ h
theorem keyAt_ok {n : Int} (h0 : 0 ≤ n) (h1 : n < 12) : keyOk (keyAt n) = true := by
  obtain ⟨k, rfl⟩ : ∃ k : Nat, n = k := ⟨n.toNat, by omega⟩
  have hk : k < 12 := by omega
  have : ∀ k : Nat, k < 12 → keyOk (keyAt (k : Int)) = true := by decide
  exact this k hk
theorem lcs_len (l : List Int) (a n : Nat) : (lcs l a n).length = n := by simp [lcs]
theorem lcs_ok (l : List Int) (a n : Nat) : ∀ x ∈ lcs l a n, lcOk x = true := by
  intro x hx
  simp only [lcs, List.mem_map] at hx
  obtain ⟨i, -, rfl⟩ := hx
  have q1 := nx_lo l (a + 3 * i) (n := 24) (by decide)
  have q2 := nx_hi l (a + 3 * i) (n := 24) (by decide)
  have q3 := nx_lo l (a + 3 * i + 1) (n := 64) (by decide)
  have q4 := nx_hi l (a + 3 * i + 1) (n := 64) (by decide)
  have q5 := nx_lo l (a + 3 * i + 2) (n := 1000) (by decide)
  have q6 := nx_hi l (a + 3 * i + 2) (n := 1000) (by decide)
  simp only [lcOk, inn, Bool.and_eq_true, decide_eq_true_eq]
  omega
theorem recK_ok (l : List Int) (k : Nat) : rOk (recK l k) = true := by
  have nb : ∀ (a : Nat) (n : Int), 0 < n → 0 ≤ nx l a n ∧ nx l a n < n := fun a n h => ⟨nx_lo l a h, nx_hi l a h⟩
  have k1 := nb 1 12 (by decide)
  have kk := keyAt_ok k1.1 k1.2
  rw [good_iff]
  unfold recK
  split
  · have a := nb 2 65 (by decide)
    have b := nb 3 50 (by decide)
    constructor <;> simp [shp, cntL, lcs_len, kk, Rc.zero, Tb.zero] <;> first | omega | exact lcs_ok _ _ _
  · constructor <;> simp [shp, cntL, kk, Rc.zero, Tb.zero] <;> omega
  · have a := nb 2 50 (by decide)
    have b := nb 3 3 (by decide)
    constructor <;> simp [shp, cntL, lcs_len, kk, Rc.zero, Tb.zero] <;> first | omega | exact lcs_ok _ _ _
  · have a := nb 2 50 (by decide)
    constructor <;> simp [shp, cntL, lcs_len, kk, Rc.zero, Tb.zero] <;> first | omega | exact lcs_ok _ _ _
  · have a := nb 1 50 (by decide)
    have b := nb 2 50 (by decide)
    have c := nb 3 50 (by decide)
    have d := nb 4 50 (by decide)
    constructor <;> simp [shp, cntL, lcs_len, Rc.zero, Tb.zero] <;> first | omega | exact lcs_ok _ _ _
  · have a := nb 1 50 (by decide)
    have b := nb 2 50 (by decide)
    have c := nb 3 50 (by decide)
    have d := nb 4 50 (by decide)
    constructor <;> simp [shp, cntL, nz, lcs_len, Rc.zero, Tb.zero] <;> first | omega | exact lcs_ok _ _ _
  · have a := nb 1 50 (by decide)
    have b := nb 2 16 (by decide)
    constructor <;> simp [shp, cntL, lcs_len, Rc.zero, Tb.zero] <;> first | omega | exact lcs_ok _ _ _
  · have a := nb 1 100 (by decide)
    have b := nb 2 50 (by decide)
    have c := nb 3 20 (by decide)
    have d := nb 4 50 (by decide)
    have e := nb 5 1000 (by decide)
    have f := nb 6 10 (by decide)
    constructor <;> simp [shp, cntL, Rc.zero, Tb.zero, Tb.list] <;> omega
theorem recL_ok (l : List Int) : rOk (recL l) = true := recK_ok _ _
/-- One field beyond its bounds, or one that is not named. -/
def badF (r : Rc) (f : Nat) (b : Int) : Rc :=
  match f with
  | 0 => { r with kind := 8 + b }
  | 1 => { r with colour := 2 + b }
  | 2 => { r with key := r.key ++ [127] }
  | 3 => { r with n := 64 + b }
  | 4 => { r with sid := -b }
  | 5 => { r with sids := r.sids ++ [1] }
  | 6 => { r with locs := r.locs ++ [⟨0, 0, 1⟩] }
  | _ => { r with tab := { r.tab with gap := -b } }
theorem badF_no {r : Rc} (h : rOk r = true) (f : Nat) {b : Int} (hb : 1 ≤ b) : rOk (badF r f b) = false := by
  rw [Bool.eq_false_iff]
  intro h2
  have g := (good_iff r).1 h
  have g2 := (good_iff _).1 h2
  have hn := shp_n r.kind.toNat
  unfold badF at g2
  split at g2
  · have := g2.k1; simp at this; omega
  · simp only at g2
    cases e : (shp r.kind.toNat).colour
    · have := g2.col0 e; simp at this; omega
    · have := g2.col e; simp at this; omega
  · simp only at g2
    cases e : (shp r.kind.toNat).key
    · have := g2.key0 e; simp at this
    · have := g2.key e
      simp [keyOk, chOk] at this
  · have := g2.n1; simp only at this; omega
  · simp only at g2
    cases e : (shp r.kind.toNat).sid
    · have := g2.sid0 e; simp at this; omega
    · have := g2.sid e; simp at this; omega
  · have a := g.ns
    have b := g2.ns
    simp only [List.length_append, List.length_cons, List.length_nil] at b
    rw [← a] at b
    omega
  · have a := g.nl
    have b := g2.nl
    simp only [List.length_append, List.length_cons, List.length_nil] at b
    rw [← a] at b
    omega
  · simp only at g2
    cases e : (shp r.kind.toNat).table
    · have := g2.tab0 e
      simp [Tb.zero] at this
      omega
    · have := g2.tab e (-b) (by simp [Tb.list])
      omega
end Go.Proofs.Ytnfkcmcchkcflaa.RcM
