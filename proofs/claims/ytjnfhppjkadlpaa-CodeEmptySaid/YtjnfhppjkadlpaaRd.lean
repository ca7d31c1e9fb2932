/- Bytes that can be read wherever something is owned; what calls hand back. No condition. -/
import Derived.Test.YtjnfhppjkadlpaaSlW
namespace Go.Proofs.Ytjnfhppjkadlpaa.Rd
open Go Go.RowKit Go.Proofs.Ytjnfhppjkadlpaa Go.Proofs.Ytjnfhppjkadlpaa.Sp Go.Proofs.Ytjnfhppjkadlpaa.SlW
/-- Bytes that can be read wherever these are owned. -/
def Reads (B : Nat) (w0 : World) (R : HP) (v : Value) (bs : List UInt8) : Prop := ∀ w H, St B w0 w (H * R) → BS w v bs
theorem reads_arg {w0 : World} {v : Value} {bs : List UInt8} (R : HP) (h : BS w0 v bs) : Reads w0.heap.size w0 R v bs := fun _ _ s => h.st rfl s
theorem reads_left {B : Nat} {w0 : World} {R : HP} {v : Value} {bs : List UInt8} (X : HP) (h : Reads B w0 R v bs) : Reads B w0 (X * R) v bs := fun _ H s => h _ (H * X) (s.eq (sep_assoc _ _ _).symm)
theorem reads_right {B : Nat} {w0 : World} {R : HP} {v : Value} {bs : List UInt8} (X : HP) (h : Reads B w0 R v bs) : Reads B w0 (R * X) v bs := fun _ H s => h _ (H * X) (s.eq (by ac_rfl))
theorem reads_row {B : Nat} {w0 : World} {e : TypeId} {v : Value} {n : Nat} {bs : List UInt8} : Reads B w0 (row e 1 v n (bvs bs)) v bs := fun _ _ s => (s.eq (sep_comm _ _)).bs
theorem reads_lit {B : Nat} {w0 : World} {t : TypeId} {f : Nat × Nat} {g n : Nat} {C : Array Value} {bs : List UInt8} (hC : C = (bvs bs).toArray) (hn : n = bs.length) (h : bs.length ≤ maxLen) :
    Reads B w0 (pts g (.cells C t f)) (.slice (some ⟨g, 0, none⟩) n n) bs := fun _ _ s => by
  subst hn
  subst hC
  refine ⟨_, _, rfl, Nat.le_refl _, h, (fun e => by cases e), ?_⟩
  have q := (s.eq (sep_comm _ _)).rd 0 bs.length
  have e : (((bvs bs).toArray.toList.drop 0).take bs.length) = bvs bs := by simp [List.take_of_length_le]
  rw [e] at q
  exact q
/-- New bytes and a number are handed back. -/
def RetRow (B : Nat) (w0 : World) (H : HP) (bs : List UInt8) (n : Int) (e : Ending) (w' : World) : Prop :=
  ∃ a c, e = .returned (.tuple #[.slice a bs.length c, .int .i64 n]) ∧ St B w0 w' (row 5 1 (.slice a bs.length c) bs.length (bvs bs) * H)
end Go.Proofs.Ytjnfhppjkadlpaa.Rd
