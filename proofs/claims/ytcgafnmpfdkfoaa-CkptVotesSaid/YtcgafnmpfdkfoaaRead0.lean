/- The snapshot that frames tell (plain), and frames as they lie. -/
import Derived.Test.YtcgafnmpfdkfoaaFill
import Derived.Test.YtcgafnmpfdkfoaaSame12
namespace Go.Proofs.Ytcgafnmpfdkfoaa
open Go.RowKit

/-- The parts' play, one frame behind the other. -/
def readGo (g : G) : Nat → List Fr → List E → Option (List E)
  | _, [], l => some l
  | i, f :: fs, l => if f.off = i ∧ (fillGo g (fillB f) (unPart f.bd) l).2 = 0 then readGo g (i + 1) fs (fillGo g (fillB f) (unPart f.bd) l).1 else none
def npG (g : G) : Nat := 1 + (g.B.toNat + 1) / 2
def sn1 (f : Fr) : Sn := ⟨f.sq, f.ep, unNx f.bd⟩
/-- The entries that frames tell. -/
def readL (f : Fr) (fs : List Fr) : Option (List E) :=
  if (unGeo f.bd).right = true ∧ npG (unGeo f.bd) ≤ fs.length then readGo (unGeo f.bd) 1 ((fs.take (npG (unGeo f.bd))).drop 1) (nones (unGeo f.bd)) else none
/-- Are frames those of the snapshot that they tell? -/
def readOk (f : Fr) (fs : List Fr) (l : List E) : Bool :=
  decide ((sn1 f).right l = true ∧ (unGeo f.bd).holds f.zn 0 = true ∧ frames (sn1 f) (unGeo f.bd) l f.zn = fs.take (npG (unGeo f.bd)))
/-- The snapshot that frames tell. -/
def readR : List Fr → Option (Sn × G × List E)
  | [] => none
  | f :: fs => match readL f (f :: fs) with
    | none => none
    | some l => if readOk f (f :: fs) l = true then some (sn1 f, unGeo f.bd, l) else none
theorem npG_parts {g : G} (h : g.right = true) : (npG g : Int) = g.parts ∧ 2 ≤ npG g ∧ npG g ≤ 200 := by
  have hs := G.small_of_right h
  have h0 := hs.B0
  have h1 := hs.B1
  unfold npG G.parts
  omega
theorem npG_len {g : G} {l : List E} {lv : List Int} (h : MapOk g l lv) : nparts l = npG g := by
  have := h.len
  unfold nparts npG
  congr 3
  omega
/-- Frames, as they lie: any. -/
def FrsAt (w : World) (A : Option Addr) (n c : Nat) (fs : List Fr) : Prop :=
  fs.length = n ∧ n ≤ c ∧ c ≤ maxLen ∧ (∀ f ∈ fs, f.Ok ∧ Byt f.bd) ∧ (0 < n → ∃ b off, A = some ⟨b, off, none⟩ ∧ b < w.heap.size ∧ ∀ k f, fs[k]? = some f → w.rangeAt b (off + k * 49) f.arr.toList)
theorem FrsAt.grow {w w1 : World} {A : Option Addr} {n c : Nat} {fs : List Fr} (h : FrsAt w A n c fs) (k : Below w.heap.size w w1) : FrsAt w1 A n c fs := by
  obtain ⟨h1, h2, h3, h4, h5⟩ := h
  refine ⟨h1, h2, h3, h4, fun hn => ?_⟩
  obtain ⟨b, off, e1, e2, e3⟩ := h5 hn
  exact ⟨b, off, e1, Nat.lt_of_lt_of_le e2 k.size, fun i f hf => rangeAt_below (e3 i f hf) e2 k⟩
def ReadPost (w : World) (fs : List Fr) (r : Ending) (w' : World) : Prop :=
  Below w.heap.size w w' ∧ ((readR fs = none ∧ r = .returned (.tuple #[sn0, .int .i64 10])) ∨
    ∃ s g l p bl bv lv, readR fs = some (s, g, l) ∧ r = .returned (.tuple #[s.v p, .int .i64 0]) ∧ MapAt w' p bl bv g l lv ∧ MapOk g l lv ∧ w.heap.size ≤ p ∧ w.heap.size ≤ bl ∧ w.heap.size ≤ bv)
theorem readGo_bad (g : G) (i : Nat) (f : Fr) (fs : List Fr) (l : List E) (h : ¬ (f.off = i ∧ (fillGo g (fillB f) (unPart f.bd) l).2 = 0)) : readGo g i (f :: fs) l = none := by
  rw [readGo, if_neg h]
theorem readGo_good (g : G) (i : Nat) (f : Fr) (fs : List Fr) (l : List E) (h : f.off = i ∧ (fillGo g (fillB f) (unPart f.bd) l).2 = 0) : readGo g i (f :: fs) l = readGo g (i + 1) fs (fillGo g (fillB f) (unPart f.bd) l).1 := by
  rw [readGo, if_pos h]
end Go.Proofs.Ytcgafnmpfdkfoaa
