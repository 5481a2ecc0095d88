/- Law 12: the anchor; what 'made' makes, in plain words; a frame's own Right. -/
import Derived.Test.YtcgafnmpfdkfoaaFrames
import Derived.Test.YtcgafnmpfdkfoaaSums2
import Derived.Test.YtcgafnmpfdkfoaaIter2
namespace Go.Proofs.Ytcgafnmpfdkfoaa
open Go.RowKit

/-- The entries behind a play. -/
def playL (g : G) (ops : List Op11) : List E := ops.foldl (fun l o => setL g l o.b o.e) (nones g)
theorem playL_snoc (g : G) (ops : List Op11) (k : Nat) (o : Op11) (h : ops[k]? = some o) : playL g (ops.take (k + 1)) = setL g (playL g (ops.take k)) o.b o.e := by
  unfold playL
  rw [List.take_add_one, h]
  simp [List.foldl_append]
theorem MapOk.sn {g : G} {l : List E} {lv : List Int} (h : MapOk g l lv) {s : Sn} (hs : s.right l = true) : SnOk s g l := ⟨h.right, h.len, h.all, hs⟩
theorem MapOk.len1000 {g : G} {l : List E} {lv : List Int} (h : MapOk g l lv) : l.length ≤ 1000 := by have := h.len; have := (G.small_of_right h.right).B1; omega

def gA : G := ⟨3, 8, 8, 1, 0, 4⟩
theorem gA_right : gA.right = true := by decide
theorem gA_ok : MapOk gA (nones gA) (noLive gA) := MapOk.new gA_right
theorem sA_right : (Sn.mk 1 1 1).right (nones gA) = true := by decide
theorem gA_holds : gA.holds 0 0 = true := by decide
theorem fA_len : (frames ⟨1, 1, 1⟩ gA (nones gA) 0).length = 2 := by rw [frames_length]; decide

/-- The cells of one frame in a row of frames. -/
theorem FrL.cells {w : World} {base b c : Nat} {fs : List Fr} (h : FrL base w (.slice (some ⟨b, 0, none⟩) fs.length c) fs) (hk : ∀ f ∈ fs, f.Ok) {i : Nat} {f : Fr} (hi : fs[i]? = some f) (j : Nat) (hj : j < 49) : w.cell? ⟨b, i * 49 + j, none⟩ = f.arr[j]? := by
  have hl := (List.getElem?_eq_some_iff.1 hi).1
  have hlen := flatF_length hk
  rw [World.ownsRow.cellAt h (i * 49 + j) (by omega)]
  have hg := flatF_get hk i f hi
  have : ((flatF fs).drop (i * 49)).take 49 = f.arr.toList := hg
  have h2 : (((flatF fs).drop (i * 49)).take 49)[j]? = f.arr.toList[j]? := by rw [this]
  rw [List.getElem?_take, if_pos hj, List.getElem?_drop] at h2
  rw [h2, Array.getElem?_toList]
theorem FrL.nums {w : World} {base b c : Nat} {fs : List Fr} (h : FrL base w (.slice (some ⟨b, 0, none⟩) fs.length c) fs) (hk : ∀ f ∈ fs, f.Ok) {i : Nat} {f : Fr} (hi : fs[i]? = some f) :
    (w.cell? ⟨b, i * 49, none⟩ = some (.int .i64 f.kd) ∧ w.cell? ⟨b, i * 49 + 1, none⟩ = some (.int .i64 f.zn)) ∧ (w.cell? ⟨b, i * 49 + 2, none⟩ = some (.int .i64 f.off) ∧ w.cell? ⟨b, i * 49 + 3, none⟩ = some (.int .i64 f.ep)) ∧ w.cell? ⟨b, i * 49 + 4, none⟩ = some (.int .i64 f.sq) := by
  have k := fun j hj => h.cells hk hi j hj
  exact ⟨⟨(k 0 (by omega)).trans (by unfold Fr.arr; simp), (k 1 (by omega)).trans (by unfold Fr.arr; simp)⟩, ⟨(k 2 (by omega)).trans (by unfold Fr.arr; simp), (k 3 (by omega)).trans (by unfold Fr.arr; simp)⟩, (k 4 (by omega)).trans (by unfold Fr.arr; simp)⟩
theorem FrL.lt {w : World} {base b n c : Nat} {fs : List Fr} (h : FrL base w (.slice (some ⟨b, 0, none⟩) n c) fs) : b < w.heap.size := (World.ownsRow.lt h _ rfl).2

set_option maxRecDepth 100000 in
theorem anchor12 (w : World) : Calls Try.prog 37 #[] w fun r w' => r = .returned (.bool true) ∧ Below w.heap.size w w' := by
  go_enter Try.func37, Try.ntmps37
  go_wp2_with fail
  refine (map_new_yes gA w gA_right).mono ?_
  rintro r w1 ⟨p, bl, bv, rfl, ⟨n1, n2, n3⟩, hm, hb⟩
  have HM := Lib.hid hm
  have HB := Lib.hid hb
  clear hm hb
  go_wp2_with fail
  refine (frames_yes w1 p bl bv gA _ _ ⟨1, 1, 1⟩ HM.out (gA_ok.sn sA_right) 0 gA_holds).mono ?_
  rintro r w2 ⟨b, c, rfl, hb2, hL, hB2⟩
  have hok := frames_ok ⟨1, 1, 1⟩ gA (nones gA) 0
  obtain ⟨⟨x0, _⟩, _⟩ := hL.nums hok (i := 0) (frames_get ⟨1, 1, 1⟩ gA (nones gA) 0 0 (by decide))
  obtain ⟨⟨x1, _⟩, _⟩ := hL.nums hok (i := 1) (frames_get ⟨1, 1, 1⟩ gA (nones gA) 0 1 (by decide))
  have hlt := hL.lt
  have e0 : (frameAt ⟨1, 1, 1⟩ gA (nones gA) 0 0).kd = 4 := rfl
  have e1 : (frameAt ⟨1, 1, 1⟩ gA (nones gA) 0 1).kd = 5 := rfl
  rw [e0] at x0
  rw [e1] at x1
  rw [fA_len]
  have HB2 := Lib.hid hB2
  clear hok hL e0 e1 hB2
  simp only [Nat.zero_mul, Nat.one_mul] at x0 x1
  go_wp2
  go_ret
  exact ⟨rfl, HB.out.trans (HB2.out.mono HB.out.size)⟩

theorem size_snap : (Try.prog.info? 53).map (·.size) = some 4 := by kernel_rfl
theorem size_ref12 : (Try.prog.info? 55).map (·.size) = some 10 := by kernel_rfl
/-- The empty values that 'made' hands back where there is nothing to make. -/
abbrev sn0 : Value := .agg #[.int .i64 0, .int .i64 0, .int .i64 0, .pointer none]
abbrev ref0 : Value := .agg #[.int .i64 0, .int .i64 0, .int .i64 0, .int .i64 0, .int .i64 0, .int .i64 0, .int .i64 0, .int .i64 0, .int .i64 0, .slice none 0 0]
abbrev refArr (s : Sn) (g : G) (v : Value) : Array Value := #[.int .i64 s.gen, .int .i64 s.ep, .int .i64 s.nx, .int .i64 g.D, .int .i64 g.Z, .int .i64 g.S, .int .i64 g.B, .int .i64 g.P, .int .i64 g.O, v]
/-- What 'made' makes: the map behind the play, and the reference's list of its entries. -/
def MadePost (w : World) (g : G) (ops : List Op11) (s : Sn) (t : Value) (r : Ending) (w' : World) : Prop :=
  ∃ p bl bv lv b c, r = .returned (.tuple #[s.v p, .agg (refArr s g (.slice (some ⟨b, 0, none⟩) (playL g ops).length c)), t]) ∧ MapAt w' p bl bv g (playL g ops) lv ∧ MapOk g (playL g ops) lv ∧
    w'.ownsRow 0 46 6 (.slice (some ⟨b, 0, none⟩) (playL g ops).length c) (playL g ops).length (flat (playL g ops)) ∧ (w.heap.size ≤ p ∧ w.heap.size ≤ bl ∧ w.heap.size ≤ bv ∧ w.heap.size ≤ b) ∧ Below w.heap.size w w'

theorem Keeps.drop {B : Nat} {S S' : List Nat} {w w1 : World} (h : Keeps B S w w1) (hS : ∀ i ∈ S, B ≤ i) : Keeps B S' w w1 :=
  ⟨h.os, h.tape, h.output, h.size, fun i hi _ => h.block i hi (fun hx => by have := hS i hx; omega)⟩
/-- What stands behind some rounds over the entries: the reference's own block, its list so far. -/
def MadeI (w2 : World) (M : Nat) (s : Sn) (g : G) (pre : List (Nat × E)) (W : World) : Prop :=
  ∃ v, Blk W M 55 (refArr s g v) ∧ W.ownsRow (w2.heap.size + 2) 46 6 v pre.length (flat (pre.map (·.2))) ∧ Keeps w2.heap.size [M] w2 W ∧ w2.heap.size ≤ W.heap.size
theorem MadeI.keeps {w2 X Y : World} {M : Nat} {s : Sn} {g : G} {pre : List (Nat × E)} (h : MadeI w2 M s g pre X) (hM : M < w2.heap.size) (hx : w2.heap.size ≤ X.heap.size) (k : Keeps X.heap.size [w2.heap.size, w2.heap.size + 1] X Y) : MadeI w2 M s g pre Y := by
  obtain ⟨v, a, b, c, d⟩ := h
  refine ⟨v, k.blk a.lt (by simp; omega) a, own_keeps_v k (fun g' hg' => ?_) b, c.trans ((k.mono hx (fun i hi => hi)).drop (by simp)), by have := k.size; omega⟩
  have := World.ownsRow.lt b g' hg'
  exact ⟨this.2, by simp; omega⟩
theorem info_refE : (Try.prog.info? 46).map (fun i => (i.zero, i.size, i.bytes)) = some (some E0.v, 6, 48) := by kernel_rfl

theorem enum_map (l : List E) : (enum l).map (·.2) = l := by
  unfold enum
  rw [List.map_map]
  apply List.ext_getElem
  · simp
  · intro i h1 h2
    simp [List.getD_eq_getElem?_getD, h2]
theorem own_pos {W : World} {base n : Nat} {e : TypeId} {size : Nat} {v : Value} {xs : List Value} (h : W.ownsRow base e size v n xs) (hn : 1 ≤ n) : ∃ g cap, v = .slice (some ⟨g, 0, none⟩) n cap := by
  obtain ⟨m, rfl⟩ : ∃ m, n = m + 1 := ⟨n - 1, by omega⟩
  exact own_succ h
end Go.Proofs.Ytcgafnmpfdkfoaa
