/- Maps that are set. -/
import Derived.Test.YtcgafnmpfdkfoaaMap2
namespace Go.Proofs.Ytcgafnmpfdkfoaa
open Go.RowKit

/-- All blocks below B but those of S lie as they lay. -/
structure Keeps (B : Nat) (S : List Nat) (w w' : World) : Prop where
  os : w'.os = w.os
  tape : w'.tape = w.tape
  output : w'.output = w.output
  size : w.heap.size ≤ w'.heap.size
  block : ∀ i, i < B → i ∉ S → w'.heap[i]? = w.heap[i]?
theorem Keeps.refl (B : Nat) (S : List Nat) (w : World) : Keeps B S w w := ⟨rfl, rfl, rfl, Nat.le_refl _, fun _ _ _ => rfl⟩
theorem Keeps.trans {B : Nat} {S : List Nat} {w w1 w2 : World} (h : Keeps B S w w1) (k : Keeps B S w1 w2) : Keeps B S w w2 :=
  ⟨k.os.trans h.os, k.tape.trans h.tape, k.output.trans h.output, Nat.le_trans h.size k.size, fun i hi hn => (k.block i hi hn).trans (h.block i hi hn)⟩
theorem Keeps.mono {B B' : Nat} {S S' : List Nat} {w w1 : World} (h : Keeps B S w w1) (hB : B' ≤ B) (hS : ∀ i ∈ S, i ∈ S') : Keeps B' S' w w1 :=
  ⟨h.os, h.tape, h.output, h.size, fun i hi hn => h.block i (by omega) (fun hx => hn (hS i hx))⟩
theorem Keeps.of_below {B : Nat} {S : List Nat} {w w1 : World} (h : Below B w w1) : Keeps B S w w1 := ⟨h.os, h.tape, h.output, h.size, fun i hi _ => h.block i hi⟩
theorem Keeps.below {B : Nat} {S : List Nat} {w w1 : World} (h : Keeps B S w w1) (hS : ∀ i ∈ S, B ≤ i) : Below B w w1 := ⟨h.os, h.tape, h.output, h.size, fun i hi => h.block i hi (fun hx => by have := hS i hx; omega)⟩
theorem Keeps.setCell {B : Nat} {S : List Nat} {w w1 : World} (h : Keeps B S w w1) (p : Addr) (u : Value) (hp : p.block ∈ S ∨ B ≤ p.block) : Keeps B S w (w1.setCell p u) :=
  ⟨h.os, h.tape, h.output, by simpa [World.setCell] using h.size, fun i hi hn => (Below.heap_setCell w1 p u i (by
    rintro rfl
    rcases hp with hp | hp
    · exact hn hp
    · omega)).trans (h.block i hi hn)⟩
theorem Keeps.drew {B : Nat} {S : List Nat} {w w1 : World} (h : Keeps B S w w1) : Keeps B S w w1.drew := ⟨h.os, h.tape, h.output, h.size, h.block⟩
theorem Keeps.cell {B : Nat} {S : List Nat} {w w1 : World} (h : Keeps B S w w1) (b o : Nat) (hb : b < B) (hn : b ∉ S) : w1.cell? ⟨b, o, none⟩ = w.cell? ⟨b, o, none⟩ :=
  World.cell?_of_block (a := ⟨b, o, none⟩) (h.block b hb hn)
theorem Keeps.blk {B : Nat} {S : List Nat} {w w1 : World} (h : Keeps B S w w1) {b : Nat} {t : TypeId} {cs : Array Value} (hb : b < B) (hn : b ∉ S) (k : Blk w b t cs) : Blk w1 b t cs := (h.block b hb hn).trans k
theorem Blk.ne_ {w : World} {g g' : Nat} {t t' : TypeId} {cs cs' : Array Value} (h : Blk w g t cs) (h' : Blk w g' t' cs') (hne : t ≠ t') : g ≠ g' := by
  rintro rfl
  unfold Blk at h h'
  rw [h] at h'
  injection h' with h'
  injection h' with _ ht
  exact hne ht
theorem own_is {w : World} {base g n c : Nat} {e : TypeId} {size : Nat} {xs : List Value} (h : w.ownsRow base e size (.slice (some ⟨g, 0, none⟩) n c) n xs) : ∃ cs, Blk w g e cs ∧ base ≤ g ∧ n ≤ c ∧ c ≤ maxLen ∧ cs.size = c * size ∧ cs.toList.take (n * size) = xs := by
  rcases h.2 with ⟨h', _⟩ | ⟨g', c', cs, h', hb, hh, h1, h2, h3, h4⟩
  · cases h'
  · injection h' with h' _ h''; injection h' with h'; injection h' with h'; subst h' h''
    exact ⟨cs, hh, hb, h1, h2, h3, h4⟩
theorem own_keeps {B : Nat} {S : List Nat} {w w1 : World} {base g n c : Nat} {e : TypeId} {size : Nat} {xs : List Value} (k : Keeps B S w w1) (hb : g < B) (hn : g ∉ S) (h : w.ownsRow base e size (.slice (some ⟨g, 0, none⟩) n c) n xs) :
    w1.ownsRow base e size (.slice (some ⟨g, 0, none⟩) n c) n xs := by
  obtain ⟨cs, h0, h1, h2, h3, h4, h5⟩ := own_is h
  exact own_blk (k.blk hb hn h0) h1 h2 h3 h4 h.1 h5
/-- The three blocks of a map are not one. -/
theorem MapAt.apart {w : World} {p bl bv : Nat} {g : G} {l : List E} {lv : List Int} (h : MapAt w p bl bv g l lv) : p ≠ bl ∧ p ≠ bv ∧ bl ≠ bv := by
  obtain ⟨cl, cv, h0, h1, h2⟩ := h
  obtain ⟨c1, k1, _⟩ := own_is h1
  obtain ⟨c2, k2, _⟩ := own_is h2
  exact ⟨h0.ne_ k1 (by decide), h0.ne_ k2 (by decide), k1.ne_ k2 (by decide)⟩
theorem MapAt.lt {w : World} {p bl bv : Nat} {g : G} {l : List E} {lv : List Int} (h : MapAt w p bl bv g l lv) : p < w.heap.size ∧ bl < w.heap.size ∧ bv < w.heap.size := by
  obtain ⟨cl, cv, h0, h1, h2⟩ := h
  obtain ⟨c1, k1, _⟩ := own_is h1
  obtain ⟨c2, k2, _⟩ := own_is h2
  exact ⟨h0.lt, k1.lt, k2.lt⟩
theorem MapAt.keeps {B : Nat} {S : List Nat} {w w1 : World} {p bl bv : Nat} {g : G} {l : List E} {lv : List Int} (h : MapAt w p bl bv g l lv) (k : Keeps B S w w1) (hp : p < B ∧ p ∉ S) (hl : bl < B ∧ bl ∉ S) (hv : bv < B ∧ bv ∉ S) : MapAt w1 p bl bv g l lv := by
  obtain ⟨cl, cv, h0, h1, h2⟩ := h
  exact ⟨cl, cv, k.blk hp.1 hp.2 h0, own_keeps k hl.1 hl.2 h1, own_keeps k hv.1 hv.2 h2⟩
theorem MapAt.below {B : Nat} {w w1 : World} {p bl bv : Nat} {g : G} {l : List E} {lv : List Int} (h : MapAt w p bl bv g l lv) (k : Below B w w1) (hp : p < B) (hl : bl < B) (hv : bv < B) : MapAt w1 p bl bv g l lv :=
  h.keeps (Keeps.of_below (S := []) k) ⟨hp, by simp⟩ ⟨hl, by simp⟩ ⟨hv, by simp⟩
theorem MapAt.grow {w w1 : World} {p bl bv : Nat} {g : G} {l : List E} {lv : List Int} (h : MapAt w p bl bv g l lv) (k : Below w.heap.size w w1) : MapAt w1 p bl bv g l lv :=
  h.below k h.lt.1 h.lt.2.1 h.lt.2.2
theorem own_is' {w : World} {base g n c : Nat} {e : TypeId} {size : Nat} {xs : List Value} (h : w.ownsRow base e size (.slice (some ⟨g, 0, none⟩) n c) n xs) : n ≤ c ∧ c ≤ maxLen := by
  obtain ⟨cs, h0, h1, h2, h3, h4, h5⟩ := own_is h
  exact ⟨h2, h3⟩
theorem nums_set (lv : List Int) (i : Nat) (x : Int) : (nums lv).set i (.int .i64 x) = nums (lv.set i x) := by simp [nums, List.map_set]
/-- One count is stored. -/
theorem MapAt.bump {w : World} {p bl bv : Nat} {g : G} {l : List E} {lv : List Int} (h : MapAt w p bl bv g l lv) (z by_ : Int) : MapAt (w.setCell ⟨bv, z.toNat, none⟩ (.int .i64 (rdI lv z + by_))) p bl bv g l (bump lv z by_) := by
  obtain ⟨a1, a2, a3⟩ := h.apart
  have hl := h.lt
  obtain ⟨cl, cv, h0, h1, h2⟩ := h
  have k : Keeps w.heap.size [bv] w (w.setCell ⟨bv, z.toNat, none⟩ (.int .i64 (rdI lv z + by_))) := (Keeps.refl _ _ _).setCell _ _ (.inl (by simp))
  have hs := (h2.stored z.toNat (.int .i64 (rdI lv z + by_))).1
  rw [nums_set] at hs
  refine ⟨cl, cv, ?_, own_keeps k hl.2.1 (by simpa using a3) h1, ?_⟩
  · rw [bump_length]; exact k.blk hl.1 (by simpa using a2) h0
  · rw [bump_length]; exact hs

set_option maxHeartbeats 1000000 in
theorem map_count_lives (w : World) (p bl bv : Nat) (g : G) (l : List E) (lv : List Int) (h : MapAt w p bl bv g l lv) (e : E) (by_ : Int) (h1 : e.st = 1) (z0 : 0 ≤ e.zn) (z1 : e.zn < lv.length) (m0 : 0 ≤ e.mt) (m1 : e.mt < lv.length) (hne : e.zn ≠ e.mt)
    (b0 : -1 ≤ by_) (b1 : by_ ≤ 1) (c0 : -1000 ≤ rdI lv e.zn) (c1 : rdI lv e.zn ≤ 1000) (d0 : -1000 ≤ rdI lv e.mt) (d1 : rdI lv e.mt ≤ 1000) :
    Calls Try.prog 71 #[.pointer (some ⟨p, 0, none⟩), e.v, .int .i64 by_] w fun r w' => r = .returned (.tuple #[]) ∧ MapAt w' p bl bv g l (tally lv e by_) ∧ Keeps w.heap.size [bv] w w' := by
  obtain ⟨cl, cv, hp, hl, hv, zl, zv, _, _, _, _, _, _, s6, s7⟩ := h.reads
  have hc := h.count z0 z1
  have hd := h.count m0 m1
  have hz := Lib.hid h
  have ft : (e.st == 1) = true := by simp [h1]
  have H1 := Lib.hid h1
  have hne' : ¬ e.zn.toNat = e.mt.toNat := by omega
  have hne'' : ¬ e.mt.toNat = e.zn.toNat := by omega
  have fz : w.frozen? ⟨bv, e.zn.toNat, none⟩ = false := by obtain ⟨_, _, _, _, k⟩ := h; exact k.frozenAt _
  have fm : w.frozen? ⟨bv, e.mt.toNat, none⟩ = false := by obtain ⟨_, _, _, _, k⟩ := h; exact k.frozenAt _
  have hpv : ¬ p = bv := h.apart.2.1
  have hpv' : ¬ bv = p := fun e => h.apart.2.1 e.symm
  clear h h1 hne
  go_enter Try.func71, Try.ntmps71
  go_wp2_with fail
  go_region
  go_wp2
  go_region
  go_wp2
  go_end0
  have hm : rdI (bump lv e.zn by_) e.mt = rdI lv e.mt := by
    rw [rdI_bump z0 z1 m0, if_neg (fun h => hne' (by rw [h])), Int.add_zero]
  have a := (hz.out.bump e.zn by_).bump e.mt by_
  rw [hm] at a
  refine ⟨rfl, ?_, ?_⟩
  · have e1 : tally lv e by_ = bump (bump lv e.zn by_) e.mt by_ := by unfold tally; rw [if_pos H1.out]
    rw [e1]
    exact a.grow (below_drew (below_drew (below_box _ _)))
  · exact ((((Keeps.refl _ _ w).setCell _ _ (.inl (by simp))).setCell _ _ (.inl (by simp))).trans (Keeps.of_below ((below_box _ _).mono (by simp [World.setCell])))).drew.drew
theorem map_count_other (w : World) (p : Nat) (e : E) (by_ : Int) (h1 : e.st ≠ 1) :
    Calls Try.prog 71 #[.pointer (some ⟨p, 0, none⟩), e.v, .int .i64 by_] w fun r w' => r = .returned (.tuple #[]) ∧ Below w.heap.size w w' := by
  have ft : (e.st == 1) = false := by simp [h1]
  clear h1
  go_enter Try.func71, Try.ntmps71
  go_wp2
  go_end0
  exact ⟨rfl, below_box _ _⟩
theorem map_count (w : World) (p bl bv : Nat) (g : G) (l : List E) (lv : List Int) (h : MapAt w p bl bv g l lv) (hl : (lv.length : Int) = g.all) (e : E) (hr : e.right g = true) (by_ : Int) (b0 : -1 ≤ by_) (b1 : by_ ≤ 1)
    (hb : ∀ z, 0 ≤ z → z < g.all → -1000 ≤ rdI lv z ∧ rdI lv z ≤ 1000) :
    Calls Try.prog 71 #[.pointer (some ⟨p, 0, none⟩), e.v, .int .i64 by_] w fun r w' => r = .returned (.tuple #[]) ∧ MapAt w' p bl bv g l (tally lv e by_) ∧ Keeps w.heap.size [bv] w w' := by
  by_cases h1 : e.st = 1
  · obtain ⟨⟨a, b⟩, ⟨c, d⟩, _, hne, _⟩ := E.right_lives hr h1
    exact map_count_lives w p bl bv g l lv h e by_ h1 a (by omega) c (by omega) hne b0 b1 (hb _ a b).1 (hb _ a b).2 (hb _ c d).1 (hb _ c d).2
  · refine (map_count_other w p e by_ h1).mono ?_
    rintro r w' ⟨rfl, hb⟩
    refine ⟨rfl, ?_, Keeps.of_below hb⟩
    unfold tally
    rw [if_neg h1]
    exact h.grow hb
end Go.Proofs.Ytcgafnmpfdkfoaa
