/- bmap's Set. -/
import Derived.Test.YtcgafnmpfdkfoaaMap3
namespace Go.Proofs.Ytcgafnmpfdkfoaa
open Go.RowKit

def setCode (g : G) (l : List E) (b : Int) (e : E) : Int := if b < 0 ∨ l.length ≤ b then 13 else if e.right g then 0 else 10
def setL (g : G) (l : List E) (b : Int) (e : E) : List E := if setCode g l b e = 0 then l.set b.toNat e else l
def setV (g : G) (l : List E) (lv : List Int) (b : Int) (e : E) : List Int := if setCode g l b e = 0 then tally (tally lv (l.getD b.toNat E0) (-1)) e 1 else lv

theorem map_set_out (w : World) (p bl bv : Nat) (g : G) (l : List E) (lv : List Int) (h : MapAt w p bl bv g l lv) (b : Int) (e : E) (hb : b < 0 ∨ l.length ≤ b) :
    Calls Try.prog 26 #[.pointer (some ⟨p, 0, none⟩), .int .i64 b, e.v] w fun r w' => r = .returned (.int .i64 13) ∧ Below w.heap.size w w' := by
  have H := Lib.hid h
  have HB := Lib.hid hb
  clear h hb
  go_enter Try.func26, Try.ntmps26
  go_wp2_with fail
  refine (map_get_no _ p bl bv g l lv (H.out.grow (below_box _ _)) b HB.out).mono ?_
  rintro r w1 ⟨rfl, hb1⟩
  go_wp2
  go_ret
  exact ⟨rfl, (below_then (below_box _ _) (by simp) hb1).alloc (by have := hb1.size; simp at this; omega) _⟩
theorem map_set_form (w : World) (p bl bv : Nat) (g : G) (l : List E) (lv : List Int) (h : MapAt w p bl bv g l lv) (b : Int) (e old : E) (h0 : 0 ≤ b) (he : l[b.toNat]? = some old) (hr : e.right g = false) :
    Calls Try.prog 26 #[.pointer (some ⟨p, 0, none⟩), .int .i64 b, e.v] w fun r w' => r = .returned (.int .i64 10) ∧ Below w.heap.size w w' := by
  have H := Lib.hid h
  have HE := Lib.hid he
  obtain ⟨hp, hl, hv⟩ := h.lt
  clear h he
  go_enter Try.func26, Try.ntmps26
  go_wp2_with fail
  refine (map_get _ p bl bv g l lv (H.out.grow (below_box _ _)) b old h0 HE.out).mono ?_
  rintro r w1 ⟨rfl, hb1⟩
  obtain ⟨hc, hf⟩ := bcell hb1
  have hz : w.heap.size < w1.heap.size := by have := hb1.size; simp at this; omega
  obtain ⟨cl, cv, _, _, _, _, _, g0, g1, g2, g3, g4, g5, s6, s7⟩ := H.out.reads
  have hp1 : p < w1.heap.size := by omega
  have hp0 : p < w.heap.size + 1 := by omega
  have hz' : w.heap.size < w1.heap.size + 1 := by omega
  have hp1' : p < w1.heap.size + 1 := by omega
  go_wp2_with fail
  have hfrom := @From.cell (w1.alloc old.box)
  refine region_from (by kernel_rfl) (by kernel_rfl) ?_
  repeat (go_big_quiet_step ((go_at_call 35; exact from_call (entry_right_b _ _ _ _ hr))))
  refine wpQuiet_nil ?_
  intro W hW
  go_wp2
  go_ret
  exact ⟨rfl, ((below_then (below_box _ _) (by simp) hb1).alloc (by omega) old.box).trans (hW.mono (by simp; omega))⟩

abbrev E.arr (e : E) : Array Value := #[.int .i64 e.st, .int .i64 e.zn, .int .i64 e.mt, .int .i64 e.off, .int .i64 e.sq, .int .i64 e.sm]
/-- The six cells of an entry's own block. -/
theorem Blk.ent {w : World} {b : Nat} {t : TypeId} {e : E} (h : Blk w b t e.arr) : (w.cell? ⟨b, 0, none⟩ = some (.int .i64 e.st) ∧ w.cell? ⟨b, 1, none⟩ = some (.int .i64 e.zn) ∧ w.cell? ⟨b, 2, none⟩ = some (.int .i64 e.mt)) ∧
    w.cell? ⟨b, 3, none⟩ = some (.int .i64 e.off) ∧ w.cell? ⟨b, 4, none⟩ = some (.int .i64 e.sq) ∧ w.cell? ⟨b, 5, none⟩ = some (.int .i64 e.sm) :=
  ⟨⟨by rw [h.cell]; rfl, by rw [h.cell]; rfl, by rw [h.cell]; rfl⟩, by rw [h.cell]; rfl, by rw [h.cell]; rfl, by rw [h.cell]; rfl⟩
theorem flat_set (l : List E) (i : Nat) (e : E) (h : i < l.length) : ((((((flat l).set (i * 6) (.int .i64 e.st)).set (i * 6 + 1) (.int .i64 e.zn)).set (i * 6 + 2) (.int .i64 e.mt)).set (i * 6 + 3) (.int .i64 e.off)).set (i * 6 + 4) (.int .i64 e.sq)).set (i * 6 + 5) (.int .i64 e.sm) = flat (l.set i e) := by
  induction l generalizing i with
  | nil => simp at h
  | cons x r ih =>
    have hf : ∀ (y : E) (s : List E), flat (y :: s) = .int .i64 y.st :: .int .i64 y.zn :: .int .i64 y.mt :: .int .i64 y.off :: .int .i64 y.sq :: .int .i64 y.sm :: flat s := fun _ _ => rfl
    cases i with
    | zero => rw [List.set_cons_zero, hf, hf]; rfl
    | succ i =>
      have hi : i < r.length := by simpa using h
      rw [List.set_cons_succ, hf, hf, ← ih i hi]
      have e0 : (i + 1) * 6 = i * 6 + 6 := by omega
      rw [e0]
      simp only [List.set_cons_succ, show i * 6 + 6 + 1 = i * 6 + 1 + 6 by omega, show i * 6 + 6 + 2 = i * 6 + 2 + 6 by omega, show i * 6 + 6 + 3 = i * 6 + 3 + 6 by omega, show i * 6 + 6 + 4 = i * 6 + 4 + 6 by omega, show i * 6 + 6 + 5 = i * 6 + 5 + 6 by omega]
/-- The world behind an entry's store. -/
abbrev World.putEnt (w : World) (b i : Nat) (e : E) : World := (((((w.setCell ⟨b, i * 6, none⟩ (.int .i64 e.st)).setCell ⟨b, i * 6 + 1, none⟩ (.int .i64 e.zn)).setCell ⟨b, i * 6 + 2, none⟩ (.int .i64 e.mt)).setCell ⟨b, i * 6 + 3, none⟩ (.int .i64 e.off)).setCell ⟨b, i * 6 + 4, none⟩ (.int .i64 e.sq)).setCell ⟨b, i * 6 + 5, none⟩ (.int .i64 e.sm)
theorem MapAt.put {w : World} {p bl bv : Nat} {g : G} {l : List E} {lv : List Int} (h : MapAt w p bl bv g l lv) (i : Nat) (e : E) (hi : i < l.length) : MapAt (World.putEnt w bl i e) p bl bv g (l.set i e) lv ∧ Keeps w.heap.size [bl] w (World.putEnt w bl i e) := by
  obtain ⟨a1, a2, a3⟩ := h.apart
  have hl := h.lt
  obtain ⟨cl, cv, h0, h1, h2⟩ := h
  have k : Keeps w.heap.size [bl] w (World.putEnt w bl i e) := (((((((Keeps.refl _ _ _).setCell _ _ (.inl (by simp))).setCell _ _ (.inl (by simp))).setCell _ _ (.inl (by simp))).setCell _ _ (.inl (by simp))).setCell _ _ (.inl (by simp))).setCell _ _ (.inl (by simp)))
  have hs := (((((((h1.stored (i * 6) (.int .i64 e.st)).1.stored (i * 6 + 1) (.int .i64 e.zn)).1.stored (i * 6 + 2) (.int .i64 e.mt)).1.stored (i * 6 + 3) (.int .i64 e.off)).1.stored (i * 6 + 4) (.int .i64 e.sq)).1.stored (i * 6 + 5) (.int .i64 e.sm)).1)
  rw [flat_set l i e hi] at hs
  refine ⟨⟨cl, cv, ?_, ?_, own_keeps k hl.2.2 (by simpa using fun h => a3 h.symm) h2⟩, k⟩
  · rw [List.length_set]; exact k.blk hl.1 (by simpa using a1) h0
  · rw [List.length_set]; exact hs
theorem MapAt.drew {w : World} {p bl bv : Nat} {g : G} {l : List E} {lv : List Int} (h : MapAt w p bl bv g l lv) : MapAt w.drew p bl bv g l lv := h
theorem MapOk.bound {g : G} {l : List E} {lv : List Int} (h : MapOk g l lv) (z : Int) (h0 : 0 ≤ z) (h1 : z < g.all) : 0 ≤ rdI lv z ∧ rdI lv z ≤ 256 := by
  rw [h.live z h0 h1]
  have := rdI_nonneg_cnt l z
  have hB := (G.small_of_right h.right).B1
  have hl := h.len
  omega
theorem tally_bound {g : G} {lv : List Int} {e : E} {by_ : Int} (hr : e.right g = true) (hl : (lv.length : Int) = g.all) {lo hi : Int} (hb : ∀ z, 0 ≤ z → z < g.all → lo ≤ rdI lv z ∧ rdI lv z ≤ hi) (b0 : -1 ≤ by_) (b1 : by_ ≤ 1) :
    ∀ z, 0 ≤ z → z < g.all → lo - 1 ≤ rdI (tally lv e by_) z ∧ rdI (tally lv e by_) z ≤ hi + 1 := by
  intro z h0 h1
  rw [rdI_tally hr hl h0]
  have := hb z h0 h1
  split <;> omega

set_option maxHeartbeats 1000000 in
theorem map_set_ok (w : World) (p bl bv : Nat) (g : G) (l : List E) (lv : List Int) (h : MapAt w p bl bv g l lv) (hk : MapOk g l lv) (b : Int) (e old : E) (h0 : 0 ≤ b) (he : l[b.toNat]? = some old) (hr : e.right g = true) :
    Calls Try.prog 26 #[.pointer (some ⟨p, 0, none⟩), .int .i64 b, e.v] w fun r w' => r = .returned (.int .i64 0) ∧ MapAt w' p bl bv g (l.set b.toNat e) (tally (tally lv old (-1)) e 1) ∧ Keeps w.heap.size [bl, bv] w w' := by
  have H := Lib.hid h
  have HE := Lib.hid he
  have hbl : b.toNat < l.length := (List.getElem?_eq_some_iff.1 he).1
  have hold : old.right g = true := hk.all old (List.mem_of_getElem? he)
  have L1 := Lib.hid hk.lvlen
  have L2 : Hid ((((tally lv old (-1)).length : Nat) : Int) = g.all) := by show _ = _; rw [tally_length]; exact hk.lvlen
  have B1 : Hid (∀ z, 0 ≤ z → z < g.all → -1000 ≤ rdI lv z ∧ rdI lv z ≤ 1000) := fun z h0 h1 => by have := hk.bound z h0 h1; omega
  have B2 : Hid (∀ z, 0 ≤ z → z < g.all → -1000 ≤ rdI (tally lv old (-1)) z ∧ rdI (tally lv old (-1)) z ≤ 1000) := fun z h0 h1 => by
    have := tally_bound hold hk.lvlen hk.bound (by_ := -1) (by omega) (by omega) z h0 h1; omega
  have HO := Lib.hid hold
  have A := Lib.hid h.apart
  obtain ⟨hp, hl, hv⟩ := h.lt
  obtain ⟨cl, cv, _, _, _, _, _, g0, g1, g2, g3, g4, g5, s6, s7⟩ := H.out.reads
  clear h he hk hold
  go_enter Try.func26, Try.ntmps26
  go_wp2_with fail
  refine (map_get _ p bl bv g l lv (H.out.grow (below_box _ _)) b old h0 HE.out).mono ?_
  rintro r w1 ⟨rfl, hb1⟩
  obtain ⟨hc, hf⟩ := bcell hb1
  have hz : w.heap.size < w1.heap.size := by have := hb1.size; simp at this; omega
  have hp1 : p < w1.heap.size := by omega
  have hp0 : p < w.heap.size + 1 := by omega
  have hz' : w.heap.size < w1.heap.size + 1 := by omega
  have hp1' : p < w1.heap.size + 1 := by omega
  go_wp2_with fail
  have hfrom := @From.cell (w1.alloc old.box)
  refine region_from (by kernel_rfl) (by kernel_rfl) ?_
  repeat (go_big_quiet_step ((go_at_call 35; exact from_call (entry_right_b _ _ _ _ hr))))
  refine wpQuiet_nil ?_
  intro W hW
  have K1 : Hid (Below w.heap.size w W) := ((below_then (below_box _ _) (by simp) hb1).alloc (by omega) old.box).trans (hW.mono (by simp; omega))
  have M1 := Lib.hid (H.out.grow K1.out)
  have Z1 : w1.heap.size < W.heap.size := by have := hW.size; simp at this; omega
  have X1 : Blk W w.heap.size 31 e.arr := (Keeps.of_below (S := []) hW).blk (by simp; omega) (by simp) (((Keeps.of_below (S := []) hb1).blk (by simp) (by simp) (Blk.newAt rfl)).alloc _)
  have Y1 : Blk W w1.heap.size 31 old.arr := (Keeps.of_below (S := []) hW).blk (by simp) (by simp) (Blk.newAt rfl)
  have HX := Lib.hid X1
  obtain ⟨⟨x0, x1, x2⟩, x3, x4, x5⟩ := X1.ent
  obtain ⟨⟨y0, y1, y2⟩, y3, y4, y5⟩ := Y1.ent
  clear hfrom hW hc hf hb1 X1 Y1 hp1' hz' hp0 g0 g1 g2 g3 g4 g5 s6 s7
  go_wp2_with fail
  refine (map_count _ p bl bv g l lv M1.out L1.out old HO.out (-1) (by omega) (by omega) B1.out).mono ?_
  rintro r w2 ⟨rfl, hM2, hK2⟩
  have HM2 := Lib.hid hM2
  have HK2 := Lib.hid hK2
  have X2 : Blk w2 w.heap.size 31 e.arr := hK2.blk (by omega) (by simp; omega) HX.out
  have HX2 := Lib.hid X2
  clear x0 x1 x2 x3 x4 x5 y0 y1 y2 y3 y4 y5 hM2
  obtain ⟨⟨x0, x1, x2⟩, x3, x4, x5⟩ := X2.ent
  have Z2 : w.heap.size < w2.heap.size := by have := hK2.size; omega
  clear X2 hK2
  go_wp2_with fail
  refine (map_count _ p bl bv g l _ HM2.out L2.out e hr 1 (by omega) (by omega) B2.out).mono ?_
  rintro r w3 ⟨rfl, hM3, hK3⟩
  have HM3 := Lib.hid hM3
  have HK3 := Lib.hid hK3
  have X3 : Blk w3 w.heap.size 31 e.arr := hK3.blk (by omega) (by simp; omega) HX2.out
  have HX3 := Lib.hid X3
  clear x0 x1 x2 x3 x4 x5 hM3
  obtain ⟨⟨x0, x1, x2⟩, x3, x4, x5⟩ := X3.ent
  have Z3 : w.heap.size < w3.heap.size := by have := hK3.size; omega
  obtain ⟨cl', cv', q1, q2, q3, q4, q5, g0, g1, g2, g3, g4, g5, s6, s7⟩ := HM3.out.reads
  have hle : b < l.length := by omega
  have fr : ∀ j, w3.frozen? ⟨bl, j, none⟩ = false := by obtain ⟨_, _, _, k, _⟩ := HM3.out; exact k.frozenAt
  obtain ⟨d0, d1, d2, d3, d4, d5⟩ := HM3.out.ent HE.out
  clear X3 hK3 g0 g1 g2 g3 g4 g5 s7
  go_wp2_with fail
  go_region
  go_wp2
  go_ret
  obtain ⟨a, k⟩ := HM3.out.put b.toNat e hbl
  refine ⟨rfl, a.drew, ?_⟩
  have t1 : Keeps w.heap.size [bl, bv] w W := Keeps.of_below K1.out
  have t2 : Keeps w.heap.size [bl, bv] W w2 := HK2.out.mono (by omega) (by simp)
  have t3 : Keeps w.heap.size [bl, bv] w2 w3 := HK3.out.mono (by omega) (by simp)
  have t4 : Keeps w.heap.size [bl, bv] w3 (World.putEnt w3 bl b.toNat e) := k.mono (by omega) (by simp)
  exact (((t1.trans t2).trans t3).trans t4).drew
theorem map_set (w : World) (p bl bv : Nat) (g : G) (l : List E) (lv : List Int) (h : MapAt w p bl bv g l lv) (hk : MapOk g l lv) (b : Int) (e : E) :
    Calls Try.prog 26 #[.pointer (some ⟨p, 0, none⟩), .int .i64 b, e.v] w fun r w' => r = .returned (.int .i64 (setCode g l b e)) ∧ MapAt w' p bl bv g (setL g l b e) (setV g l lv b e) ∧ Keeps w.heap.size [bl, bv] w w' := by
  by_cases hb : b < 0 ∨ l.length ≤ b
  · refine (map_set_out w p bl bv g l lv h b e hb).mono ?_
    rintro r w' ⟨rfl, hb1⟩
    have hc : setCode g l b e = 13 := by unfold setCode; rw [if_pos hb]
    unfold setL setV
    rw [hc]
    exact ⟨rfl, h.grow hb1, Keeps.of_below hb1⟩
  · have h0 : 0 ≤ b := by omega
    have hl : b.toNat < l.length := by omega
    have he : l[b.toNat]? = some l[b.toNat] := List.getElem?_eq_getElem hl
    cases hr : e.right g with
    | false =>
      refine (map_set_form w p bl bv g l lv h b e _ h0 he hr).mono ?_
      rintro r w' ⟨rfl, hb1⟩
      have hc : setCode g l b e = 10 := by unfold setCode; rw [if_neg hb, hr]; rfl
      unfold setL setV
      rw [hc]
      exact ⟨rfl, h.grow hb1, Keeps.of_below hb1⟩
    | true =>
      refine (map_set_ok w p bl bv g l lv h hk b e _ h0 he hr).mono ?_
      rintro r w' ⟨rfl, hm, hb1⟩
      have hc : setCode g l b e = 0 := by unfold setCode; rw [if_neg hb, hr]; rfl
      unfold setL setV
      rw [hc, if_pos rfl, if_pos rfl, List.getD_eq_getElem?_getD, he]
      exact ⟨rfl, hm, hb1⟩
theorem MapOk.setv {g : G} {l : List E} {lv : List Int} (h : MapOk g l lv) (b : Int) (e : E) : MapOk g (setL g l b e) (setV g l lv b e) := by
  unfold setL setV
  by_cases hc : setCode g l b e = 0
  · rw [if_pos hc, if_pos hc]
    unfold setCode at hc
    by_cases hb : b < 0 ∨ l.length ≤ b
    · rw [if_pos hb] at hc; omega
    · rw [if_neg hb] at hc
      have hl : b.toNat < l.length := by omega
      have hr : e.right g = true := by
        cases hr : e.right g with
        | true => rfl
        | false => rw [hr] at hc; simp at hc
      have := h.set hl hr
      rw [List.getD_eq_getElem?_getD, List.getElem?_eq_getElem hl]
      exact this
  · rw [if_neg hc, if_neg hc]; exact h
end Go.Proofs.Ytcgafnmpfdkfoaa
