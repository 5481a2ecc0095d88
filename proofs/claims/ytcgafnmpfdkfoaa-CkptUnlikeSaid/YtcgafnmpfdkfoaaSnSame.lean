/- Law SnapSame: the plain part, and the walk. -/
import Derived.Test.YtcgafnmpfdkfoaaRef12
import Derived.Laws.BitsLemmas
namespace Go.Proofs.Ytcgafnmpfdkfoaa
open Go.RowKit

theorem xor_i64_nat (a b : Nat) (ha : a < 4611686018427387904) (hb : b < 4611686018427387904) : bits .xor .i64 (a : Int) (b : Int) = ((a ^^^ b : Nat) : Int) := by
  have hx : a ^^^ b < 2 ^ 62 := Nat.xor_lt_two_pow (by omega) (by omega)
  have h1 : (BitVec.ofInt 64 (a : Int)).toNat = a := by
    rw [BitVec.ofInt_natCast, BitVec.toNat_ofNat]; exact Nat.mod_eq_of_lt (by omega)
  have h2 : (BitVec.ofInt 64 (b : Int)).toNat = b := by
    rw [BitVec.ofInt_natCast, BitVec.toNat_ofNat]; exact Nat.mod_eq_of_lt (by omega)
  show IntKind.i64.wrap ((BitVec.ofInt 64 (a : Int) ^^^ BitVec.ofInt 64 (b : Int)).toNat : Int) = _
  rw [BitVec.toNat_xor, h1, h2, IntKind.wrap_i64]
  omega
theorem xor_one_ne (a : Int) (h0 : 1 ≤ a) (h1 : a ≤ 281474976710655) : bits .xor .i64 a 1 ≠ a := by
  obtain ⟨n, rfl⟩ : ∃ n : Nat, a = n := ⟨a.toNat, by omega⟩
  have h := xor_i64_nat n 1 (by omega) (by omega)
  simp only [Int.natCast_one] at h
  rw [h]
  intro hx
  have hx' : n ^^^ 1 = n := by exact_mod_cast hx
  have := congrArg (fun m => n ^^^ m) hx'
  simp [← Nat.xor_assoc] at this
theorem stood_ent : (Try.prog).stoodInHeld 31 = false := by kernel_rfl
theorem ent_eq (e f : E) (W : World) : (Op.equalIn 10000 31 e.v f.v).run Try.prog W = .ok (decide (e = f)) W := by
  have hu : (Try.prog).underlying 31 = some (.struct ((Try.prog).fieldsOf 31)) := by unfold Program.fieldsOf; rw [Try.underlying31]
  rw [run_equalIn_struct W 9999 31 e.arr f.arr hu stood_ent]
  have key0 : ∀ (xs : Array Value) j v, xs[j]? = some v → ∀ w, (part 3 xs j).run Try.prog w = .ok v w := fun xs j v hv w => by
    unfold part
    rw [Sem.run_bind, isAgg_int (k := .i64) Try.underlying3 w]
    simp [Result.andThen, hv]
  have hp : ∀ x : E, (∀ w, (part 3 x.arr 0).run Try.prog w = .ok (.int .i64 x.st) w) ∧ (∀ w, (part 3 x.arr 1).run Try.prog w = .ok (.int .i64 x.zn) w) ∧ (∀ w, (part 3 x.arr 2).run Try.prog w = .ok (.int .i64 x.mt) w) ∧
      (∀ w, (part 3 x.arr 3).run Try.prog w = .ok (.int .i64 x.off) w) ∧ (∀ w, (part 3 x.arr 4).run Try.prog w = .ok (.int .i64 x.sq) w) ∧ (∀ w, (part 3 x.arr 5).run Try.prog w = .ok (.int .i64 x.sm) w) := fun x => by
    exact ⟨key0 _ 0 _ rfl, key0 _ 1 _ rfl, key0 _ 2 _ rfl, key0 _ 3 _ rfl, key0 _ 4 _ rfl, key0 _ 5 _ rfl⟩
  obtain ⟨f0, f1, f2, f3, f4, f5⟩ := hp e
  obtain ⟨h0, h1, h2, h3, h4, h5⟩ := hp f
  have hfl : (((Try.prog).fieldsOf 31).toList) = (((Try.prog).fieldsOf 31).toList) := rfl
  conv at hfl => rhs; unfold Program.fieldsOf; rw [Try.underlying31]
  rw [hfl]
  have i0 := fun (a b : Int) (w : World) => run_equalIn_int (P := Try.prog) w 9998 3 .i64 .i64 a b Try.underlying3
  have key : decide (e = f) = (e.st == f.st && (e.zn == f.zn && (e.mt == f.mt && (e.off == f.off && (e.sq == f.sq && e.sm == f.sm))))) := by
    rw [Bool.eq_iff_iff]
    simp only [decide_eq_true_eq, Bool.and_eq_true, beq_iff_eq]
    constructor
    · rintro rfl; exact ⟨rfl, rfl, rfl, rfl, rfl, rfl⟩
    · rintro ⟨a, b, c, d, e', k⟩; cases e; cases f; simp_all
  rw [key]
  simp only [Op.eqFields, f0, f1, f2, f3, f4, f5, h0, h1, h2, h3, h4, h5, Sem.run_bind, Result.andThen_ok, i0, Sem.run_ite, Sem.run_pure]
  cases e.st == f.st <;> cases e.zn == f.zn <;> cases e.mt == f.mt <;> cases e.off == f.off <;> cases e.sq == f.sq <;> cases e.sm == f.sm <;> simp
/-- The entry of a block tells whether setting it changed the list. -/
theorem getE_set (g : G) (l : List E) (b : Int) (e : E) : getE l b = getE (setL g l b e) b ↔ setL g l b e = l := by
  constructor
  · intro h
    unfold setL at h ⊢
    by_cases hc : setCode g l b e = 0
    · rw [if_pos hc] at h ⊢
      unfold setCode at hc
      by_cases hb : b < 0 ∨ l.length ≤ b
      · rw [if_pos hb] at hc; omega
      · have h0 : 0 ≤ b := by omega
        have hl : b.toNat < l.length := by omega
        unfold getE at h
        rw [if_pos h0, if_pos h0, List.getD_eq_getElem?_getD, List.getD_eq_getElem?_getD, List.getElem?_eq_getElem hl, List.getElem?_set_self hl] at h
        simp only [Option.getD_some] at h
        rw [← h]
        exact List.set_getElem_self hl
    · rw [if_neg hc]
  · intro h; rw [h]
/-- Two snapshots that may be have the same frames just if they are the same. -/
theorem frOpt_iff {s t : Sn} {g : G} {l r : List E} {lv rv : List Int} (hl : MapOk g l lv) (hr : MapOk g r rv) (hs : s.right l = true) (ht : t.right r = true) : frOpt s g l = frOpt t g r ↔ s = t ∧ l = r := by
  unfold frOpt
  rw [if_pos hs, if_pos ht]
  constructor
  · intro h
    have h' : frames s g l 0 ++ [] = frames t g r 0 := by simpa using h
    obtain ⟨a, _, b, _⟩ := frames_inj (hl.sn hs) (hr.sn ht) [] h'
    exact ⟨a, b⟩
  · rintro ⟨rfl, rfl⟩; rfl
theorem snap_same_v (w : World) (p bl bv : Nat) (g : G) (l : List E) (lv : List Int) (s : Sn) (hM : MapAt w p bl bv g l lv) (hO : MapOk g l lv) (p' bl' bv' : Nat) (g' : G) (l' : List E) (lv' : List Int) (s' : Sn) (hM' : MapAt w p' bl' bv' g' l' lv') (hO' : MapOk g' l' lv') (t : Bool)
    (ht : decide (frOpt s g l = frOpt s' g' l') = t) :
    Calls Try.prog 45 #[s.v p, s'.v p'] w fun r w' => r = .returned (.bool t) ∧ Below w.heap.size w w' := ht ▸ snap_same w p bl bv g l lv s hM hO p' bl' bv' g' l' lv' s' hM' hO'
abbrev itemV (b : Int) (e : E) : Value := .agg #[.int .i64 b, .int .i64 e.st, .int .i64 e.zn, .int .i64 e.mt, .int .i64 e.off, .int .i64 e.sq, .int .i64 e.sm]
abbrev itemArr (b : Int) (e : E) : Array Value := #[.int .i64 b, .int .i64 e.st, .int .i64 e.zn, .int .i64 e.mt, .int .i64 e.off, .int .i64 e.sq, .int .i64 e.sm]
abbrev itemBox (b : Int) (e : E) : Obj := .cells (itemArr b e) 66
theorem Blk.icells {w : World} {i : Nat} {t : TypeId} {b : Int} {e : E} (h : Blk w i t (itemArr b e)) : (w.cell? ⟨i, 0, none⟩ = some (.int .i64 b) ∧ w.cell? ⟨i, 1, none⟩ = some (.int .i64 e.st) ∧ w.cell? ⟨i, 2, none⟩ = some (.int .i64 e.zn)) ∧ (w.cell? ⟨i, 3, none⟩ = some (.int .i64 e.mt) ∧ w.cell? ⟨i, 4, none⟩ = some (.int .i64 e.off)) ∧ w.cell? ⟨i, 5, none⟩ = some (.int .i64 e.sq) ∧ w.cell? ⟨i, 6, none⟩ = some (.int .i64 e.sm) :=
  ⟨⟨by rw [h.cell]; rfl, by rw [h.cell]; rfl, by rw [h.cell]; rfl⟩, ⟨by rw [h.cell]; rfl, by rw [h.cell]; rfl⟩, by rw [h.cell]; rfl, by rw [h.cell]; rfl⟩

theorem item_of {cs : Array Value} (hs : cs.size = 7) (h : ∀ i, i < 7 → ∃ n, cs[i]? = some (.int .i64 n) ∧ (Lit.int .i64 n).wf = true) : ∃ o : Op11, Value.agg cs = itemV o.b o.e := by
  obtain ⟨l⟩ := cs
  match l, hs with
  | [c0, c1, c2, c3, c4, c5, c6], _ =>
    obtain ⟨n0, h0, _⟩ := h 0 (by omega)
    obtain ⟨n1, h1, _⟩ := h 1 (by omega)
    obtain ⟨n2, h2, _⟩ := h 2 (by omega)
    obtain ⟨n3, h3, _⟩ := h 3 (by omega)
    obtain ⟨n4, h4, _⟩ := h 4 (by omega)
    obtain ⟨n5, h5, _⟩ := h 5 (by omega)
    obtain ⟨n6, h6, _⟩ := h 6 (by omega)
    simp at h0 h1 h2 h3 h4 h5 h6
    subst h0 h1 h2 h3 h4 h5 h6
    exact ⟨⟨n0, ⟨n1, n2, n3, n4, n5, n6⟩⟩, rfl⟩
/-- What stands of the first snapshot and the item. -/
structure SnA (w : World) (g : G) (l : List E) (lv : List Int) (s : Sn) (p bl bv ab N1 : Nat) (blk : Int) (ent : E) (W : World) : Prop where
  m : MapAt W p bl bv g l lv
  y : Blk W ab 53 (s.arr p)
  i : Blk W N1 66 (itemArr blk ent)
  u : Below w.heap.size w W
theorem SnA.grow {w : World} {g : G} {l : List E} {lv : List Int} {s : Sn} {p bl bv ab N1 : Nat} {blk : Int} {ent : E} {W W' : World} (h : SnA w g l lv s p bl bv ab N1 blk ent W) (k : Below W.heap.size W W') : SnA w g l lv s p bl bv ab N1 blk ent W' :=
  ⟨h.m.grow k, (Keeps.of_below (S := []) k).blk h.y.lt (by simp) h.y, (Keeps.of_below (S := []) k).blk h.i.lt (by simp) h.i, h.u.trans (k.mono h.u.size)⟩
theorem SnA.keeps {w : World} {g : G} {l : List E} {lv : List Int} {s : Sn} {p bl bv ab N1 : Nat} {blk : Int} {ent : E} {W W' : World} {x y B : Nat} (h : SnA w g l lv s p bl bv ab N1 blk ent W) (k : Keeps W.heap.size [x, y] W W') (hw : w.heap.size ≤ B) (hp : p < B ∧ bl < B ∧ bv < B ∧ ab < B ∧ N1 < B) (hx : B ≤ x ∧ B ≤ y) : SnA w g l lv s p bl bv ab N1 blk ent W' := by
  obtain ⟨q1, q2, q3⟩ := h.m.lt
  exact ⟨h.m.keeps k ⟨q1, by simp; omega⟩ ⟨q2, by simp; omega⟩ ⟨q3, by simp; omega⟩, k.blk h.y.lt (by simp; omega) h.y, k.blk h.i.lt (by simp; omega) h.i, h.u.trans (Keeps.below (k.mono h.u.size (fun _ hi => hi)) (by simp; omega))⟩

set_option maxRecDepth 100000 in
set_option maxHeartbeats 2000000 in
theorem snsame_walk (w : World) (g : G) (A : Option Addr) (n c : Nat) (ops : List Op11) (h : OpsAt w A n c ops) (blk : Int) (ent : E) (gen ep nx : Int) :
    Calls Try.prog 7 #[g.v, .slice A n c, itemV blk ent, .int .i64 gen, .int .i64 ep, .int .i64 nx] w fun r w' => r = .returned (.bool true) ∧ Below w.heap.size w w' := by
  obtain ⟨s, hs⟩ : ∃ s : Sn, s = ⟨gen, ep, nx⟩ := ⟨_, rfl⟩
  have hsg : gen = s.gen := by rw [hs]
  have hse : ep = s.ep := by rw [hs]
  have hsn : nx = s.nx := by rw [hs]
  subst hsg hse hsn
  clear hs
  obtain ⟨N1, hN1⟩ : ∃ N1, w.heap.size + 1 = N1 := ⟨_, rfl⟩
  obtain ⟨W0, hW0⟩ : ∃ W0, (w.alloc g.box).alloc (itemBox blk ent) = W0 := ⟨_, rfl⟩
  have k0 : Blk W0 w.heap.size 23 g.arr := by rw [← hW0]; exact (Blk.newAt rfl).alloc _
  have i0 : Blk W0 N1 66 (itemArr blk ent) := by rw [← hW0]; exact Blk.newAt (by simp; omega)
  have U0 : Below w.heap.size w W0 := by rw [← hW0]; exact (below_box _ _).alloc (by simp) _
  have HU := Lib.hid U0
  have K0 := Lib.hid k0
  have I0 := Lib.hid i0
  have HO := Lib.hid h
  clear h U0 k0 i0
  go_enter Try.func7, Try.ntmps7
  go_wp2_with fail
  clear hW0
  refine (anchor12 W0).mono ?_
  rintro r w1 ⟨rfl, hb1⟩
  have K1 := Lib.hid ((Keeps.of_below (S := []) hb1).blk K0.out.lt (by simp) K0.out)
  have I1 := Lib.hid ((Keeps.of_below (S := []) hb1).blk I0.out.lt (by simp) I0.out)
  have U1 : Hid (Below w.heap.size w w1) := Lib.hid (HU.out.trans (hb1.mono HU.out.size))
  obtain ⟨⟨x0, x1⟩, ⟨x2, x3⟩, x4, x5⟩ := K1.out.gcells
  clear hb1
  go_wp2_with fail
  by_cases hbad : g.right = false ∨ 60 < n
  · have hmade : Hid (Calls Try.prog 38 #[g.v, .slice A n c, .int .i64 s.gen, .int .i64 s.ep, .int .i64 s.nx] w1 fun r w' => r = .returned (.tuple #[sn0, ref0, .bool false]) ∧ Below w1.heap.size w1 w') := by
      cases hr : g.right with
      | false => exact Lib.hid (made12_no w1 g A n c _ _ _ hr)
      | true => exact Lib.hid (made12_long w1 g A n c _ _ _ hr (hbad.resolve_left (by rw [hr]; simp)))
    refine hmade.out.mono ?_
    rintro r w2 ⟨rfl, hb2⟩
    have U2 : Hid (Below w.heap.size w w2) := Lib.hid (U1.out.trans (hb2.mono U1.out.size))
    clear hb2 x0 x1 x2 x3 x4 x5 hmade hbad
    go_wp2
    go_ret
    exact ⟨rfl, (U2.out.alloc U2.out.size _).alloc (by have := U2.out.size; simp; omega) _⟩
  · have hr : g.right = true := by cases hr : g.right with | true => rfl | false => exact absurd (.inl hr) hbad
    have hn : n ≤ 60 := by omega
    have hops : OpsAt w1 A n c ops := by
      obtain ⟨h1, h2, h3, h4⟩ := HO.out
      refine ⟨h1, h2, h3, fun hp => ?_⟩
      obtain ⟨b', off, e1, e2, e3⟩ := h4 hp
      have hk : ∀ o, w1.cell? ⟨b', o, none⟩ = w.cell? ⟨b', o, none⟩ := fun o => U1.out.cell (p := ⟨b', o, none⟩) e2
      exact ⟨b', off, e1, Nat.lt_of_lt_of_le e2 U1.out.size, fun k o ho => by simpa only [hk] using e3 k o ho⟩
    refine (made12_yes w1 g A n c ops hops s hr hn).mono ?_
    rintro r w2 ⟨p, bl, bv, lv, rb, rc, rfl, hM, hOk, hown, _, hb2⟩
    obtain ⟨l, hl⟩ : ∃ l, playL g ops = l := ⟨_, rfl⟩
    rw [hl] at hM hOk hown ⊢
    obtain ⟨V2, hV2⟩ : ∃ V2, (w2.alloc (s.box p)).alloc (.cells (refArr s g (.slice (some ⟨rb, 0, none⟩) l.length rc)) 55) = V2 := ⟨_, rfl⟩
    have b3 : Below w2.heap.size w2 V2 := by rw [← hV2]; exact (below_box _ _).alloc (by simp) _
    have y3 : Blk V2 w2.heap.size 53 (s.arr p) := by rw [← hV2]; exact (Blk.newAt rfl).alloc _
    have z3 : Blk V2 (w2.heap.size + 1) 55 (refArr s g (.slice (some ⟨rb, 0, none⟩) l.length rc)) := by rw [← hV2]; exact Blk.newAt (by simp)
    have RL := Lib.hid (own_grow hown b3).1
    have RB := Lib.hid (((own_grow hown b3).1.lt _ rfl).2)
    have M3 := Lib.hid (hM.grow b3)
    have U3 : Hid (Below w.heap.size w V2) := Lib.hid (U1.out.trans ((hb2.trans (b3.mono hb2.size)).mono U1.out.size))
    have I3 := Lib.hid ((Keeps.of_below (S := []) (hb2.trans (b3.mono hb2.size))).blk I1.out.lt (by simp) I1.out)
    have HOk := Lib.hid hOk
    have HY := Lib.hid y3
    obtain ⟨⟨c0, c1⟩, c2, c9⟩ := z3.rcells
    have clt := z3.lt
    obtain ⟨d3, d4, d5, d6, d7, d8⟩ : V2.cell? ⟨w2.heap.size + 1, 3, none⟩ = some (.int .i64 g.D) ∧ V2.cell? ⟨w2.heap.size + 1, 4, none⟩ = some (.int .i64 g.Z) ∧ V2.cell? ⟨w2.heap.size + 1, 5, none⟩ = some (.int .i64 g.S) ∧ V2.cell? ⟨w2.heap.size + 1, 6, none⟩ = some (.int .i64 g.B) ∧ V2.cell? ⟨w2.heap.size + 1, 7, none⟩ = some (.int .i64 g.P) ∧ V2.cell? ⟨w2.heap.size + 1, 8, none⟩ = some (.int .i64 g.O) :=
      ⟨by rw [z3.cell]; rfl, by rw [z3.cell]; rfl, by rw [z3.cell]; rfl, by rw [z3.cell]; rfl, by rw [z3.cell]; rfl, by rw [z3.cell]; rfl⟩
    clear hM hOk hb2 b3 hl hbad hops x0 x1 x2 x3 x4 x5 hr y3 z3 hown HO HU K0 I0 K1
    have hz := HOk.out.len1000
    go_wp2_with fail
    clear hV2
    cases hsr : s.right l with
    | false =>
      refine (ref12_right_v V2 s g rb rc l hz RB.out (fun _ _ he => own_ent RL.out he) _ hsr).mono ?_
      rintro r w3 ⟨rfl, hb3⟩
      go_wp2
      go_ret
      exact ⟨rfl, U3.out.trans (hb3.mono U3.out.size)⟩
    | true =>
      refine (ref12_right_v V2 s g rb rc l hz RB.out (fun _ _ he => own_ent RL.out he) _ hsr).mono ?_
      rintro r w3 ⟨rfl, hb3⟩
      have A4 : Hid (SnA w g l lv s p bl bv w2.heap.size N1 blk ent w3) := Lib.hid (SnA.grow ⟨M3.out, HY.out, I3.out, U3.out⟩ hb3)
      have hrt := HOk.out.right
      have hb1' := (G.small_of_right hrt).B1
      have hall := (G.small_of_right hrt).all_le
      have hS0 := (G.small_of_right hrt).S0
      have hD0 := (G.small_of_right hrt).D0
      have hZ0 := (G.small_of_right hrt).Z0
      have hB0 := (G.small_of_right hrt).B0
      have hgall : 1 ≤ g.all := by have := (G.holds_range (holds00 hrt)).2; omega
      have l1 : 1 ≤ l.length := by have := HOk.out.len; omega
      have lv1 : 1 ≤ lv.length := by have := HOk.out.lvlen; omega
      have lv2 : lv.length ≤ 1000 := by have := HOk.out.lvlen; omega
      have L := Lib.hid (And.intro l1 (And.intro lv1 lv2))
      obtain ⟨⟨y0, y1⟩, y2, y3⟩ := A4.out.y.scells
      have lt4 := Lib.hid (And.intro A4.out.m.lt (And.intro A4.out.y.lt (And.intro A4.out.i.lt A4.out.u.size)))
      clear hb3 c0 c1 c2 c9 clt d3 d4 d5 d6 d7 d8 hrt hb1' hall hS0 hD0 hZ0 hB0 hgall l1 lv1 lv2 RL RB M3 U3 I3 HY I1 U1
      go_wp2_with fail
      refine (map_copy w3 p bl bv g l lv A4.out.m L.out.1 hz L.out.2.1 L.out.2.2).mono ?_
      rintro r w4 ⟨hb4, p', bl', bv', rfl, hM', np, nl, nv⟩
      have A5 := Lib.hid (A4.out.grow (hb4.trans ((below_box w4 (s.box p')).mono hb4.size)))
      have M5 := Lib.hid (hM'.grow (below_box w4 (s.box p')))
      have N5 := Lib.hid (And.intro hM'.lt (And.intro nl nv))
      obtain ⟨V5, hV5⟩ : ∃ V5, w4.alloc (s.box p') = V5 := ⟨_, rfl⟩
      have Z5 : Hid (Blk V5 w4.heap.size 53 (s.arr p')) := Lib.hid (by rw [← hV5]; exact Blk.newAt rfl)
      rw [hV5] at A5 M5
      clear y0 y1 y2 y3 hb4 hM' np nl nv A4
      obtain ⟨⟨y0, y1⟩, y2, y3⟩ := A5.out.y.scells
      obtain ⟨⟨i0, i1, i2⟩, ⟨i3, i4⟩, i5, i6⟩ := A5.out.i.icells
      go_wp2_with fail
      clear hV5
      refine (map_getE V5 p bl bv g l lv A5.out.m blk).mono ?_
      rintro r w5 ⟨rfl, hb5⟩
      obtain ⟨was, hwas⟩ : ∃ x, x = getE l blk := ⟨_, rfl⟩
      rw [← hwas]
      have hb6 : Below V5.heap.size V5 (w5.alloc was.box) := hb5.trans ((below_box w5 was.box).mono hb5.size)
      obtain ⟨V6, hV6⟩ : ∃ V6, w5.alloc was.box = V6 := ⟨_, rfl⟩
      rw [hV6] at hb6
      have A6 := Lib.hid (A5.out.grow hb6)
      have M6 := Lib.hid (M5.out.grow hb6)
      have Z6 := Lib.hid ((Keeps.of_below (S := []) hb6).blk Z5.out.lt (by simp) Z5.out)
      have E6 : Hid (Blk V6 w5.heap.size 31 was.arr) := Lib.hid (by rw [← hV6]; exact Blk.newAt rfl)
      have S6 := Lib.hid (And.intro hb5.size Z5.out.lt)
      have HW := Lib.hid hwas
      clear y0 y1 y2 y3 i0 i1 i2 i3 i4 i5 i6 hb5 hb6 A5 M5 Z5 hwas
      obtain ⟨⟨y0, y1⟩, y2, y3⟩ := Z6.out.scells
      obtain ⟨⟨i0, i1, i2⟩, ⟨i3, i4⟩, i5, i6⟩ := A6.out.i.icells
      go_wp2_with fail
      clear hV6
      refine (map_set V6 p' bl' bv' g l lv M6.out HOk.out blk ent).mono ?_
      rintro r w6 ⟨rfl, hM6, hk6⟩
      obtain ⟨l', hl'⟩ : ∃ x, x = setL g l blk ent := ⟨_, rfl⟩
      obtain ⟨lv', hlv'⟩ : ∃ x, x = setV g l lv blk ent := ⟨_, rfl⟩
      have OK' := Lib.hid (HOk.out.setv blk ent)
      rw [← hl', ← hlv'] at hM6 OK'
      have A7 : Hid (SnA w g l lv s p bl bv w2.heap.size N1 blk ent w6) := Lib.hid (A6.out.keeps hk6 (B := w3.heap.size) lt4.out.2.2.2 ⟨lt4.out.1.1, lt4.out.1.2.1, lt4.out.1.2.2, lt4.out.2.1, lt4.out.2.2.1⟩ N5.out.2)
      have Z7 := Lib.hid (hk6.blk Z6.out.lt (by have := N5.out.1; simp; omega) Z6.out)
      have E7 := Lib.hid (hk6.blk E6.out.lt (by have := N5.out.1; have := S6.out; simp; omega) E6.out)
      have M7 := Lib.hid hM6
      have HL := Lib.hid hl'
      clear y0 y1 y2 y3 i0 i1 i2 i3 i4 i5 i6 hk6 hM6 A6 M6 Z6 E6 hl' hlv'
      obtain ⟨⟨y0, y1⟩, y2, y3⟩ := Z7.out.scells
      obtain ⟨⟨i0, i1, i2⟩, ⟨i3, i4⟩, i5, i6⟩ := A7.out.i.icells
      go_wp2_with fail
      refine (map_getE w6 p' bl' bv' g l' lv' M7.out blk).mono ?_
      rintro r w7 ⟨rfl, hb7⟩
      obtain ⟨now, hnow⟩ : ∃ x, x = getE l' blk := ⟨_, rfl⟩
      rw [← hnow]
      have hb8 : Below w6.heap.size w6 (w7.alloc now.box) := hb7.trans ((below_box w7 now.box).mono hb7.size)
      obtain ⟨V8, hV8⟩ : ∃ V8, w7.alloc now.box = V8 := ⟨_, rfl⟩
      rw [hV8] at hb8
      have A8 := Lib.hid (A7.out.grow hb8)
      have M8 := Lib.hid (M7.out.grow hb8)
      have Z8 := Lib.hid ((Keeps.of_below (S := []) hb8).blk Z7.out.lt (by simp) Z7.out)
      have E8 := Lib.hid ((Keeps.of_below (S := []) hb8).blk E7.out.lt (by simp) E7.out)
      have F8 : Hid (Blk V8 w7.heap.size 31 now.arr) := Lib.hid (by rw [← hV8]; exact Blk.newAt rfl)
      have HN := Lib.hid hnow
      clear y0 y1 y2 y3 i0 i1 i2 i3 i4 i5 i6 hb7 hb8 A7 M7 Z7 E7 hnow
      obtain ⟨⟨y0, y1⟩, y2, y3⟩ := Z8.out.scells
      go_wp2_with fail
      clear hV8
      cases hsr' : s.right l' with
      | false =>
        have hd : decide (frOpt s g l = frOpt s g l') = false := by unfold frOpt; rw [hsr, hsr']; simp
        refine (snap_right_v V8 p' bl' bv' g l' lv' s M8.out OK'.out.len1000 _ hsr').mono ?_
        rintro r w9 ⟨rfl, hb9⟩
        have A9 := Lib.hid (A8.out.grow hb9)
        have M9 := Lib.hid (M8.out.grow hb9)
        have Z9 := Lib.hid ((Keeps.of_below (S := []) hb9).blk Z8.out.lt (by simp) Z8.out)
        clear y0 y1 y2 y3 hb9
        obtain ⟨⟨y0, y1⟩, y2, y3⟩ := A9.out.y.scells
        obtain ⟨⟨z0, z1⟩, z2, z3⟩ := Z9.out.scells
        go_wp2_with fail
        refine (snap_same_v w9 p bl bv g l lv s A9.out.m HOk.out p' bl' bv' g l' lv' s M9.out OK'.out _ hd).mono ?_
        rintro r w10 ⟨rfl, hb10⟩
        go_wp2
        go_ret
        exact ⟨rfl, A9.out.u.trans (hb10.mono A9.out.u.size)⟩
      | true =>
        refine (snap_right_v V8 p' bl' bv' g l' lv' s M8.out OK'.out.len1000 _ hsr').mono ?_
        rintro r w9 ⟨rfl, hb9⟩
        have A9 := Lib.hid (A8.out.grow hb9)
        have M9 := Lib.hid (M8.out.grow hb9)
        have Z9 := Lib.hid ((Keeps.of_below (S := []) hb9).blk Z8.out.lt (by simp) Z8.out)
        have E9 := Lib.hid ((Keeps.of_below (S := []) hb9).blk E8.out.lt (by simp) E8.out)
        have F9 := Lib.hid ((Keeps.of_below (S := []) hb9).blk F8.out.lt (by simp) F8.out)
        have hg := (HOk.out.sn hsr).nums.1
        have hx := xor_one_ne s.gen hg.1 hg.2
        obtain ⟨x, hxx⟩ : ∃ x, bits .xor .i64 s.gen 1 = x := ⟨_, rfl⟩
        obtain ⟨N10, hN10⟩ : ∃ N, w9.heap.size = N := ⟨_, rfl⟩
        obtain ⟨V10, hV10⟩ : ∃ V, w9.alloc (.cells #[.int .i64 x, .int .i64 s.ep, .int .i64 s.nx, .pointer (some ⟨p, 0, none⟩)] 53) = V := ⟨_, rfl⟩
        have hb10 : Below w9.heap.size w9 V10 := by rw [← hV10]; exact below_box _ _
        have A10 := Lib.hid (A9.out.grow hb10)
        have M10 := Lib.hid (M9.out.grow hb10)
        have Z10 := (Keeps.of_below (S := []) hb10).blk Z9.out.lt (by simp) Z9.out
        have E10 := (Keeps.of_below (S := []) hb10).blk E9.out.lt (by simp) E9.out
        have F10 := (Keeps.of_below (S := []) hb10).blk F9.out.lt (by simp) F9.out
        have C10 : Blk V10 N10 53 (Sn.arr ⟨x, s.ep, s.nx⟩ p) := by rw [← hV10, ← hN10]; exact Blk.newAt rfl
        have hxs : x ≠ s.gen := hxx ▸ hx
        -- what the three calls answer
        have hd1 : decide (frOpt s g l = frOpt s g l') = decide (was = now) := by
          rw [decide_eq_decide, frOpt_iff HOk.out OK'.out hsr hsr', HW.out, HN.out, HL.out, getE_set]
          exact ⟨fun h => h.2.symm, fun h => ⟨rfl, h.symm⟩⟩
        have hd3 : decide (frOpt s g l = frOpt ⟨x, s.ep, s.nx⟩ g l) = false := by
          rw [decide_eq_false_iff_not]
          intro h
          cases hc : Sn.right ⟨x, s.ep, s.nx⟩ l with
          | false => unfold frOpt at h; rw [hsr, hc] at h; simp at h
          | true => exact hxs (congrArg Sn.gen ((frOpt_iff HOk.out HOk.out hsr hc).1 h).1).symm
        obtain ⟨t, ht⟩ : ∃ t, decide (was = now) = t := ⟨_, rfl⟩
        have HS1 := Lib.hid (fun W (k : Below V10.heap.size V10 W) => snap_same_v W p bl bv g l lv s (A10.out.m.grow k) HOk.out p' bl' bv' g l' lv' s (M10.out.grow k) OK'.out t (hd1.trans ht))
        have HS2 := Lib.hid (fun W (k : Below V10.heap.size V10 W) => snap_same_v W p bl bv g l lv s (A10.out.m.grow k) HOk.out p bl bv g l lv s (A10.out.m.grow k) HOk.out true (by simp))
        have HS3 := Lib.hid (fun W (k : Below V10.heap.size V10 W) => snap_same_v W p bl bv g l lv s (A10.out.m.grow k) HOk.out p bl bv g l lv ⟨x, s.ep, s.nx⟩ (A10.out.m.grow k) HOk.out false hd3)
        have heq : ∀ W, (Op.equalIn 10000 31 was.v now.v).run Try.prog W = .ok t W := fun W => ht ▸ ent_eq was now W
        have hV10' := Lib.hid hV10
        clear hd1 hd3 hxs hx hV10 y0 y1 y2 y3
        obtain ⟨⟨y0, y1⟩, y2, y3⟩ := A9.out.y.scells
        go_wp2_with fail
        rw [hV10'.out]
        clear y0 y1 y2 y3
        obtain ⟨⟨y0, y1⟩, y2, y3⟩ := A10.out.y.scells
        obtain ⟨⟨z0, z1⟩, z2, z3⟩ := Z10.scells
        obtain ⟨⟨c0, c1⟩, c2, c3⟩ := C10.scells
        obtain ⟨⟨e0, e1, e2⟩, e3, e4, e5⟩ := E10.ent
        obtain ⟨⟨f0, f1, f2⟩, f3, f4, f5⟩ := F10.ent
        have q1 := A10.out.y.lt
        have q2 := Z10.lt
        have q3 := C10.lt
        have q4 := E10.lt
        have q5 := F10.lt
        have hfrom := @From.cell V10
        clear hb10 Z10 E10 F10 C10 hN10 ht
        by_cases hlt : x < 1
        · refine region_from (by kernel_rfl) (by kernel_rfl) ?_
          repeat (go_big_quiet_step (fail))
          go_big_quiet_step ((go_at_call 45; exact from_call (HS1.out _ (From.below _))))
          repeat (go_big_quiet_step (fail))
          go_big_quiet_step ((go_at_call 45; exact from_call (HS2.out _ (From.below _))))
          repeat (go_big_quiet_step (fail))
          refine wpQuiet_nil ?_
          intro W hW
          go_wp2
          go_ret
          exact ⟨rfl, A10.out.u.trans (hW.mono A10.out.u.size)⟩
        · refine region_from (by kernel_rfl) (by kernel_rfl) ?_
          repeat (go_big_quiet_step (fail))
          go_big_quiet_step ((go_at_call 45; exact from_call (HS1.out _ (From.below _))))
          repeat (go_big_quiet_step (fail))
          go_big_quiet_step ((go_at_call 45; exact from_call (HS2.out _ (From.below _))))
          repeat (go_big_quiet_step (fail))
          go_big_quiet_step ((go_at_call 45; exact from_call (HS3.out _ (From.below _))))
          repeat (go_big_quiet_step (fail))
          refine wpQuiet_nil ?_
          intro W hW
          go_wp2
          go_ret
          exact ⟨rfl, A10.out.u.trans (hW.mono A10.out.u.size)⟩
end Go.Proofs.Ytcgafnmpfdkfoaa
