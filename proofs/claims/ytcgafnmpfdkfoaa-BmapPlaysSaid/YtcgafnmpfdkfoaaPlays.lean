/- Law BmapPlays: the walk. -/
import Derived.Test.YtcgafnmpfdkfoaaSame
import Derived.Test.YtcgafnmpfdkfoaaRef5
import Derived.Test.YtcgafnmpfdkfoaaSums2
import Derived.Test.YtcgafnmpfdkfoaaEnt3
namespace Go.Proofs.Ytcgafnmpfdkfoaa
open Go.RowKit

theorem info_refE : (Try.prog.info? 46).map (fun i => (i.zero, i.size, i.bytes)) = some (some E0.v, 6, 48) := by kernel_rfl
theorem make_refs (n : Int) (h0 : 0 ≤ n) (h1 : n ≤ 100000) : ∀ W : World, (Instr.makeSlice 44 (.int .i64 n) (.int .i64 n)).run Try.prog W = .ok (.slice (some ⟨W.heap.size, 0, none⟩) n.toNat n.toNat) (W.alloc (.cells (made6 n.toNat) 46)) := by
  intro W
  obtain ⟨i0, hi, hz0, hz1, hz2⟩ := info_parts info_refE
  have := run_make_rowN (P := Try.prog) 44 46 i0 E0.v Try.underlying44 hi hz0 .i64 .i64 n.toNat n.toNat (Nat.le_refl _) (by rw [hz2]; omega) (by omega) W
  rw [hz1, Int.toNat_of_nonneg h0] at this
  exact this
/-- A list of the reference's entries, in a block of its own. -/
def RefL (w : World) (b c : Nat) (l : List E) : Prop := w.ownsRow 0 46 6 (.slice (some ⟨b, 0, none⟩) l.length c) l.length (flat l)
theorem RefL.made {w : World} {b : Nat} {g : G} (hs : g.Small) (h : Blk w b 46 (made6 g.B.toNat)) : RefL w b g.B.toNat (nones g) := by
  have h1 := hs.B1
  have e1 : (nones g).length = g.B.toNat := by simp [nones]
  unfold RefL
  rw [e1]
  refine own_blk h (Nat.zero_le _) (Nat.le_refl _) (by unfold maxLen; omega) (by simp [made6, madeCells]) (by rw [flat_length, e1]) ?_
  rw [made6_list, List.take_of_length_le (by rw [flat_length]; simp)]
  rfl
theorem RefL.lt {w : World} {b c : Nat} {l : List E} (h : RefL w b c l) : b < w.heap.size := (World.ownsRow.lt h _ rfl).2
theorem RefL.keeps {B : Nat} {S : List Nat} {w w1 : World} {b c : Nat} {l : List E} (k : Keeps B S w w1) (hb : b < B) (hn : b ∉ S) (h : RefL w b c l) : RefL w1 b c l := own_keeps k hb hn h
theorem RefL.ents {w : World} {b c : Nat} {l : List E} (h : RefL w b c l) : ∀ i e, l[i]? = some e → EntReads w b i e := fun _ _ he => own_ent h he

theorem appended_ref {w w1 : World} {l : List E} {v' : Value} {N : Nat} (hN : l.length = N) (h1 : 1 ≤ N) (hown : w1.ownsRow w.heap.size 46 6 v' (0 + N) ([] ++ flat l)) (hgrow : (w.alloc (.cells #[] 46)).grownBy w1 (Value.slice (some ⟨w.heap.size, 0, none⟩) 0 0).ownBlock) :
    Below w.heap.size w w1 ∧ ∃ g' c', v' = .slice (some ⟨g', 0, none⟩) N c' ∧ RefL w1 g' c' l ∧ w.heap.size ≤ g' := by
  subst hN
  refine ⟨(below_box w _).grown hgrow (by simp) (fun k e => by cases e; exact Nat.le_refl _), ?_⟩
  obtain ⟨g', c', rfl⟩ : ∃ g' c', v' = .slice (some ⟨g', 0, none⟩) l.length c' := by
    rcases hown.2 with h' | ⟨g', c', _, h', _⟩
    · exact absurd h'.2 (by omega)
    · exact ⟨g', c', by rw [h', Nat.zero_add]⟩
  rw [Nat.zero_add, List.nil_append] at hown
  obtain ⟨a1, a2, a3⟩ := own_grow hown (Below.refl _ _)
  exact ⟨g', c', rfl, a1, a2⟩
theorem RefL.ne_map {w : World} {p bl bv : Nat} {g : G} {l l' : List E} {lv : List Int} {b c : Nat} (h : RefL w b c l) (hM : MapAt w p bl bv g l' lv) : b ≠ bl ∧ b ≠ bv := by
  obtain ⟨cs, h0, _⟩ := own_is h
  obtain ⟨cl, cv, _, h1, h2⟩ := hM
  obtain ⟨c1, k1, _⟩ := own_is h1
  obtain ⟨c2, k2, _⟩ := own_is h2
  exact ⟨h0.ne_ k1 (by decide), h0.ne_ k2 (by decide)⟩
theorem Blk.ne_map {w : World} {p bl bv : Nat} {g : G} {l' : List E} {lv : List Int} {b : Nat} {t : TypeId} {cs : Array Value} (h0 : Blk w b t cs) (hM : MapAt w p bl bv g l' lv) (ht : t ≠ 31 ∧ t ≠ 3) : b ≠ bl ∧ b ≠ bv := by
  obtain ⟨cl, cv, _, h1, h2⟩ := hM
  obtain ⟨c1, k1, _⟩ := own_is h1
  obtain ⟨c2, k2, _⟩ := own_is h2
  exact ⟨h0.ne_ k1 ht.1, h0.ne_ k2 ht.2⟩
theorem RefL.ne_ptr {w : World} {p bl bv : Nat} {g : G} {l l' : List E} {lv : List Int} {b c : Nat} (h : RefL w b c l) (hM : MapAt w p bl bv g l' lv) : b ≠ p := by
  obtain ⟨cs, h0, _⟩ := own_is h
  obtain ⟨cl, cv, h1, _, _⟩ := hM
  exact h0.ne_ h1 (by decide)
theorem RefL.put {w : World} {b c : Nat} {l : List E} (h : RefL w b c l) (i : Nat) (e : E) (hi : i < l.length) : RefL (World.putEnt w b i e) b c (l.set i e) ∧ Keeps w.heap.size [b] w (World.putEnt w b i e) := by
  have k : Keeps w.heap.size [b] w (World.putEnt w b i e) := (((((((Keeps.refl _ _ _).setCell _ _ (.inl (by simp))).setCell _ _ (.inl (by simp))).setCell _ _ (.inl (by simp))).setCell _ _ (.inl (by simp))).setCell _ _ (.inl (by simp))).setCell _ _ (.inl (by simp)))
  have hs := (((((((World.ownsRow.stored h (i * 6) (.int .i64 e.st)).1.stored (i * 6 + 1) (.int .i64 e.zn)).1.stored (i * 6 + 2) (.int .i64 e.mt)).1.stored (i * 6 + 3) (.int .i64 e.off)).1.stored (i * 6 + 4) (.int .i64 e.sq)).1.stored (i * 6 + 5) (.int .i64 e.sm)).1)
  rw [flat_set l i e hi] at hs
  refine ⟨?_, k⟩
  unfold RefL
  rw [List.length_set]
  exact hs
theorem same_true' (w : World) (p bl bv : Nat) (g : G) (l : List E) (lv : List Int) (hM : MapAt w p bl bv g l lv) (hO : MapOk g l lv) (b c N : Nat) (hL : RefL w b c l) (hN : l.length = N) (z : Int) :
    Calls Try.prog 36 #[.pointer (some ⟨p, 0, none⟩), .slice (some ⟨b, 0, none⟩) N c, .int .i64 z] w fun r w' => r = .returned (.bool true) ∧ Below w.heap.size w w' := by
  subst hN
  exact same_true w p bl bv g l lv hM hO b c hL.lt hL.ents z

set_option maxRecDepth 100000 in
set_option maxHeartbeats 4000000 in
theorem plays_walk (w : World) (g : G) (A : Option Addr) (n c : Nat) (ops : List Op11) (h : OpsAt w A n c ops) (block zone : Int) :
    Calls Try.prog 5 #[g.v, .slice A n c, .int .i64 block, .int .i64 zone] w fun r w' => r = .returned (.bool true) ∧ Below w.heap.size w w' := by
  obtain ⟨hn, hc, hm, hcell⟩ := h
  have hm2 : n ≤ 9223372036854775807 := by unfold maxLen at hm; omega
  have HN := Lib.hid hn
  have HC := Lib.hid hcell
  clear hn hcell hc hm
  go_enter Try.func5, Try.ntmps5
  go_wp2_with fail
  refine (anchor11 _).mono ?_
  rintro r w1 ⟨rfl, hb⟩
  obtain ⟨hcc, hff⟩ := bcell hb
  have hz : w.heap.size < w1.heap.size := by have := hb.size; simp at this; omega
  have X1 : Hid (Blk w1 w.heap.size 23 #[.int .i64 g.D, .int .i64 g.Z, .int .i64 g.S, .int .i64 g.B, .int .i64 g.P, .int .i64 g.O]) :=
    (Keeps.of_below (S := []) hb).blk (by simp) (by simp) (Blk.newAt rfl)
  have HB1 : Hid (Below w.heap.size w w1) := below_then (below_box w _) (by simp) hb
  by_cases hlong : 60 < n
  · go_wp2
    go_ret
    exact ⟨rfl, HB1.out⟩
  · have hshort : n ≤ 60 := by omega
    clear hlong
    go_wp2_with fail
    cases hr : g.right with
    | false =>
      refine (map_new_no g _ hr).mono ?_
      rintro r w2 ⟨rfl, hb2⟩
      have X2 := (Keeps.of_below (S := []) hb2).blk hz (by simp) X1.out
      obtain ⟨⟨x0, x1, x2⟩, x3, x4, x5⟩ := X2.geo
      have z2 : w.heap.size < w2.heap.size := by have := hb2.size; omega
      have HR := Lib.hid (ref_right g (w2.alloc g.rbox))
      rw [hr] at HR
      clear hcc hff hb X2
      go_wp2_with fail
      refine HR.out.mono ?_
      rintro r w3 ⟨rfl, hb3⟩
      go_wp2
      go_ret
      exact ⟨rfl, HB1.out.trans ((hb2.mono (by omega)).trans (((below_box w2 _).mono (by omega)).trans (hb3.mono (by simp; omega))))⟩
    | true =>
      refine (map_new_yes g _ hr).mono ?_
      rintro r w2 ⟨p, bl, bv, rfl, ⟨n1, n2, n3⟩, hM, hb2⟩
      have X2 := (Keeps.of_below (S := []) hb2).blk hz (by simp) X1.out
      obtain ⟨⟨x0, x1, x2⟩, x3, x4, x5⟩ := X2.geo
      have z2 : w.heap.size < w2.heap.size := by have := hb2.size; omega
      have HR := Lib.hid (ref_right g (w2.alloc g.rbox))
      rw [hr] at HR
      have HM := Lib.hid hM
      have HX2 := Lib.hid X2
      clear hcc hff hb X2 hM
      go_wp2_with fail
      refine HR.out.mono ?_
      rintro r w3 ⟨rfl, hb3⟩
      have hb3' : Below w2.heap.size w2 w3 := (below_box w2 _).trans (hb3.mono (by simp))
      have R3 : Blk w3 w2.heap.size 42 #[.int .i64 g.D, .int .i64 g.Z, .int .i64 g.S, .int .i64 g.B, .int .i64 g.P, .int .i64 g.O] := (Keeps.of_below (S := []) hb3).blk (by simp) (by simp) (Blk.newAt rfl)
      have X3 := (Keeps.of_below (S := []) hb3').blk z2 (by simp) HX2.out
      have M3 := HM.out.grow hb3'
      have z3 : w2.heap.size < w3.heap.size := by have := hb3.size; simp at this; omega
      have z3' : w.heap.size < w3.heap.size := by omega
      have HB3 : Hid (Below w.heap.size w w3) := HB1.out.trans ((hb2.trans (hb3'.mono hb2.size)).mono (by omega))
      have HS := Lib.hid (G.small_of_right hr)
      obtain ⟨⟨x0, x1, x2⟩, x3, x4, x5⟩ := X3.geo
      have HM3 := Lib.hid M3
      have HX3 := Lib.hid X3
      have HR3 := Lib.hid R3
      have hfrom := @From.cell w3
      clear hb2 hb3 hb3' R3 X3 M3 HM HX2 HR X1 HB1
      go_wp2_with fail
      refine region_from (by kernel_rfl) (by kernel_rfl) ?_
      repeat (go_big_quiet_step ((first | (go_at_call 32; exact from_call (map_geom _ p bl bv g _ _ (MapAt.from HM3.out _))))))
      refine wpQuiet_nil ?_
      intro w4 hb4
      obtain ⟨hcc, hff⟩ := bcell hb4
      have b0 : 0 ≤ g.B := by have := HS.out.B0; omega
      have b1 : g.B ≤ 100000 := by have := HS.out.B1; omega
      have hm1 := make_refs g.B b0 b1
      have z4 : w.heap.size < w4.heap.size := by have := hb4.size; omega
      have HL : Hid (RefL (w4.alloc (.cells (made6 g.B.toNat) 46)) w4.heap.size g.B.toNat (nones g)) := RefL.made HS.out (Blk.newAt rfl)
      have hb5 : Below w3.heap.size w3 (w4.alloc (.cells (made6 g.B.toNat) 46)) := hb4.alloc hb4.size _
      have HM5 := Lib.hid (HM3.out.grow hb5)
      have HX5 := Lib.hid ((Keeps.of_below (S := []) hb5).blk z3' (by simp) HX3.out)
      have HR5 := Lib.hid ((Keeps.of_below (S := []) hb5).blk z3 (by simp) HR3.out)
      have HB5 : Hid (Below w.heap.size w (w4.alloc (.cells (made6 g.B.toNat) 46))) := HB3.out.trans (hb5.mono (by omega))
      have hzz : Hid (w2.heap.size < w3.heap.size ∧ w3.heap.size ≤ w4.heap.size) := Lib.hid ⟨z3, hb4.size⟩
      clear hb4 hb5 HM3 HX3 HR3 HB3 hfrom
      go_wp2
      go_loopw [59] (fun i wr => ∃ (k : Nat) (l : List E) (lv : List Int), k ≤ n ∧ i = .int .i64 k ∧ MapAt wr p bl bv g l lv ∧ MapOk g l lv ∧ RefL wr w4.heap.size g.B.toNat l ∧ Below w.heap.size w wr ∧ Blk wr w.heap.size 23 #[.int .i64 g.D, .int .i64 g.Z, .int .i64 g.S, .int .i64 g.B, .int .i64 g.P, .int .i64 g.O] ∧ Blk wr w2.heap.size 42 #[.int .i64 g.D, .int .i64 g.Z, .int .i64 g.S, .int .i64 g.B, .int .i64 g.P, .int .i64 g.O]) (fun i _ => n - (intOf i).toNat)
      case atStart => exact ⟨0, _, _, Nat.zero_le _, rfl, HM5.out, MapOk.new hr, HL.out, HB5.out, HX5.out, HR5.out⟩
      case round =>
        obtain ⟨k, l, lv, hk, rfl, hM, hO, hL, hB, hX, hR⟩ := hrel
        have hlen : l.length = g.B.toNat := by have := hO.len; omega
        have hlv : 3 ≤ lv.length ∧ lv.length ≤ 512 := by have := hO.lvlen; have := HS.out.all_le; omega
        have hB0 : 1 ≤ g.B.toNat ∧ g.B.toNat ≤ 256 := by have := HS.out.B0; have := HS.out.B1; omega
        by_cases hlt : k < n
        · obtain ⟨o, ho⟩ : ∃ o, ops[k]? = some o := ⟨_, List.getElem?_eq_getElem (by rw [HN.out]; exact hlt)⟩
          obtain ⟨b, off, hA, hbl, hcs⟩ := HC.out (by omega)
          obtain ⟨c0, c1, c2, c3, c4, c5, c6⟩ := hcs k o ho
          subst hA
          have hcw : ∀ j, wr.cell? ⟨b, j, none⟩ = w.cell? ⟨b, j, none⟩ := fun j => hB.cell (p := ⟨b, j, none⟩) hbl
          rw [← hcw] at c0 c1 c2 c3 c4 c5 c6
          have hM' := Lib.hid hM
          have hO' := Lib.hid hO
          have hL' := Lib.hid hL
          have hB' := Lib.hid hB
          have hX' := Lib.hid hX
          have hR' := Lib.hid hR
          have Hlen := Lib.hid hlen
          have Hlv := Lib.hid hlv
          have HB0 := Lib.hid hB0
          clear hcs ho hcw hM hO hL hB hX hR hlen hlv hB0 hm1
          go_wp2_with fail
          refine (map_copy _ p bl bv g l lv (hM'.out.grow (below_box _ _)) (by rw [Hlen.out]; exact HB0.out.1) (by rw [Hlen.out]; have := HB0.out.2; omega) (by have := Hlv.out; omega) (by have := Hlv.out; omega)).mono ?_
          rintro r w5 ⟨hb5, p', bl', bv', rfl, hMc, q1, q2, q3⟩
          have z5 : wr.heap.size < w5.heap.size := by have := hb5.size; simp at this; omega
          have O5 : Blk w5 wr.heap.size 33 #[.int .i64 o.b, .int .i64 o.e.st, .int .i64 o.e.zn, .int .i64 o.e.mt, .int .i64 o.e.off, .int .i64 o.e.sq, .int .i64 o.e.sm] := (Keeps.of_below (S := []) hb5).blk (by simp) (by simp) (Blk.newAt rfl)
          have hb5' : Below wr.heap.size wr w5 := (below_box wr _).trans (hb5.mono (by simp))
          have L5 : RefL w5 w4.heap.size g.B.toNat l := hL'.out.keeps (Keeps.of_below (S := []) hb5') hL'.out.lt (by simp)
          have hx : ∀ j u, (flat l)[j]? = some u → (w5.alloc (.cells #[] 46)).cell? ((⟨w4.heap.size, 0, none⟩ : Addr).add j) = some u := by
            intro j u hu
            have hj := (List.getElem?_eq_some_iff.1 hu).1
            rw [flat_length] at hj
            rw [Addr.add_nat_zero, (below_box w5 _).cell (p := ⟨w4.heap.size, j, none⟩) L5.lt, World.ownsRow.cellAt L5 j (by omega)]
            exact hu
          have h0 := own_nil (size := 6) (Blk.new_ w5 #[] 46) w5.heap.size (Nat.le_refl _)
          have one := flat_one l
          have len : (flat l).length = g.B.toNat * 6 := by rw [flat_length, Hlen.out]
          have bnd := HB0.out.2
          obtain ⟨i0, hi, hz0, hz1, hz2⟩ := info_parts info_refE
          have o0 : w5.cell? ⟨wr.heap.size, 0, none⟩ = some (.int .i64 o.b) := by rw [O5.cell]; rfl
          have o1 : w5.cell? ⟨wr.heap.size, 1, none⟩ = some (.int .i64 o.e.st) := by rw [O5.cell]; rfl
          have o2 : w5.cell? ⟨wr.heap.size, 2, none⟩ = some (.int .i64 o.e.zn) := by rw [O5.cell]; rfl
          have o3 : w5.cell? ⟨wr.heap.size, 3, none⟩ = some (.int .i64 o.e.mt) := by rw [O5.cell]; rfl
          have o4 : w5.cell? ⟨wr.heap.size, 4, none⟩ = some (.int .i64 o.e.off) := by rw [O5.cell]; rfl
          have o5 : w5.cell? ⟨wr.heap.size, 5, none⟩ = some (.int .i64 o.e.sq) := by rw [O5.cell]; rfl
          have o6 : w5.cell? ⟨wr.heap.size, 6, none⟩ = some (.int .i64 o.e.sm) := by rw [O5.cell]; rfl
          have HMc := Lib.hid hMc
          have HO5 := Lib.hid O5
          have HL5 := Lib.hid L5
          have HQ := Lib.hid (And.intro q1 (And.intro q2 q3))
          have Hb5 := Lib.hid hb5'
          clear hMc O5 L5 q1 q2 q3 hb5' hb5 c0 c1 c2 c3 c4 c5 c6
          go_wp2_with (at_builtin; refine wpList_append_own _ rfl _ _ 44 rfl w5.heap.size 46 i0 E0.v 6 48 Try.underlying44 hi hz0 hz1 hz2 rfl (by omega) _ 0 [] rfl h0 ⟨w4.heap.size, 0, none⟩ g.B.toNat g.B.toNat (flat l) rfl len hx one (by unfold maxLen; omega) (by omega) (by simp) ?_; intro v' w6 hown' hgrow hnil; obtain ⟨hb6, g6, c6, rfl, hL6, hg6⟩ := appended_ref Hlen.out HB0.out.1 hown' hgrow; obtain ⟨hcc6, hff6⟩ := bcell hb6; clear hown' hgrow hnil; have z6 := hb6.size; have z6' : wr.heap.size < w6.heap.size := by omega)
          have hzr := hB'.out.size
          have Hb6 : Hid (Below wr.heap.size wr w6) := Hb5.out.trans (hb6.mono Hb5.out.size)
          have M6 := hM'.out.grow Hb6.out
          have X6 := (Keeps.of_below (S := []) Hb6.out).blk hX'.out.lt (by simp) hX'.out
          have R6 := (Keeps.of_below (S := []) Hb6.out).blk hR'.out.lt (by simp) hR'.out
          have L6 : RefL w6 w4.heap.size g.B.toNat l := hL'.out.keeps (Keeps.of_below (S := []) Hb6.out) hL'.out.lt (by simp)
          have O6 := (Keeps.of_below (S := []) hb6).blk HO5.out.lt (by simp) HO5.out
          have C6 := HMc.out.grow hb6
          have lM := hM'.out.lt
          have nX := X6.ne_map M6 (by decide)
          have nR := R6.ne_map M6 (by decide)
          have nL := L6.ne_map M6
          refine (map_set w6 p bl bv g l lv M6 hO'.out o.b o.e).mono ?_
          rintro r w7 ⟨rfl, hM7, hK7⟩
          have z7 := hK7.size
          have X7 := hK7.blk X6.lt (by simp; exact nX) X6
          have R7 := hK7.blk R6.lt (by simp; exact nR) R6
          have O7 := hK7.blk O6.lt (by simp; omega) O6
          have L7 := L6.keeps hK7 L6.lt (by simp; exact nL)
          have W7 := hL6.keeps hK7 hL6.lt (by simp; omega)
          have HQ' := HQ.out
          have C7 := C6.keeps hK7 ⟨C6.lt.1, by simp; simp at HQ'; omega⟩ ⟨C6.lt.2.1, by simp; simp at HQ'; omega⟩ ⟨C6.lt.2.2, by simp; simp at HQ'; omega⟩
          have B7 : Below w.heap.size w w7 := (hB'.out.trans (Hb6.out.mono hzr)).trans (Keeps.below (hK7.mono (by have := Hb6.out.size; omega) (fun i hi => hi)) (by
            simp
            omega))
          have oc : ∀ W, Below w7.heap.size w7 W → (W.cell? ⟨wr.heap.size, 0, none⟩ = some (.int .i64 o.b) ∧ W.cell? ⟨wr.heap.size, 1, none⟩ = some (.int .i64 o.e.st) ∧ W.cell? ⟨wr.heap.size, 2, none⟩ = some (.int .i64 o.e.zn) ∧ W.cell? ⟨wr.heap.size, 3, none⟩ = some (.int .i64 o.e.mt) ∧ W.cell? ⟨wr.heap.size, 4, none⟩ = some (.int .i64 o.e.off) ∧ W.cell? ⟨wr.heap.size, 5, none⟩ = some (.int .i64 o.e.sq) ∧ W.cell? ⟨wr.heap.size, 6, none⟩ = some (.int .i64 o.e.sm)) := fun W hW => by
            have k := (Keeps.of_below (S := []) hW).blk O7.lt (by simp) O7
            exact ⟨by rw [k.cell]; rfl, by rw [k.cell]; rfl, by rw [k.cell]; rfl, by rw [k.cell]; rfl, by rw [k.cell]; rfl, by rw [k.cell]; rfl, by rw [k.cell]; rfl⟩
          have Hoc := Lib.hid oc
          have HX7 := Lib.hid X7
          have HOb := Lib.hid O7
          have HR7 := Lib.hid R7
          have HL7 := Lib.hid L7
          have HW7 := Lib.hid W7
          have HC7 := Lib.hid C7
          have HB7 := Lib.hid B7
          have HM7 := Lib.hid hM7
          have hO7 := Lib.hid (hO'.out.setv o.b o.e)
          have z7' : wr.heap.size < w7.heap.size := by omega
          have z7x : w.heap.size < w7.heap.size := X7.lt
          have z7r : w2.heap.size < w7.heap.size := R7.lt
          obtain ⟨⟨r0, r1, r2⟩, r3, r4, r5⟩ := R7.geo
          obtain ⟨⟨y0, y1, y2⟩, y3, y4, y5⟩ := X7.geo
          obtain ⟨p0, p1, p2, p3, p4, p5, p6⟩ := Hoc.out w7 (Below.refl _ _)
          have HNum : Hid (w4.heap.size < wr.heap.size ∧ wr.heap.size ≤ p' ∧ wr.heap.size ≤ bl' ∧ wr.heap.size ≤ bv' ∧ wr.heap.size ≤ g6 ∧ w.heap.size < w4.heap.size ∧ w2.heap.size < w4.heap.size) := by
            have k1 := hL'.out.lt
            have k2 := hzz.out
            simp at HQ'
            exact Lib.hid ⟨k1, by omega, by omega, by omega, by omega, by omega, by omega⟩
          clear oc X7 R7 O7 L7 W7 C7 B7 hM7 hK7 X6 R6 L6 O6 C6 M6 nX nR nL hcc6 hff6 hb6 hL6 o0 o1 o2 o3 o4 o5 o6 hx h0 one len hi hz0 hz1 hz2 hcc hff x0 x1 x2 x3 x4 x5 HQ' lM hg6 z6 z6' z7 z5 hzr
          by_cases hth : 0 ≤ o.b ∧ o.b < g.B
          · obtain ⟨t0, t1⟩ := hth
            cases hre : o.e.right g with
            | false =>
              have hcode : setCode g l o.b o.e = 10 := by unfold setCode; rw [if_neg (by have := Hlen.out; omega)]; simp [hre]
              have hL : setL g l o.b o.e = l := by unfold setL; rw [hcode]; rfl
              have hV : setV g l lv o.b o.e = lv := by unfold setV; rw [hcode]; rfl
              rw [hL, hV] at HM7 hO7
              simp only [hcode]
              go_wp2_with fail
              refine (ref_entry_right o.e g w7 hr).mono ?_
              rintro r w8 ⟨rfl, hb8⟩
              have y8 : w8.cell? ⟨w.heap.size, 0, none⟩ = some (.int .i64 g.D) ∧ w8.cell? ⟨w.heap.size, 1, none⟩ = some (.int .i64 g.Z) ∧ w8.cell? ⟨w.heap.size, 2, none⟩ = some (.int .i64 g.S) ∧ w8.cell? ⟨w.heap.size, 3, none⟩ = some (.int .i64 g.B) ∧ w8.cell? ⟨w.heap.size, 4, none⟩ = some (.int .i64 g.P) ∧ w8.cell? ⟨w.heap.size, 5, none⟩ = some (.int .i64 g.O) := by
                have k := ((Keeps.of_below (S := []) hb8).blk HX7.out.lt (by simp) HX7.out).geo
                exact ⟨k.1.1, k.1.2.1, k.1.2.2, k.2.1, k.2.2.1, k.2.2.2⟩
              obtain ⟨u0, u1, u2, u3, u4, u5⟩ := y8
              obtain ⟨v0, v1, v2, v3, v4, v5, v6⟩ := Hoc.out w8 hb8
              rw [hre]
              clear p0 p1 p2 p3 p4 p5 p6 r0 r1 r2 r3 r4 r5 y0 y1 y2 y3 y4 y5
              go_wp2_with fail
              refine (entry_right_b o.e g w8 _ hre).mono ?_
              rintro r w9 ⟨rfl, hb9⟩
              have h79 : Below w7.heap.size w7 w9 := hb8.trans (hb9.mono hb8.size)
              obtain ⟨s0, s1, s2, s3, s4, s5, s6⟩ := Hoc.out w9 h79
              have H79 := Lib.hid h79
              clear v0 v1 v2 v3 v4 v5 v6 u0 u1 u2 u3 u4 u5 hb8 hb9 h79
              go_wp2_with fail
              have L9 : RefL w9 w4.heap.size g.B.toNat l := HL7.out.keeps (Keeps.of_below (S := []) H79.out) HL7.out.lt (by simp)
              have W9 : RefL w9 g6 c6 l := HW7.out.keeps (Keeps.of_below (S := []) H79.out) HW7.out.lt (by simp)
              have M9 := HM7.out.grow H79.out
              have C9 := HC7.out.grow H79.out
              have HL9 := Lib.hid L9
              have HW9 := Lib.hid W9
              have HM9 := Lib.hid M9
              have HC9 := Lib.hid C9
              clear L9 W9 M9 C9
              refine (same_true' w9 p bl bv g l lv HM9.out hO7.out _ _ _ HL9.out Hlen.out zone).mono ?_
              rintro r w10 ⟨rfl, hb10⟩
              have h710 := H79.out.trans (hb10.mono H79.out.size)
              obtain ⟨t_0, t_1, t_2, t_3, t_4, t_5, t_6⟩ := Hoc.out w10 h710
              clear s0 s1 s2 s3 s4 s5 s6
              go_wp2_with fail
              refine (same_true' w10 p bl bv g l lv (HM9.out.grow hb10) hO7.out _ _ _ (HL9.out.keeps (Keeps.of_below (S := []) hb10) HL9.out.lt (by simp)) Hlen.out o.e.zn).mono ?_
              rintro r w11 ⟨rfl, hb11⟩
              have h911 : Below w9.heap.size w9 w11 := hb10.trans (hb11.mono hb10.size)
              clear t_0 t_1 t_2 t_3 t_4 t_5 t_6
              go_wp2_with fail
              refine (same_true' w11 p' bl' bv' g l lv (HC9.out.grow h911) hO'.out _ _ _ (HW9.out.keeps (Keeps.of_below (S := []) h911) HW9.out.lt (by simp)) Hlen.out zone).mono ?_
              rintro r w12 ⟨rfl, hb12⟩
              have h712 : Below w7.heap.size w7 w12 := (H79.out.trans (h911.mono H79.out.size)).trans (hb12.mono (by have := H79.out.size; have := h911.size; omega))
              have H712 := Lib.hid h712
              clear hb10 hb11 hb12 h911 h710 h712
              go_wp2
              go_round
              case rel =>
                exact ⟨k + 1, _, _, by omega, by simp, HM7.out.grow H712.out, hO7.out, HL7.out.keeps (Keeps.of_below (S := []) H712.out) HL7.out.lt (by simp), HB7.out.trans (H712.out.mono HB7.out.size |>.mono (by have := HB7.out.size; omega)), (Keeps.of_below (S := []) H712.out).blk HX7.out.lt (by simp) HX7.out, (Keeps.of_below (S := []) H712.out).blk HR7.out.lt (by simp) HR7.out⟩
              case measure => simp [intOf]; omega
            | true =>
              have hcode : setCode g l o.b o.e = 0 := by unfold setCode; rw [if_neg (by have := Hlen.out; omega)]; simp [hre]
              have hLs : setL g l o.b o.e = l.set o.b.toNat o.e := by unfold setL; rw [hcode]; rfl
              rw [hLs] at HM7 hO7
              have hib : o.b.toNat < l.length := by have := Hlen.out; omega
              have Hib := Lib.hid hib
              generalize setV g l lv o.b o.e = xv at HM7 hO7
              clear hib
              simp only [hcode]
              go_wp2_with fail
              refine (ref_entry_right o.e g w7 hr).mono ?_
              rintro r w8 ⟨rfl, hb8⟩
              have y8 : w8.cell? ⟨w.heap.size, 0, none⟩ = some (.int .i64 g.D) ∧ w8.cell? ⟨w.heap.size, 1, none⟩ = some (.int .i64 g.Z) ∧ w8.cell? ⟨w.heap.size, 2, none⟩ = some (.int .i64 g.S) ∧ w8.cell? ⟨w.heap.size, 3, none⟩ = some (.int .i64 g.B) ∧ w8.cell? ⟨w.heap.size, 4, none⟩ = some (.int .i64 g.P) ∧ w8.cell? ⟨w.heap.size, 5, none⟩ = some (.int .i64 g.O) := by
                have k := ((Keeps.of_below (S := []) hb8).blk HX7.out.lt (by simp) HX7.out).geo
                exact ⟨k.1.1, k.1.2.1, k.1.2.2, k.2.1, k.2.2.1, k.2.2.2⟩
              obtain ⟨u0, u1, u2, u3, u4, u5⟩ := y8
              obtain ⟨v0, v1, v2, v3, v4, v5, v6⟩ := Hoc.out w8 hb8
              rw [hre]
              clear p0 p1 p2 p3 p4 p5 p6 r0 r1 r2 r3 r4 r5 y0 y1 y2 y3 y4 y5
              go_wp2_with fail
              refine (entry_right_b o.e g w8 _ hre).mono ?_
              rintro r w9 ⟨rfl, hb9⟩
              have h79 : Below w7.heap.size w7 w9 := hb8.trans (hb9.mono hb8.size)
              obtain ⟨s0, s1, s2, s3, s4, s5, s6⟩ := Hoc.out w9 h79
              have H79 := Lib.hid h79
              clear v0 v1 v2 v3 v4 v5 v6 u0 u1 u2 u3 u4 u5 hb8 hb9
              have L9 : RefL w9 w4.heap.size g.B.toNat l := HL7.out.keeps (Keeps.of_below (S := []) H79.out) HL7.out.lt (by simp)
              have M9 := HM7.out.grow H79.out
              have C9 := HC7.out.grow H79.out
              have W9 : RefL w9 g6 c6 l := HW7.out.keeps (Keeps.of_below (S := []) H79.out) HW7.out.lt (by simp)
              have O9 : Blk w9 wr.heap.size 33 #[.int .i64 o.b, .int .i64 o.e.st, .int .i64 o.e.zn, .int .i64 o.e.mt, .int .i64 o.e.off, .int .i64 o.e.sq, .int .i64 o.e.sm] := (Keeps.of_below (S := []) H79.out).blk HOb.out.lt (by simp) HOb.out
              have n1 := L9.ne_map M9
              have n2 := L9.ne_ptr M9
              have num := HNum.out
              obtain ⟨L10, k10⟩ := L9.put o.b.toNat o.e Hib.out
              obtain ⟨q0, q1, q2, q3, q4, q5⟩ := L9.ents _ _ (List.getElem?_eq_getElem Hib.out)
              have f10 : ∀ j, w9.frozen? ⟨w4.heap.size, j, none⟩ = false := fun j => World.ownsRow.frozenAt L9 j
              have M10 := M9.keeps k10 ⟨M9.lt.1, by simp; exact fun h => n2 h.symm⟩ ⟨M9.lt.2.1, by simp; exact fun h => n1.1 h.symm⟩ ⟨M9.lt.2.2, by simp; exact fun h => n1.2 h.symm⟩
              have C10 := C9.keeps k10 ⟨C9.lt.1, by simp; omega⟩ ⟨C9.lt.2.1, by simp; omega⟩ ⟨C9.lt.2.2, by simp; omega⟩
              have W10 := W9.keeps k10 W9.lt (by simp; omega)
              have O10 := k10.blk O9.lt (by simp; omega) O9
              have X10 := k10.blk (Nat.lt_of_lt_of_le HX7.out.lt H79.out.size) (by simp; omega) ((Keeps.of_below (S := []) H79.out).blk HX7.out.lt (by simp) HX7.out)
              have R10 := k10.blk (Nat.lt_of_lt_of_le HR7.out.lt H79.out.size) (by simp; omega) ((Keeps.of_below (S := []) H79.out).blk HR7.out.lt (by simp) HR7.out)
              have B10 := (HB7.out.trans (H79.out.mono HB7.out.size)).trans (Keeps.below (k10.mono (by have := HB7.out.size; have := H79.out.size; omega) (fun i hi => hi)) (by simp; omega) : Below w.heap.size w9 (World.putEnt w9 w4.heap.size o.b.toNat o.e))
              obtain ⟨Wp, hWp⟩ : ∃ Wp, World.putEnt w9 w4.heap.size o.b.toNat o.e = Wp := ⟨_, rfl⟩
              rw [hWp] at L10 M10 C10 W10 O10 X10 R10 B10
              have HWp := Lib.hid hWp
              have HL9 := Lib.hid L10
              have HW9 := Lib.hid W10
              have HM9 := Lib.hid M10
              have HC9 := Lib.hid C10
              have HO9 := Lib.hid O10
              have HX9 := Lib.hid X10
              have HR9 := Lib.hid R10
              have HB9 := Lib.hid B10
              have hlen2 : (l.set o.b.toNat o.e).length = g.B.toNat := by rw [List.length_set]; exact Hlen.out
              have Hlen2 := Lib.hid hlen2
              have tn : ((o.b.toNat : Nat) : Int) = o.b := by omega
              clear L9 M9 C9 W9 O9 n1 n2 num L10 k10 M10 C10 W10 O10 X10 R10 B10 hWp h79 hlen2 tn
              go_wp2_with fail
              have hWp' := HWp.out
              unfold World.putEnt at hWp'
              rw [hWp']
              clear hWp'
              refine (same_true' Wp p bl bv g _ _ HM9.out hO7.out _ _ _ HL9.out Hlen2.out zone).mono ?_
              rintro r w10 ⟨rfl, hb10⟩
              have O10 := (Keeps.of_below (S := []) hb10).blk HO9.out.lt (by simp) HO9.out
              have t_0 : w10.cell? ⟨wr.heap.size, 0, none⟩ = some (.int .i64 o.b) := by rw [O10.cell]; rfl
              have t_1 : w10.cell? ⟨wr.heap.size, 1, none⟩ = some (.int .i64 o.e.st) := by rw [O10.cell]; rfl
              have t_2 : w10.cell? ⟨wr.heap.size, 2, none⟩ = some (.int .i64 o.e.zn) := by rw [O10.cell]; rfl
              have t_3 : w10.cell? ⟨wr.heap.size, 3, none⟩ = some (.int .i64 o.e.mt) := by rw [O10.cell]; rfl
              have t_4 : w10.cell? ⟨wr.heap.size, 4, none⟩ = some (.int .i64 o.e.off) := by rw [O10.cell]; rfl
              have t_5 : w10.cell? ⟨wr.heap.size, 5, none⟩ = some (.int .i64 o.e.sq) := by rw [O10.cell]; rfl
              have t_6 : w10.cell? ⟨wr.heap.size, 6, none⟩ = some (.int .i64 o.e.sm) := by rw [O10.cell]; rfl
              clear O10 s0 s1 s2 s3 s4 s5 s6 q0 q1 q2 q3 q4 q5 f10
              go_wp2_with fail
              refine (same_true' w10 p bl bv g _ _ (HM9.out.grow hb10) hO7.out _ _ _ (HL9.out.keeps (Keeps.of_below (S := []) hb10) HL9.out.lt (by simp)) Hlen2.out o.e.zn).mono ?_
              rintro r w11 ⟨rfl, hb11⟩
              have h911 : Below Wp.heap.size Wp w11 := hb10.trans (hb11.mono hb10.size)
              clear t_0 t_1 t_2 t_3 t_4 t_5 t_6
              go_wp2_with fail
              refine (same_true' w11 p' bl' bv' g l lv (HC9.out.grow h911) hO'.out _ _ _ (HW9.out.keeps (Keeps.of_below (S := []) h911) HW9.out.lt (by simp)) Hlen.out zone).mono ?_
              rintro r w12 ⟨rfl, hb12⟩
              have h912 : Below Wp.heap.size Wp w12 := h911.trans (hb12.mono h911.size)
              have H912 := Lib.hid h912
              clear hb10 hb11 hb12 h911 h912
              go_wp2
              go_round
              case rel =>
                exact ⟨k + 1, _, _, by omega, by simp, HM9.out.grow H912.out, hO7.out, HL9.out.keeps (Keeps.of_below (S := []) H912.out) HL9.out.lt (by simp), HB9.out.trans (H912.out.mono HB9.out.size), (Keeps.of_below (S := []) H912.out).blk HX9.out.lt (by simp) HX9.out, (Keeps.of_below (S := []) H912.out).blk HR9.out.lt (by simp) HR9.out⟩
              case measure => simp [intOf]; omega
          · have hth' : o.b < 0 ∨ 0 ≤ o.b ∧ g.B ≤ o.b ∧ decide (o.b < g.B) = false := by simp only [decide_eq_false_iff_not]; omega
            clear hth
            rcases hth' with t0 | ⟨t0, t1, tb⟩
            all_goals
              cases hre : o.e.right g
              all_goals
                have hcode : setCode g l o.b o.e = 13 := by unfold setCode; rw [if_pos (by have := Hlen.out; omega)]
                have hL : setL g l o.b o.e = l := by unfold setL; rw [hcode]; rfl
                have hV : setV g l lv o.b o.e = lv := by unfold setV; rw [hcode]; rfl
                rw [hL, hV] at HM7 hO7
                simp only [hcode]
                go_wp2_with fail
                refine (ref_entry_right o.e g w7 hr).mono ?_
                rintro r w8 ⟨rfl, hb8⟩
                have y8 : w8.cell? ⟨w.heap.size, 0, none⟩ = some (.int .i64 g.D) ∧ w8.cell? ⟨w.heap.size, 1, none⟩ = some (.int .i64 g.Z) ∧ w8.cell? ⟨w.heap.size, 2, none⟩ = some (.int .i64 g.S) ∧ w8.cell? ⟨w.heap.size, 3, none⟩ = some (.int .i64 g.B) ∧ w8.cell? ⟨w.heap.size, 4, none⟩ = some (.int .i64 g.P) ∧ w8.cell? ⟨w.heap.size, 5, none⟩ = some (.int .i64 g.O) := by
                  have k := ((Keeps.of_below (S := []) hb8).blk HX7.out.lt (by simp) HX7.out).geo
                  exact ⟨k.1.1, k.1.2.1, k.1.2.2, k.2.1, k.2.2.1, k.2.2.2⟩
                obtain ⟨u0, u1, u2, u3, u4, u5⟩ := y8
                obtain ⟨v0, v1, v2, v3, v4, v5, v6⟩ := Hoc.out w8 hb8
                rw [hre]
                clear p0 p1 p2 p3 p4 p5 p6 r0 r1 r2 r3 r4 r5 y0 y1 y2 y3 y4 y5
                go_wp2_with fail
                refine (entry_right_b o.e g w8 _ hre).mono ?_
                rintro r w9 ⟨rfl, hb9⟩
                have h79 : Below w7.heap.size w7 w9 := hb8.trans (hb9.mono hb8.size)
                obtain ⟨s0, s1, s2, s3, s4, s5, s6⟩ := Hoc.out w9 h79
                have H79 := Lib.hid h79
                clear v0 v1 v2 v3 v4 v5 v6 u0 u1 u2 u3 u4 u5 hb8 hb9 h79
                go_wp2_with fail
                have L9 : RefL w9 w4.heap.size g.B.toNat l := HL7.out.keeps (Keeps.of_below (S := []) H79.out) HL7.out.lt (by simp)
                have W9 : RefL w9 g6 c6 l := HW7.out.keeps (Keeps.of_below (S := []) H79.out) HW7.out.lt (by simp)
                have M9 := HM7.out.grow H79.out
                have C9 := HC7.out.grow H79.out
                have HL9 := Lib.hid L9
                have HW9 := Lib.hid W9
                have HM9 := Lib.hid M9
                have HC9 := Lib.hid C9
                clear L9 W9 M9 C9
                refine (same_true' w9 p bl bv g l lv HM9.out hO7.out _ _ _ HL9.out Hlen.out zone).mono ?_
                rintro r w10 ⟨rfl, hb10⟩
                have h710 := H79.out.trans (hb10.mono H79.out.size)
                obtain ⟨t_0, t_1, t_2, t_3, t_4, t_5, t_6⟩ := Hoc.out w10 h710
                clear s0 s1 s2 s3 s4 s5 s6
                go_wp2_with fail
                refine (same_true' w10 p bl bv g l lv (HM9.out.grow hb10) hO7.out _ _ _ (HL9.out.keeps (Keeps.of_below (S := []) hb10) HL9.out.lt (by simp)) Hlen.out o.e.zn).mono ?_
                rintro r w11 ⟨rfl, hb11⟩
                have h911 : Below w9.heap.size w9 w11 := hb10.trans (hb11.mono hb10.size)
                clear t_0 t_1 t_2 t_3 t_4 t_5 t_6
                go_wp2_with fail
                refine (same_true' w11 p' bl' bv' g l lv (HC9.out.grow h911) hO'.out _ _ _ (HW9.out.keeps (Keeps.of_below (S := []) h911) HW9.out.lt (by simp)) Hlen.out zone).mono ?_
                rintro r w12 ⟨rfl, hb12⟩
                have h712 : Below w7.heap.size w7 w12 := (H79.out.trans (h911.mono H79.out.size)).trans (hb12.mono (by have := H79.out.size; have := h911.size; omega))
                have H712 := Lib.hid h712
                clear hb10 hb11 hb12 h911 h710 h712
                go_wp2
                go_round
                case rel =>
                  exact ⟨k + 1, _, _, by omega, by simp, HM7.out.grow H712.out, hO7.out, HL7.out.keeps (Keeps.of_below (S := []) H712.out) HL7.out.lt (by simp), HB7.out.trans (H712.out.mono HB7.out.size |>.mono (by have := HB7.out.size; omega)), (Keeps.of_below (S := []) H712.out).blk HX7.out.lt (by simp) HX7.out, (Keeps.of_below (S := []) H712.out).blk HR7.out.lt (by simp) HR7.out⟩
                case measure => simp [intOf]; omega
        · clear hm1
          have hkn : k = n := by omega
          subst hkn
          obtain ⟨⟨y0, y1, y2⟩, y3, y4, y5⟩ := hX.geo
          have nX := hX.lt
          have HX := Lib.hid hX
          have HB := Lib.hid hB
          by_cases hth : 0 ≤ block ∧ block < g.B
          · obtain ⟨t0, t1⟩ := hth
            obtain ⟨e, hel⟩ : ∃ e, l[block.toNat]? = some e := ⟨_, List.getElem?_eq_getElem (by omega)⟩
            have hget := Lib.hid (map_get wr p bl bv g l lv hM block e t0 hel)
            clear hM hO hL hB hX hR
            go_wp2_with fail
            refine hget.out.mono ?_
            rintro r w5 ⟨rfl, hb5⟩
            obtain ⟨hcc5, hff5⟩ := bcell hb5
            have n5 : w.heap.size < w5.heap.size := by have := hb5.size; omega
            go_wp2
            go_ret
            exact ⟨rfl, HB.out.trans ((hb5.alloc hb5.size _).mono HB.out.size)⟩
          · have hth' : block < 0 ∨ 0 ≤ block ∧ g.B ≤ block ∧ decide (block < g.B) = false := by simp only [decide_eq_false_iff_not]; omega
            clear hth
            rcases hth' with t0 | ⟨t0, t1, tb⟩
            all_goals
              have hget := Lib.hid (map_get_no wr p bl bv g l lv hM block (by omega))
              clear hM hO hL hB hX hR
              go_wp2_with fail
              refine hget.out.mono ?_
              rintro r w5 ⟨rfl, hb5⟩
              obtain ⟨hcc5, hff5⟩ := bcell hb5
              have n5 : w.heap.size < w5.heap.size := by have := hb5.size; omega
              go_wp2
              go_ret
              exact ⟨rfl, HB.out.trans ((hb5.alloc hb5.size _).mono HB.out.size)⟩
end Go.Proofs.Ytcgafnmpfdkfoaa
