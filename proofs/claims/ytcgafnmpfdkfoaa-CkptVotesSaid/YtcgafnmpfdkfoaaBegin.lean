/- What the first frame tells: snap.begin. -/
import Derived.Test.YtcgafnmpfdkfoaaReadE
import Derived.Test.YtcgafnmpfdkfoaaFrameEq
import Derived.Deep.DeepCutAuto
namespace Go.Proofs.Ytcgafnmpfdkfoaa
open Go.RowKit

/-- The geometry that a first frame's bytes tell. -/
def unGeo (ys : List Int) : G := ⟨unle ((ys.drop 6).take 1), unle ((ys.drop 7).take 1), unle ((ys.drop 8).take 1), unle ((ys.drop 9).take 2), unle ((ys.drop 11).take 1), unle ((ys.drop 12).take 1)⟩
def unNx (ys : List Int) : Int := unle (ys.take 6)
/-- What 'begin' hands back. -/
def BeginPost (w : World) (f : Fr) (e : Ending) (w' : World) : Prop :=
  Below w.heap.size w w' ∧ if (unGeo f.bd).right = true then ∃ p bl bv, e = .returned (.tuple #[Sn.v ⟨f.sq, f.ep, unNx f.bd⟩ p, .int .i64 0]) ∧ MapAt w' p bl bv (unGeo f.bd) (nones (unGeo f.bd)) (noLive (unGeo f.bd)) ∧ w.heap.size ≤ p ∧ w.heap.size ≤ bl ∧ w.heap.size ≤ bv
    else e = .returned (.tuple #[.agg #[.int .i64 f.sq, .int .i64 f.ep, .int .i64 (unNx f.bd), .pointer none], .int .i64 20])
theorem codec_new_n (w : World) (g o c n : Nat) (xs : List Int) (hg : g < w.heap.size) (hx0 : ∀ j v, xs[j]? = some v → w.cell? ⟨g, o + j, none⟩ = some (.int .u8 v)) (hn : xs.length = n) (h1 : 1 ≤ n) (h2 : n ≤ 1000) :
    Calls Try.prog 120 #[.slice (some ⟨g, o, none⟩) n c] w (ReaderPost w xs) := by
  subst hn
  exact codec_new w g o c xs hg hx0 h1 h2
theorem Fr.byte {f : Fr} {j : Nat} {v : Int} (h : f.bd[j]? = some v) : f.arr[5 + j]? = some (.int .u8 v) := by
  unfold Fr.arr
  rw [Array.getElem?_append_right (by simp)]
  simp [bys, h]
theorem Blk.sncells {w : World} {b : Nat} {t : TypeId} {x y z v : Value} (h : Blk w b t #[x, y, z, v]) : (w.cell? ⟨b, 0, none⟩ = some x ∧ w.cell? ⟨b, 1, none⟩ = some y) ∧ w.cell? ⟨b, 2, none⟩ = some z ∧ w.cell? ⟨b, 3, none⟩ = some v :=
  ⟨⟨by rw [h.cell]; rfl, by rw [h.cell]; rfl⟩, by rw [h.cell]; rfl, by rw [h.cell]; rfl⟩
def CutB (B : Nat) (W : World) (r : Nat) (ys : List Int) (sq ep nx : Int) (v : Value) (wx : World) : Prop :=
  ∃ bs, v = .pointer (some ⟨bs, 0, none⟩) ∧ W.heap.size ≤ bs ∧ Keeps W.heap.size [r] W wx ∧ RdAt B wx r ys ∧ Blk wx bs 53 #[.int .i64 sq, .int .i64 ep, .int .i64 nx, .pointer none]

/-- What stands while 'begin' reads. -/
structure BgAt (w : World) (N1 bs : Nat) (f : Fr) (W : World) : Prop where
  u : Below w.heap.size w W
  o : Blk W N1 53 #[.int .i64 0, .int .i64 0, .int .i64 0, .pointer none]
  e : Blk W bs 53 #[.int .i64 f.sq, .int .i64 f.ep, .int .i64 (unNx f.bd), .pointer none]
theorem BgAt.keeps {w : World} {N1 bs r : Nat} {f : Fr} {W W' : World} (h : BgAt w N1 bs f W) (k : Keeps W.heap.size [r] W W') (hr : w.heap.size ≤ r) (h1 : N1 ≠ r) (h2 : bs ≠ r) : BgAt w N1 bs f W' :=
  ⟨h.u.trans (Keeps.below (k.mono h.u.size (fun _ hi => hi)) (by simpa using hr)), k.blk h.o.lt (by simpa using h1) h.o, k.blk h.e.lt (by simpa using h2) h.e⟩
theorem BgAt.grow {w : World} {N1 bs : Nat} {f : Fr} {W W' : World} (h : BgAt w N1 bs f W) (k : Below W.heap.size W W') : BgAt w N1 bs f W' :=
  ⟨h.u.trans (k.mono h.u.size), (Keeps.of_below (S := []) k).blk h.o.lt (by simp) h.o, (Keeps.of_below (S := []) k).blk h.e.lt (by simp) h.e⟩

set_option maxRecDepth 100000 in
set_option maxHeartbeats 2000000 in
theorem snap_begin (w : World) (f : Fr) (hk : f.Ok) (hb : Byt f.bd) : Calls Try.prog 85 #[f.v] w (BeginPost w f) := by
  obtain ⟨V0, hV0⟩ : ∃ V0, (w.alloc (.cells f.arr 64)).alloc (.cells #[.int .i64 0, .int .i64 0, .int .i64 0, .pointer none] 53) = V0 := ⟨_, rfl⟩
  obtain ⟨N1, hN1⟩ : ∃ N1, w.heap.size + 1 = N1 := ⟨_, rfl⟩
  have b0 : Below w.heap.size w V0 := by rw [← hV0]; exact (below_box _ _).alloc (by simp) _
  have k0 : Blk V0 w.heap.size 64 f.arr := by rw [← hV0]; exact (Blk.newAt rfl).alloc _
  have k1 : Blk V0 N1 53 #[.int .i64 0, .int .i64 0, .int .i64 0, .pointer none] := by rw [← hV0]; exact Blk.newAt (by simp; omega)
  have B0 := Lib.hid b0
  have K0 := Lib.hid k0
  have K1 := Lib.hid k1
  have HK := Lib.hid hk
  have HB := Lib.hid hb
  clear b0 k0 k1 hb
  go_enter Try.func85, Try.ntmps85
  go_wp2_with fail
  have HN1 := Lib.hid hN1
  clear hV0 hN1
  have hk44 : f.bd.length = 44 := hk
  refine (codec_new_n V0 w.heap.size 5 44 44 f.bd K0.out.lt (fun j v hj => by rw [K0.out.cell]; exact Fr.byte hj) hk (by omega) (by omega)).mono ?_
  rintro e W1 ⟨r, rfl, hR1, hb1⟩
  obtain ⟨N0, hN0⟩ : ∃ N, V0.heap.size = N := ⟨_, rfl⟩
  rw [hN0] at hR1
  have F1 := Lib.hid ((Keeps.of_below (S := []) hb1).blk K0.out.lt (by simp) K0.out)
  have O1 := Lib.hid ((Keeps.of_below (S := []) hb1).blk K1.out.lt (by simp) K1.out)
  have R1 := Lib.hid hR1
  have B1 : Hid (Below w.heap.size w W1) := Lib.hid (B0.out.trans (hb1.mono B0.out.size))
  have hr := hR1.lt
  have hfl := K0.out.lt
  have hol := K1.out.lt
  have hrf : w.heap.size < W1.heap.size := by omega
  have hrn : ¬ w.heap.size = r := by omega
  obtain ⟨⟨c0, c1⟩, ⟨c2, c3⟩, c4⟩ := F1.out.fcells
  have HT : Hid (∀ w', Keeps W1.heap.size [r] W1 w' → w'.cell? ⟨w.heap.size, 3, none⟩ = some (.int .i64 f.ep) ∧ w'.cell? ⟨w.heap.size, 4, none⟩ = some (.int .i64 f.sq)) :=
    Lib.hid fun w' k => by
      have := (k.blk F1.out.lt (by simpa using hrn) F1.out).fcells
      exact ⟨this.2.1.2, this.2.2⟩
  have hnum : Hid (∀ W, Keeps W1.heap.size [] W1 W → Calls Try.prog 121 #[.pointer (some ⟨r, 0, none⟩), .int .i64 6] W (NumPost N0 W r f.bd 6)) :=
    Lib.hid fun W k => rd_num N0 W r f.bd 6 (R1.out.keeps k (by simp)) HB.out (by omega) (by omega) (by omega) (by omega)
  clear hb1 hR1 c0 c1 c2 hk44 hk
  go_wp2_with fail
  go_cut [5] (fun f' wx => CutB N0 W1 r (f.bd.drop 6) f.sq f.ep (unNx f.bd) f' wx)
  case first =>
    go_region_held3 (fun w' => w'.cell? ⟨w.heap.size, 3, none⟩ = some (.int .i64 f.ep) ∧ w'.cell? ⟨w.heap.size, 4, none⟩ = some (.int .i64 f.sq)) (first | (go_keep; done) | exact HT.out _ hk2 | exact HT.out _ (hk2.trans ((Keeps.of_below (S := [r]) (below_box _ _)).mono hk2.size (fun _ hi => hi))) | exact HT.out _ ((((hk2.setCell _ _ (.inr (Nat.le_refl _))).setCell _ _ (.inr (Nat.le_refl _))).setCell _ _ (.inr (Nat.le_refl _))).setCell _ _ (.inr (Nat.le_refl _))) | (trace_state; fail))
      (first | (go_at_call 121; refine (hnum.out _ ((Keeps.refl _ _ W1).drew)).mono ?_; rintro e w' ⟨rfl, hR2, hK2⟩; have hk2 : Keeps W1.heap.size [r] W1 w' := (Keeps.refl _ _ W1).drew.trans hK2; have tok := hK2) | (go_at_call 121; refine (hnum.out _ ((Keeps.of_below (below_box W1 _)).drew)).mono ?_; rintro e w' ⟨rfl, hR2, hK2⟩; have hk2 : Keeps W1.heap.size [r] W1 w' := (Keeps.of_below (S := [r]) (below_box W1 _)).drew.trans (hK2.mono (by simp [World.drew]) (by simp)); have e2 : Blk w' W1.heap.size 53 #[.int .i64 0, .int .i64 0, .int .i64 0, .pointer none] := hK2.blk (by simp [World.drew]) (by simp; omega) (Blk.newAt rfl); obtain ⟨⟨u0, u1⟩, u2, u3⟩ := e2.sncells; have uf := e2.frozen; have ul := e2.lt))
    · go_wp2_with fail
      go_meet
      case rel => exact ⟨_, rfl, hk2.size, hk2.trans ((Keeps.of_below (S := [r]) (below_box _ _)).mono hk2.size (fun _ hi => hi)), hR2.grow (below_box _ _), Blk.newAt rfl⟩
    · go_wp2_with fail
      go_meet
      case rel =>
        refine ⟨_, rfl, Nat.le_refl _, (((hk2.setCell _ _ (.inr (Nat.le_refl _))).setCell _ _ (.inr (Nat.le_refl _))).setCell _ _ (.inr (Nat.le_refl _))).setCell _ _ (.inr (Nat.le_refl _)), ?_, (((e2.set_ 0 _).set_ 1 _).set_ 2 _).set_ 3 _⟩
        exact hR2.other ((((Keeps.refl _ [W1.heap.size] w').setCell _ _ (.inl (by simp))).setCell _ _ (.inl (by simp))).setCell _ _ (.inl (by simp)) |>.setCell _ _ (.inl (by simp))) e2 (by decide)
  case rest =>
    obtain ⟨bs, rfl, n2, K2, R2, E2⟩ := hcut
    obtain ⟨W2, rfl⟩ : ∃ W2 : World, W2 = wc := ⟨_, rfl⟩
    have r1 : N1 ≠ r := by omega
    have r2 : bs ≠ r := by omega
    have rw_ : w.heap.size ≤ r := by omega
    have G2 : Hid (BgAt w N1 bs f W2) := Lib.hid ⟨B1.out.trans (Keeps.below (K2.mono B1.out.size (fun _ hi => hi)) (by simpa using rw_)), K2.blk O1.out.lt (by simpa using r1) O1.out, E2⟩
    have R2' := Lib.hid R2
    have hl : f.bd.length = 44 := HK.out
    have gr : Hid (∀ W W', BgAt w N1 bs f W → Keeps W.heap.size [r] W W' → BgAt w N1 bs f W') := Lib.hid fun W W' h k => h.keeps k rw_ r1 r2
    clear K2 R2 E2 hnum HT c3 c4
    go_wp2_with fail
    refine (rd_num N0 W2 r (f.bd.drop 6) 1 R2'.out (HB.out.drop _) (by omega) (by omega) (by simp; omega) (by simp; omega)).mono ?_
    rintro e w3 ⟨rfl, hR3, hK3⟩
    rw [List.drop_drop] at hR3
    obtain ⟨a0, ha0⟩ : ∃ a, Hid (unle ((f.bd.drop 6).take 1) = a) := ⟨_, Lib.hid rfl⟩
    rw [ha0.out]
    have R3 := Lib.hid hR3
    have G3 := Lib.hid (gr.out _ _ G2.out hK3)
    clear hR3 hK3 G2 R2'
    go_wp2_with fail
    refine (rd_num N0 w3 r (f.bd.drop (6 + 1)) 1 R3.out (HB.out.drop _) (by omega) (by omega) (by simp; omega) (by simp; omega)).mono ?_
    rintro e w4 ⟨rfl, hR4, hK4⟩
    rw [List.drop_drop] at hR4
    obtain ⟨a1, ha1⟩ : ∃ a, Hid (unle ((f.bd.drop (6 + 1)).take 1) = a) := ⟨_, Lib.hid rfl⟩
    rw [ha1.out]
    have R4 := Lib.hid hR4
    have G4 := Lib.hid (gr.out _ _ G3.out hK4)
    clear hR4 hK4 G3 R3
    go_wp2_with fail
    refine (rd_num N0 w4 r (f.bd.drop (6 + 1 + 1)) 1 R4.out (HB.out.drop _) (by omega) (by omega) (by simp; omega) (by simp; omega)).mono ?_
    rintro e w5 ⟨rfl, hR5, hK5⟩
    rw [List.drop_drop] at hR5
    obtain ⟨a2, ha2⟩ : ∃ a, Hid (unle ((f.bd.drop (6 + 1 + 1)).take 1) = a) := ⟨_, Lib.hid rfl⟩
    rw [ha2.out]
    obtain ⟨V5, hV5⟩ : ∃ V, w5.alloc (.cells #[.int .i64 a0, .int .i64 a1, .int .i64 a2, .int .i64 0, .int .i64 0, .int .i64 0] 23) = V := ⟨_, rfl⟩
    have b5 : Below w5.heap.size w5 V5 := by rw [← hV5]; exact below_box _ _
    have g5 : Blk V5 w5.heap.size 23 #[.int .i64 a0, .int .i64 a1, .int .i64 a2, .int .i64 0, .int .i64 0, .int .i64 0] := by rw [← hV5]; exact Blk.newAt rfl
    have R5 := Lib.hid (hR5.grow b5)
    have G5 := Lib.hid ((gr.out _ _ G4.out hK5).grow b5)
    have M5 := Lib.hid g5
    have rn5 := Lib.hid hR5.lt.2
    have HV5 := Lib.hid hV5
    clear hR5 hK5 G4 R4 b5 g5 hV5
    go_wp2_with fail
    rw [HV5.out]
    refine (rd_num N0 V5 r (f.bd.drop (6 + 1 + 1 + 1)) 2 R5.out (HB.out.drop _) (by omega) (by omega) (by simp; omega) (by simp; omega)).mono ?_
    rintro e w6 ⟨rfl, hR6, hK6⟩
    rw [List.drop_drop] at hR6
    obtain ⟨a3, ha3⟩ : ∃ a, Hid (unle ((f.bd.drop (6 + 1 + 1 + 1)).take 2) = a) := ⟨_, Lib.hid rfl⟩
    rw [ha3.out]
    have R6 := Lib.hid hR6
    have G6 := Lib.hid (gr.out _ _ G5.out hK6)
    have M6 := Lib.hid (hK6.blk M5.out.lt (by have := rn5.out; simp; omega) M5.out)
    clear hR6 hK6 G5 R5 M5
    go_wp2_with fail
    refine (rd_num N0 w6 r (f.bd.drop (6 + 1 + 1 + 1 + 2)) 1 R6.out (HB.out.drop _) (by omega) (by omega) (by simp; omega) (by simp; omega)).mono ?_
    rintro e w7 ⟨rfl, hR7, hK7⟩
    rw [List.drop_drop] at hR7
    obtain ⟨a4, ha4⟩ : ∃ a, Hid (unle ((f.bd.drop (6 + 1 + 1 + 1 + 2)).take 1) = a) := ⟨_, Lib.hid rfl⟩
    rw [ha4.out]
    have R7 := Lib.hid hR7
    have G7 := Lib.hid (gr.out _ _ G6.out hK7)
    have M7 := Lib.hid (hK7.blk M6.out.lt (by have := rn5.out; simp; omega) M6.out)
    clear hR7 hK7 G6 R6 M6
    go_wp2_with fail
    refine (rd_num N0 w7 r (f.bd.drop (6 + 1 + 1 + 1 + 2 + 1)) 1 R7.out (HB.out.drop _) (by omega) (by omega) (by simp; omega) (by simp; omega)).mono ?_
    rintro e w8 ⟨rfl, hR8, hK8⟩
    obtain ⟨a5, ha5⟩ : ∃ a, Hid (unle ((f.bd.drop (6 + 1 + 1 + 1 + 2 + 1)).take 1) = a) := ⟨_, Lib.hid rfl⟩
    rw [ha5.out]
    have G8 := gr.out _ _ G7.out hK8
    have m8 := hK8.blk M7.out.lt (by have := rn5.out; simp; omega) M7.out
    obtain ⟨V8, hV8⟩ : ∃ V, ((w8.setCell ⟨w5.heap.size, 3, none⟩ (.int .i64 a3)).setCell ⟨w5.heap.size, 4, none⟩ (.int .i64 a4)).setCell ⟨w5.heap.size, 5, none⟩ (.int .i64 a5) = V := ⟨_, rfl⟩
    have k8 : Keeps w8.heap.size [w5.heap.size] w8 V8 := by rw [← hV8]; exact (((Keeps.refl _ _ w8).setCell _ _ (.inl (by simp))).setCell _ _ (.inl (by simp))).setCell _ _ (.inl (by simp))
    have n8 : Blk V8 w5.heap.size 23 (G.arr ⟨a0, a1, a2, a3, a4, a5⟩) := by rw [← hV8]; exact ((m8.set_ 3 _).set_ 4 _).set_ 5 _
    have G9 := Lib.hid (G8.keeps k8 (by have := rn5.out; omega) (fun h => Blk.ne_ m8 G8.o (by decide) h.symm) (fun h => Blk.ne_ m8 G8.e (by decide) h.symm))
    have q0 : w8.cell? ⟨w5.heap.size, 3, none⟩ = some (.int .i64 0) := by rw [m8.cell]; rfl
    have q1 : w8.cell? ⟨w5.heap.size, 4, none⟩ = some (.int .i64 0) := by rw [m8.cell]; rfl
    have q2 : w8.cell? ⟨w5.heap.size, 5, none⟩ = some (.int .i64 0) := by rw [m8.cell]; rfl
    have qf := m8.frozen
    have ql := m8.lt
    obtain ⟨⟨x0, x1⟩, ⟨x2, x3⟩, x4, x5⟩ := n8.gcells
    have hg : Hid (unGeo f.bd = ⟨a0, a1, a2, a3, a4, a5⟩) := Lib.hid (by unfold unGeo; rw [← ha0.out, ← ha1.out, ← ha2.out, ← ha3.out, ← ha4.out, ← ha5.out])
    clear hR8 hK8 G7 R7 M7 G8 m8 k8 n8
    go_wp2_with fail
    clear hV8 q0 q1 q2 qf ql x0 x1 x2 x3 x4 x5
    have hN1 : w.heap.size ≤ N1 ∧ N1 < bs := by have := HN1.out; omega
    have hz8 := Lib.hid (And.intro G9.out.u.size (And.intro G9.out.o.lt G9.out.e.lt))
    cases hr' : G.right ⟨a0, a1, a2, a3, a4, a5⟩ with
    | true =>
      refine (map_new_yes ⟨a0, a1, a2, a3, a4, a5⟩ V8 hr').mono ?_
      rintro e w9 ⟨p, bl, bv, rfl, ⟨n1, n2', n3⟩, hm, hb9⟩
      have M9 := Lib.hid hm
      have G10 := G9.out.grow hb9
      have q3 : w9.cell? ⟨bs, 3, none⟩ = some (.pointer none) := by rw [G10.e.cell]; rfl
      have q4 : w9.frozen? ⟨bs, 3, none⟩ = false := G10.e.frozen 3
      have q5 := G10.e.lt
      obtain ⟨V9, hV9⟩ : ∃ V, w9.setCell ⟨bs, 3, none⟩ (.pointer (some ⟨p, 0, none⟩)) = V := ⟨_, rfl⟩
      have k9 : Keeps w9.heap.size [bs] w9 V9 := by rw [← hV9]; exact (Keeps.refl _ _ w9).setCell _ _ (.inl (by simp))
      have e9 : Blk V9 bs 53 #[.int .i64 f.sq, .int .i64 f.ep, .int .i64 (unNx f.bd), .pointer (some ⟨p, 0, none⟩)] := by rw [← hV9]; exact G10.e.set_ 3 _
      have nb : bs ≠ N1 := by omega
      have o9 := k9.blk G10.o.lt (by simp; omega) G10.o
      have u9' : Below w.heap.size w V9 := G10.u.trans (Keeps.below (k9.mono G10.u.size (fun _ hi => hi)) (by simp; omega))
      obtain ⟨⟨y0, y1⟩, y2, y3⟩ := e9.sncells
      obtain ⟨⟨z0, z1⟩, z2, z3⟩ := o9.sncells
      have zf := o9.frozen
      have zl := o9.lt
      have K9 := Lib.hid k9
      have O9 := Lib.hid o9
      have U9 := Lib.hid u9'
      clear G10 k9 e9 o9 u9' hb9
      go_wp2_with fail
      obtain ⟨V10, hV10⟩ : ∃ V, (((V9.setCell ⟨N1, 0, none⟩ (.int .i64 f.sq)).setCell ⟨N1, 1, none⟩ (.int .i64 f.ep)).setCell ⟨N1, 2, none⟩ (.int .i64 (unNx f.bd))).setCell ⟨N1, 3, none⟩ (.pointer (some ⟨p, 0, none⟩)) = V := ⟨_, rfl⟩
      have e10 : Blk V10 N1 53 #[.int .i64 f.sq, .int .i64 f.ep, .int .i64 (unNx f.bd), .pointer (some ⟨p, 0, none⟩)] := by rw [← hV10]; exact (((O9.out.set_ 0 _).set_ 1 _).set_ 2 _).set_ 3 _
      have k10 : Keeps V9.heap.size [N1] V9 V10 := by rw [← hV10]; exact ((((Keeps.refl _ _ V9).setCell _ _ (.inl (by simp))).setCell _ _ (.inl (by simp))).setCell _ _ (.inl (by simp))).setCell _ _ (.inl (by simp))
      rw [hV10]
      have r1 : (loadVar 53 ⟨N1, 0, none⟩).run Try.prog V10 = .ok (.agg #[.int .i64 f.sq, .int .i64 f.ep, .int .i64 (unNx f.bd), .pointer (some ⟨p, 0, none⟩)]) V10 := run_loadVar_row _ _ _ _ _ _ _ e10 Try.underlying53 rfl size_snap
      have fb : Below w.heap.size w V10 := U9.out.trans (Keeps.below (k10.mono U9.out.size (fun _ hi => hi)) (by simp; omega))
      refine bodyPost_ret (v := .tuple #[Sn.v ⟨f.sq, f.ep, unNx f.bd⟩ p, .int .i64 0]) ?_ rfl ⟨fb, ?_⟩
      · simp [results, Try.results85, asAddr, r1]
      · rw [hg.out, if_pos hr']
        have hl9 := M9.out.lt
        have zz := hz8.out
        have m9 := M9.out.keeps K9.out (by simp; omega) (by simp; omega) (by simp; omega)
        exact ⟨p, bl, bv, rfl, m9.keeps k10 (by have := K9.out.size; simp; omega) (by have := K9.out.size; simp; omega) (by have := K9.out.size; simp; omega), by omega, by omega, by omega⟩
    | false =>
      refine (map_new_no ⟨a0, a1, a2, a3, a4, a5⟩ V8 hr').mono ?_
      rintro e w9 ⟨rfl, hb9⟩
      have G10 := G9.out.grow hb9
      have q3 : w9.cell? ⟨bs, 3, none⟩ = some (.pointer none) := by rw [G10.e.cell]; rfl
      have q4 : w9.frozen? ⟨bs, 3, none⟩ = false := G10.e.frozen 3
      have q5 := G10.e.lt
      obtain ⟨V9, hV9⟩ : ∃ V, w9.setCell ⟨bs, 3, none⟩ (.pointer none) = V := ⟨_, rfl⟩
      have k9 : Keeps w9.heap.size [bs] w9 V9 := by rw [← hV9]; exact (Keeps.refl _ _ w9).setCell _ _ (.inl (by simp))
      have e9 : Blk V9 bs 53 #[.int .i64 f.sq, .int .i64 f.ep, .int .i64 (unNx f.bd), .pointer none] := by rw [← hV9]; exact G10.e.set_ 3 _
      have nb : bs ≠ N1 := by omega
      have o9 := k9.blk G10.o.lt (by simp; omega) G10.o
      have u9' : Below w.heap.size w V9 := G10.u.trans (Keeps.below (k9.mono G10.u.size (fun _ hi => hi)) (by simp; omega))
      obtain ⟨⟨y0, y1⟩, y2, y3⟩ := e9.sncells
      obtain ⟨⟨z0, z1⟩, z2, z3⟩ := o9.sncells
      have zf := o9.frozen
      have zl := o9.lt
      have K9 := Lib.hid k9
      have O9 := Lib.hid o9
      have U9 := Lib.hid u9'
      clear G10 k9 e9 o9 u9' hb9
      go_wp2_with fail
      obtain ⟨V10, hV10⟩ : ∃ V, (((V9.setCell ⟨N1, 0, none⟩ (.int .i64 f.sq)).setCell ⟨N1, 1, none⟩ (.int .i64 f.ep)).setCell ⟨N1, 2, none⟩ (.int .i64 (unNx f.bd))).setCell ⟨N1, 3, none⟩ (.pointer none) = V := ⟨_, rfl⟩
      have e10 : Blk V10 N1 53 #[.int .i64 f.sq, .int .i64 f.ep, .int .i64 (unNx f.bd), .pointer none] := by rw [← hV10]; exact (((O9.out.set_ 0 _).set_ 1 _).set_ 2 _).set_ 3 _
      have k10 : Keeps V9.heap.size [N1] V9 V10 := by rw [← hV10]; exact ((((Keeps.refl _ _ V9).setCell _ _ (.inl (by simp))).setCell _ _ (.inl (by simp))).setCell _ _ (.inl (by simp))).setCell _ _ (.inl (by simp))
      rw [hV10]
      have r1 : (loadVar 53 ⟨N1, 0, none⟩).run Try.prog V10 = .ok (.agg #[.int .i64 f.sq, .int .i64 f.ep, .int .i64 (unNx f.bd), .pointer none]) V10 := run_loadVar_row _ _ _ _ _ _ _ e10 Try.underlying53 rfl size_snap
      have fb : Below w.heap.size w V10 := U9.out.trans (Keeps.below (k10.mono U9.out.size (fun _ hi => hi)) (by simp; omega))
      refine bodyPost_ret (v := .tuple #[.agg #[.int .i64 f.sq, .int .i64 f.ep, .int .i64 (unNx f.bd), .pointer none], .int .i64 20]) ?_ rfl ⟨fb, ?_⟩
      · simp [results, Try.results85, asAddr, r1]
      · rw [hg.out, hr', if_neg (by simp)]
end Go.Proofs.Ytcgafnmpfdkfoaa
