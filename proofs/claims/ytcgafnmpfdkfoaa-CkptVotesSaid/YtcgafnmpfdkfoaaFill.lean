/- What another frame tells: snap.fill. -/
import Derived.Test.YtcgafnmpfdkfoaaBegin
namespace Go.Proofs.Ytcgafnmpfdkfoaa
open Go.RowKit

/-- Entries set one behind the other, from a block on, up to the last block. -/
def fillGo (g : G) : Int → List E → List E → List E × Int
  | _, [], l => (l, 0)
  | b, e :: es, l => if g.B ≤ b then (l, 0) else if setCode g l b e = 0 then fillGo g (b + 1) es (setL g l b e) else (l, setCode g l b e)
/-- The entries that a frame's bytes tell. -/
def unPart (ys : List Int) : List E := [unEnt (ys.drop 1), unEnt (ys.drop 17)]
def fillB (f : Fr) : Int := 2 * (f.off - 1)
/-- What 'fill' leaves: the map behind the play. -/
def FillPost (w : World) (p bl bv : Nat) (g : G) (l : List E) (f : Fr) (e : Ending) (w' : World) : Prop :=
  e = .returned (.int .i64 (fillGo g (fillB f) (unPart f.bd) l).2) ∧ (∃ lv', MapAt w' p bl bv g (fillGo g (fillB f) (unPart f.bd) l).1 lv' ∧ MapOk g (fillGo g (fillB f) (unPart f.bd) l).1 lv') ∧ Keeps w.heap.size [bl, bv] w w'
/-- What stands while 'fill' reads. -/
structure FgAt (w : World) (N1 r N0 : Nat) (s : Sn) (p bl bv : Nat) (f : Fr) (ys : List Int) (W : World) : Prop where
  u : Keeps w.heap.size [bl, bv] w W
  y : Blk W w.heap.size 53 (s.arr p)
  f : Blk W N1 64 f.arr
  r : RdAt N0 W r ys
def CutT (N0 : Nat) (W : World) (r : Nat) (ys : List Int) (e : E) (b : Int) (v u : Value) (wx : World) : Prop :=
  ∃ be, v = .pointer (some ⟨be, 0, none⟩) ∧ u = .int .i64 b ∧ W.heap.size ≤ be ∧ Keeps W.heap.size [r] W wx ∧ RdAt N0 wx r ys ∧ Blk wx be 31 e.arr

theorem geo_blocks (g : G) (w : World) : (Instr.field 23 (.agg #[.int .i64 g.D, .int .i64 g.Z, .int .i64 g.S, .int .i64 g.B, .int .i64 g.P, .int .i64 g.O]) 3).run Try.prog w = .ok (.int .i64 g.B) w := by kernel_rfl
set_option maxRecDepth 100000 in
set_option maxHeartbeats 2000000 in
theorem snap_fill (w : World) (p bl bv : Nat) (g : G) (l : List E) (lv : List Int) (s : Sn) (hM : MapAt w p bl bv g l lv) (hO : MapOk g l lv) (f : Fr) (hk : f.Ok) (hb : Byt f.bd) (o1 : 1 ≤ f.off) (o2 : f.off ≤ 1000) :
    Calls Try.prog 86 #[s.v p, f.v] w (FillPost w p bl bv g l f) := by
  obtain ⟨V0, hV0⟩ : ∃ V0, (w.alloc (s.box p)).alloc (.cells f.arr 64) = V0 := ⟨_, rfl⟩
  obtain ⟨N1, hN1⟩ : ∃ N1, w.heap.size + 1 = N1 := ⟨_, rfl⟩
  have b0 : Below w.heap.size w V0 := by rw [← hV0]; exact (below_box _ _).alloc (by simp) _
  have k0 : Blk V0 w.heap.size 53 (s.arr p) := by rw [← hV0]; exact (Blk.newAt rfl).alloc _
  have k1 : Blk V0 N1 64 f.arr := by rw [← hV0]; exact Blk.newAt (by simp; omega)
  have B0 := Lib.hid b0
  have K0 := Lib.hid k0
  have K1 := Lib.hid k1
  have HK := Lib.hid hk
  have HB := Lib.hid hb
  have M0 := Lib.hid (hM.grow b0)
  have Mlt := Lib.hid hM.lt
  have O0 := Lib.hid hO
  clear b0 k0 k1 hb hM hO
  go_enter Try.func86, Try.ntmps86
  go_wp2_with fail
  have HN1 := Lib.hid hN1
  clear hV0 hN1
  have hk44 : f.bd.length = 44 := hk
  refine (codec_new_n V0 N1 6 43 43 (f.bd.drop 1) K1.out.lt (fun j v hj => by rw [K1.out.cell, show 6 + j = 5 + (1 + j) by omega]; exact Fr.byte (by rw [List.getElem?_drop] at hj; exact hj)) (by simp; omega) (by omega) (by omega)).mono ?_
  rintro e W1 ⟨r, rfl, hR1, hb1⟩
  obtain ⟨N0, hN0⟩ : ∃ N, V0.heap.size = N := ⟨_, rfl⟩
  rw [hN0] at hR1
  have F1 : Hid (FgAt w N1 r N0 s p bl bv f (f.bd.drop 1) W1) := Lib.hid ⟨(Keeps.of_below B0.out).trans (((Keeps.of_below (S := [bl, bv]) hb1)).mono B0.out.size (fun _ h => h)), (Keeps.of_below (S := []) hb1).blk K0.out.lt (by simp) K0.out, (Keeps.of_below (S := []) hb1).blk K1.out.lt (by simp) K1.out, hR1⟩
  have M1 := Lib.hid (M0.out.grow hb1)
  have hr := hR1.lt
  have hl0 := K0.out.lt
  have hl1 := K1.out.lt
  have hml := Mlt.out
  clear hb1 hR1 M0 hk44 hk
  go_wp2_with fail
  go_loopw [13] (fun i wr => ∃ (k : Nat) (l' : List E) (lv' : List Int), k ≤ 2 ∧ i = .int .i64 k ∧ fillGo g (fillB f) (unPart f.bd) l = fillGo g (fillB f + k) ((unPart f.bd).drop k) l' ∧ MapAt wr p bl bv g l' lv' ∧ MapOk g l' lv' ∧ FgAt w N1 r N0 s p bl bv f ((f.bd.drop 1).drop (16 * k)) wr) (fun i _ => 2 - (intOf i).toNat)
  case atStart => exact ⟨0, l, lv, by omega, rfl, by simp, M1.out, O0.out, by simpa using F1.out⟩
  case round =>
    obtain ⟨k, l', lv', hk2, rfl, hgo, hM, hO, hF⟩ := hrel
    have HG := Lib.hid hgo
    have HM := Lib.hid hM
    have HO := Lib.hid hO
    have HF := Lib.hid hF
    clear hgo hM hO hF
    by_cases hlt : k < 2
    · obtain ⟨ys, hys⟩ : ∃ ys, Hid ((f.bd.drop 1).drop (16 * k) = ys) := ⟨_, Lib.hid rfl⟩
      rw [hys.out] at HF
      have hbl : f.bd.length = 44 := HK.out
      have hyl : 16 < ys.length ∧ ys.length ≤ 1000 := by rw [← hys.out]; simp; omega
      have hyb : Byt ys := by rw [← hys.out]; exact (HB.out.drop _).drop _
      have hdr : (unPart f.bd).drop k = unEnt ys :: (unPart f.bd).drop (k + 1) := by
        rw [← hys.out]
        have : k = 0 ∨ k = 1 := by omega
        rcases this with rfl | rfl <;> simp [unPart]
      have HD := Lib.hid hdr
      have hrf : ¬ N1 = r := by omega
      have hnl : N1 < wr.heap.size := HF.out.f.lt
      have hbc : wr.cell? ⟨N1, 2, none⟩ = some (.int .i64 f.off) := HF.out.f.fcells.2.1.1
      have HT : Hid (∀ w', Keeps wr.heap.size [r] wr w' → w'.cell? ⟨N1, 2, none⟩ = some (.int .i64 f.off)) := Lib.hid fun w' k' => (k'.blk HF.out.f.lt (by simpa using hrf) HF.out.f).fcells.2.1.1
      have htk : Hid (∀ W, Keeps wr.heap.size [] wr W → Calls Try.prog 122 #[.pointer (some ⟨r, 0, none⟩)] W (EntPost N0 W r ys)) :=
        Lib.hid fun W k' => snap_take N0 W r ys (HF.out.r.keeps k' (by simp)) hyb hyl.1 hyl.2
      obtain ⟨en, hen⟩ : ∃ en, Hid (unEnt ys = en) := ⟨_, Lib.hid rfl⟩
      rw [hen.out] at HD
      have hrl := HF.out.r.lt.2
      clear hdr hyb hyl
      have hw1 : IntKind.i64.wrap (f.off - 1) = f.off - 1 := by rw [IntKind.wrap_i64]; omega
      have hw2 : IntKind.i64.wrap (2 * (f.off - 1)) = 2 * (f.off - 1) := by rw [IntKind.wrap_i64]; omega
      have hw3 : IntKind.i64.wrap (2 * (f.off - 1) + k) = 2 * (f.off - 1) + k := by rw [IntKind.wrap_i64]; omega
      go_wp2_with fail
      go_cut [7, 8] (fun a b wx => CutT N0 wr r (ys.drop 16) en (2 * (f.off - 1) + k) a b wx)
      case first =>
        go_region_held3 (fun w' => w'.cell? ⟨N1, 2, none⟩ = some (.int .i64 f.off)) (first | (rw [hSs]; done) | (rw [hSa]; done) | (rw [hS0]; done) | (go_keep; done) | (trace_state; fail))
          (first | (go_at_call 122; refine (htk.out _ ((Keeps.refl _ _ wr).drew)).mono ?_; rintro e w' ⟨rfl, hR2, hK2⟩; rw [hen.out]; have hk2' : Keeps wr.heap.size [r] wr w' := (Keeps.refl _ _ wr).drew.trans hK2; have hS0 := HT.out _ hk2'; have hSa := fun o => HT.out _ (hk2'.trans ((Keeps.of_below (S := [r]) (below_box w' o)).mono hk2'.size (fun _ hi => hi)))) | (go_at_call 122; refine (htk.out _ ((Keeps.of_below (below_box wr _)).drew)).mono ?_; rintro e w' ⟨rfl, hR2, hK2⟩; rw [hen.out]; have hk2' : Keeps wr.heap.size [r] wr w' := (Keeps.of_below (S := [r]) (below_box wr _)).drew.trans (hK2.mono (by simp [World.drew]) (by simp)); have e2 : Blk w' wr.heap.size 31 zeroE := hK2.blk (by simp [World.drew]) (by simp; omega) (Blk.newAt rfl); obtain ⟨⟨v0, v1, v2⟩, v3, v4, v5⟩ := Blk.ent (e := E0) e2; have uf := e2.frozen; have ul := e2.lt; have hS0 := HT.out _ hk2'; have hSs := fun a0 a1 a2 a3 a4 a5 => HT.out _ ((((((hk2'.setCell ⟨wr.heap.size, 0, none⟩ a0 (.inr (Nat.le_refl _))).setCell ⟨wr.heap.size, 1, none⟩ a1 (.inr (Nat.le_refl _))).setCell ⟨wr.heap.size, 2, none⟩ a2 (.inr (Nat.le_refl _))).setCell ⟨wr.heap.size, 3, none⟩ a3 (.inr (Nat.le_refl _))).setCell ⟨wr.heap.size, 4, none⟩ a4 (.inr (Nat.le_refl _))).setCell ⟨wr.heap.size, 5, none⟩ a5 (.inr (Nat.le_refl _)))))
        · go_wp2_with fail
          go_meet
          case rel => exact ⟨_, rfl, rfl, hk2'.size, hk2'.trans ((Keeps.of_below (S := [r]) (below_box _ _)).mono hk2'.size (fun _ hi => hi)), hR2.grow (below_box _ _), Blk.newAt rfl⟩
        · go_wp2_with fail
          go_meet
          case rel =>
            refine ⟨_, rfl, rfl, Nat.le_refl _, ((((((hk2'.setCell _ _ (.inr (Nat.le_refl _))).setCell _ _ (.inr (Nat.le_refl _))).setCell _ _ (.inr (Nat.le_refl _))).setCell _ _ (.inr (Nat.le_refl _))).setCell _ _ (.inr (Nat.le_refl _))).setCell _ _ (.inr (Nat.le_refl _))), ?_, (((((e2.set_ 0 _).set_ 1 _).set_ 2 _).set_ 3 _).set_ 4 _).set_ 5 _⟩
            exact hR2.other ((((((((Keeps.refl _ [wr.heap.size] w').setCell _ _ (.inl (by simp))).setCell _ _ (.inl (by simp))).setCell _ _ (.inl (by simp))).setCell _ _ (.inl (by simp))).setCell _ _ (.inl (by simp))).setCell _ _ (.inl (by simp)))) e2 (by decide)
      case rest =>
        obtain ⟨be, rfl, rfl, nb, K2, R2, E2⟩ := hcut
        obtain ⟨W2, rfl⟩ : ∃ W2 : World, W2 = wc := ⟨_, rfl⟩
        have rn : r ≠ w.heap.size ∧ r ≠ N1 ∧ r ≠ p ∧ r ≠ bl ∧ r ≠ bv := by omega
        have hG2 : FgAt w N1 r N0 s p bl bv f (ys.drop 16) W2 := ⟨HF.out.u.trans (Keeps.drop (K2.mono HF.out.u.size (fun _ h => h)) (by simp; omega)), K2.blk HF.out.y.lt (by simp; omega) HF.out.y, K2.blk HF.out.f.lt (by simp; omega) HF.out.f, R2⟩
        have hM2 : MapAt W2 p bl bv g l' lv' := by
          have := HM.out.lt
          exact HM.out.keeps K2 (by simp; omega) (by simp; omega) (by simp; omega)
        have G2 := Lib.hid hG2
        have M2 := Lib.hid hM2
        have E2' := Lib.hid E2
        obtain ⟨⟨y0, y1⟩, y2, y3⟩ := hG2.y.scells
        have hgo' : Hid (fillGo g (fillB f) (unPart f.bd) l = fillGo g (2 * (f.off - 1) + k) (en :: (unPart f.bd).drop (k + 1)) l') := Lib.hid (by rw [HG.out, HD.out]; rfl)
        clear HG HD K2 R2 E2 hG2 hM2 HT htk hbc HF HM
        go_wp2_with fail
        refine Calls.mono (R := fun r w' => r = .returned (.agg #[.int .i64 g.D, .int .i64 g.Z, .int .i64 g.S, .int .i64 g.B, .int .i64 g.P, .int .i64 g.O]) ∧ Below W2.heap.size W2 w') (map_geom W2 p bl bv g l' lv' M2.out) ?_
        rintro e w3 ⟨rfl, hb3⟩
        have hgk : Hid (fillGo g (2 * (f.off - 1) + k) (en :: (unPart f.bd).drop (k + 1)) l' = if g.B ≤ 2 * (f.off - 1) + k then (l', 0) else if setCode g l' (2 * (f.off - 1) + k) en = 0 then fillGo g (2 * (f.off - 1) + k + 1) ((unPart f.bd).drop (k + 1)) (setL g l' (2 * (f.off - 1) + k) en) else (l', setCode g l' (2 * (f.off - 1) + k) en)) := Lib.hid rfl
        obtain ⟨b, hb⟩ : ∃ b, Hid (2 * (f.off - 1) + (k : Int) = b) := ⟨_, Lib.hid rfl⟩
        rw [hb.out] at hgk hgo' ⊢
        have hG3 : FgAt w N1 r N0 s p bl bv f (ys.drop 16) w3 := ⟨G2.out.u.trans ((Keeps.of_below (S := [bl, bv]) hb3).mono G2.out.u.size (fun _ h => h)), (Keeps.of_below (S := []) hb3).blk G2.out.y.lt (by simp) G2.out.y, (Keeps.of_below (S := []) hb3).blk G2.out.f.lt (by simp) G2.out.f, G2.out.r.grow hb3⟩
        have G3 := Lib.hid hG3
        have M3 := Lib.hid (M2.out.grow hb3)
        have E3 := (Keeps.of_below (S := []) hb3).blk E2'.out.lt (by simp) E2'.out
        clear y0 y1 y2 y3 hb3 G2 M2
        obtain ⟨⟨y0, y1⟩, y2, y3⟩ := hG3.y.scells
        obtain ⟨⟨e0, e1, e2⟩, e3, e4, e5⟩ := E3.ent
        clear hG3
        have hfb := geo_blocks g w3
        by_cases hbB : g.B ≤ b
        · have hfin : fillGo g (fillB f) (unPart f.bd) l = (l', 0) := by rw [hgo'.out, hgk.out, if_pos hbB]
          have HFin := Lib.hid hfin
          clear hfin
          go_wp2
          go_ret
          exact ⟨by rw [HFin.out]; rfl, ⟨lv', by rw [HFin.out]; exact M3.out, by rw [HFin.out]; exact HO.out⟩, G3.out.u⟩
        · have HbB := Lib.hid hbB
          go_wp2_with fail
          refine (map_set w3 p bl bv g l' lv' M3.out HO.out b en).mono ?_
          rintro e w4 ⟨rfl, hM4, hk4⟩
          have hO4 := Lib.hid (HO.out.setv b en)
          have M4 := Lib.hid hM4
          have nn : N0 ≤ w3.heap.size := by have := G3.out.r.lt; omega
          have hG4 : FgAt w N1 r N0 s p bl bv f (ys.drop 16) w4 := by
            exact ⟨G3.out.u.trans (hk4.mono G3.out.u.size (fun _ h => h)), hk4.blk G3.out.y.lt (by simp; omega) G3.out.y, hk4.blk G3.out.f.lt (by have h1 := HN1.out; simp; omega) G3.out.f, G3.out.r.keeps hk4 (by simp; omega)⟩
          have G4 := Lib.hid hG4
          clear hM4 hk4 hG4 y0 y1 y2 y3 e0 e1 e2 e3 e4 e5
          by_cases hcd : setCode g l' b en = 0
          · have hgk' : Hid (fillGo g (fillB f) (unPart f.bd) l = fillGo g (b + 1) ((unPart f.bd).drop (k + 1)) (setL g l' b en)) := Lib.hid (by rw [hgo'.out, hgk.out, if_neg (Int.not_le.2 HbB.out), if_pos hcd])
            clear hgk hgo'
            rw [hcd]
            go_wp2
            go_roundw
            case rel =>
              refine ⟨k + 1, _, _, by omega, by simp, ?_, M4.out, hO4.out, ?_⟩
              · rw [hgk'.out, ← hb.out]
                congr 1
                unfold fillB
                simp
                omega
              · have : ((f.bd.drop 1).drop (16 * (k + 1))) = ys.drop 16 := by rw [← hys.out, List.drop_drop, List.drop_drop, List.drop_drop]; congr 1
                rw [this]
                exact G4.out
            case measure => simp [intOf]; omega
          · have hfin : fillGo g (fillB f) (unPart f.bd) l = (l', setCode g l' b en) := by rw [hgo'.out, hgk.out, if_neg (Int.not_le.2 HbB.out), if_neg hcd]
            have hsame : setL g l' b en = l' ∧ setV g l' lv' b en = lv' := by unfold setL setV; rw [if_neg hcd, if_neg hcd]; exact ⟨rfl, rfl⟩
            have HFin := Lib.hid hfin
            have HSm := Lib.hid hsame
            clear hfin hgk hgo' hsame
            obtain ⟨cd, hcc⟩ : ∃ cd, Hid (setCode g l' b en = cd) := ⟨_, Lib.hid rfl⟩
            rw [hcc.out] at hcd ⊢
            go_wp2
            go_ret
            refine ⟨by rw [HFin.out, hcc.out]; rfl, ⟨lv', ?_, ?_⟩, G4.out.u⟩
            · have := M4.out
              rw [HSm.out.1, HSm.out.2] at this
              rw [HFin.out]
              exact this
            · rw [HFin.out]
              exact HO.out
    · obtain rfl : k = 2 := by omega
      have hfin : fillGo g (fillB f) (unPart f.bd) l = (l', 0) := by
        rw [HG.out]
        simp [unPart, fillGo]
      have HFin := Lib.hid hfin
      clear hfin
      go_wp2
      go_ret
      exact ⟨by rw [HFin.out]; rfl, ⟨lv', by rw [HFin.out]; exact HM.out, by rw [HFin.out]; exact HO.out⟩, HF.out.u⟩
end Go.Proofs.Ytcgafnmpfdkfoaa
