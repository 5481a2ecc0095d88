/- snap.Read: any frames. -/
import Derived.Test.YtcgafnmpfdkfoaaRead0
namespace Go.Proofs.Ytcgafnmpfdkfoaa
open Go.RowKit

set_option maxRecDepth 100000 in
theorem read_nil (w : World) (A : Option Addr) (c : Nat) : Calls Try.prog 46 #[.slice A 0 c] w (ReadPost w []) := by
  obtain ⟨V0, hV0⟩ : ∃ V0, w.alloc (.cells #[.int .i64 0, .int .i64 0, .int .i64 0, .pointer none] 53) = V0 := ⟨_, rfl⟩
  have k0 : Blk V0 w.heap.size 53 #[.int .i64 0, .int .i64 0, .int .i64 0, .pointer none] := by rw [← hV0]; exact Blk.newAt rfl
  have b0 : Below w.heap.size w V0 := by rw [← hV0]; exact below_box _ _
  have K0 := Lib.hid k0
  have B0 := Lib.hid b0
  clear b0 k0
  go_enter Try.func46, Try.ntmps46
  go_wp2_with (refine wpList_store_blk rfl 53 (.tmp 2) (.tmp 15) rfl w.heap.size 0 #[.int .i64 0, .int .i64 0, .int .i64 0, .pointer none] rfl rfl K0.out (Nat.le_refl 4) size_snap (by simp [Value.oneCell']) ?_; intro w2 hG2 hK2 hs2)
  have e2 : Blk w2 w.heap.size 53 #[.int .i64 0, .int .i64 0, .int .i64 0, .pointer none] := by have := hG2.out; rwa [over_all rfl] at this
  have r1 : (loadVar 53 ⟨w.heap.size, 0, none⟩).run Try.prog w2 = .ok sn0 w2 := run_loadVar_row _ _ _ _ _ _ _ e2 Try.underlying53 rfl size_snap
  refine bodyPost_ret (v := .tuple #[sn0, .int .i64 10]) ?_ rfl ⟨?_, .inl ⟨rfl, rfl⟩⟩
  · simp [results, Try.results46, asAddr, r1]
  · exact B0.out.trans (Keeps.below (hK2.out.mono B0.out.size (fun _ h => h)) (by simp))
/-- A guarded read of a block that is known whole, where the guard holds. -/
theorem wpList_load_blk_g {P : Program} {ops : Array Oper} {rest : List Oper} {op : Oper} {a : Act} {w : World} {Q : Exit → Act → World → Prop} (ty : TypeId) (x : Operand) (ho : op.op = .load ty x)
    (b o : Nat) (hx : a.eval x = .pointer (some ⟨b, o, none⟩)) {t : TypeId} {cs : Array Value} (hB : Blk w b t cs) (D : Array Value) (hD : (cs.toList.drop o).take D.size = D.toList) (d : TypeDesc)
    (hu : P.underlying ty = some d) (hd : d.isRow = true) (hi : (P.info? ty).map (·.size) = some D.size) (hw : Region.wanted op (yielded ops a.tmps) = true)
    (h : wpList P ops Q rest (a.put op.dst (.agg D)) w) : wpList P ops Q (op :: rest) a w := by
  simp only [wpList, hw, if_true]
  refine .inl (wp_load_mid ty x ho b o hx D.toList d ?_ hu hd (by simpa using hi) (by simpa using h))
  intro j v hv
  rw [hB.cell]
  rw [← hD, List.getElem?_take] at hv
  split at hv
  · rw [List.getElem?_drop] at hv; simpa using hv
  · cases hv
/-- What stands while frames are read. -/
structure RgAt (w : World) (st : Nat) (s : Sn) (p : Nat) (W : World) : Prop where
  u : Below w.heap.size w W
  o : Blk W w.heap.size 53 #[.int .i64 0, .int .i64 0, .int .i64 0, .pointer none]
  y : Blk W st 53 (s.arr p)
theorem RgAt.grow {w : World} {st : Nat} {s : Sn} {p : Nat} {W W' : World} (h : RgAt w st s p W) (k : Below W.heap.size W W') : RgAt w st s p W' :=
  ⟨h.u.trans (k.mono h.u.size), (Keeps.of_below (S := []) k).blk h.o.lt (by simp) h.o, (Keeps.of_below (S := []) k).blk h.y.lt (by simp) h.y⟩
theorem RgAt.keeps {w : World} {st bl bv : Nat} {s : Sn} {p : Nat} {W W' : World} (h : RgAt w st s p W) (k : Keeps W.heap.size [bl, bv] W W') (h1 : w.heap.size < bl ∧ w.heap.size < bv) (h2 : bl < st ∧ bv < st) : RgAt w st s p W' :=
  ⟨h.u.trans (Keeps.below (k.mono h.u.size (fun _ hi => hi)) (by simp; omega)), k.blk h.o.lt (by simp; omega) h.o, k.blk h.y.lt (by simp; omega) h.y⟩
theorem geom_parts_n (g : G) (w : World) (np : Nat) (hn : (np : Int) = g.parts) (h0 : 0 ≤ g.B) (h1 : g.B ≤ 1000000) : Calls Try.prog 43 #[g.v] w fun e w' => e = .returned (.int .i64 np) ∧ Below w.heap.size w w' :=
  (geom_parts g w h0 h1).mono fun e w' ⟨h2, h3⟩ => ⟨by rw [hn]; exact h2, by rw [← h3]; exact below_box _ _⟩

set_option maxRecDepth 100000 in
set_option maxHeartbeats 2000000 in
theorem read_some (w : World) (b off c : Nat) (f0 : Fr) (fs : List Fr) (h : FrsAt w (some ⟨b, off, none⟩) (fs.length + 1) c (f0 :: fs)) : Calls Try.prog 46 #[.slice (some ⟨b, off, none⟩) (fs.length + 1) c] w (ReadPost w (f0 :: fs)) := by
  obtain ⟨n, hn⟩ : ∃ n, fs.length + 1 = n := ⟨_, rfl⟩
  rw [hn] at h ⊢
  obtain ⟨V0, hV0⟩ : ∃ V0, w.alloc (.cells #[.int .i64 0, .int .i64 0, .int .i64 0, .pointer none] 53) = V0 := ⟨_, rfl⟩
  have k0 : Blk V0 w.heap.size 53 #[.int .i64 0, .int .i64 0, .int .i64 0, .pointer none] := by rw [← hV0]; exact Blk.newAt rfl
  have b0 : Below w.heap.size w V0 := by rw [← hV0]; exact below_box _ _
  have HF := Lib.hid (h.grow b0)
  obtain ⟨l1, hnc, hcm, l4, l5⟩ := h
  obtain ⟨b', off', e1, e2, e3⟩ := l5 (by omega)
  obtain ⟨rfl, rfl⟩ : b = b' ∧ off = off' := by simpa using e1
  have hn1 : 1 ≤ n := by omega
  have hcm2 : c ≤ 9223372036854775807 := by unfold maxLen at hcm; omega
  have r0 : V0.rangeAt b off f0.arr.toList := rangeAt_below (by simpa using e3 0 f0 rfl) e2 b0
  have ok0 := l4 f0 (by simp)
  have hi0 : (Try.prog.info? 64).map (·.size) = some f0.arr.toList.length := by rw [Array.length_toList, Fr.size ok0.1]; exact size_frame
  have K0 := Lib.hid k0
  have B0 := Lib.hid b0
  have R0 := Lib.hid r0
  have HI0 := Lib.hid hi0
  have HL5 := Lib.hid e3
  have HL4 := Lib.hid l4
  clear b0 k0 r0 hi0 e3 l4 l5 e1
  go_enter Try.func46, Try.ntmps46
  go_wp2_with (refine wpList_load_mid rfl 64 (.tmp 18) rfl b off rfl f0.arr.toList _ R0.out Try.underlying64 rfl HI0.out ?_)
  clear hV0
  refine (snap_begin V0 f0 ok0.1 ok0.2).mono ?_
  rintro e w1 ⟨hb1, hpost⟩
  cases hr : (unGeo f0.bd).right with
  | false =>
    rw [if_neg (by rw [hr]; simp)] at hpost
    subst hpost
    have hnone : Hid (readR (f0 :: fs) = none) := Lib.hid (by simp [readR, readL, hr])
    have K1 := Lib.hid (((Keeps.of_below (S := []) hb1).blk K0.out.lt (by simp) K0.out).alloc (.cells #[.int .i64 f0.sq, .int .i64 f0.ep, .int .i64 (unNx f0.bd), .pointer none] 53))
    have U1 : Hid (Below w.heap.size w (w1.alloc (.cells #[.int .i64 f0.sq, .int .i64 f0.ep, .int .i64 (unNx f0.bd), .pointer none] 53))) := Lib.hid ((B0.out.trans (hb1.mono B0.out.size)).alloc (by have := B0.out.size; have := hb1.size; omega) _)
    clear hb1
    go_wp2_with (refine wpList_store_blk rfl 53 (.tmp 2) (.tmp 34) rfl w.heap.size 0 #[.int .i64 0, .int .i64 0, .int .i64 0, .pointer none] rfl rfl K1.out (Nat.le_refl 4) size_snap (by simp [Value.oneCell']) ?_; intro w2 hG2 hK2 hs2)
    have e2 : Blk w2 w.heap.size 53 #[.int .i64 0, .int .i64 0, .int .i64 0, .pointer none] := by have := hG2.out; rwa [over_all rfl] at this
    have r1 : (loadVar 53 ⟨w.heap.size, 0, none⟩).run Try.prog w2 = .ok sn0 w2 := run_loadVar_row _ _ _ _ _ _ _ e2 Try.underlying53 rfl size_snap
    refine bodyPost_ret (v := .tuple #[sn0, .int .i64 10]) ?_ rfl ⟨?_, .inl ⟨hnone.out, rfl⟩⟩
    · simp [results, Try.results46, asAddr, r1]
    · exact U1.out.trans (Keeps.below (hK2.out.mono U1.out.size (fun _ h => h)) (by simp))
  | true =>
    rw [if_pos hr] at hpost
    obtain ⟨p, bl, bv, rfl, hM, np, nl, nv⟩ := hpost
    obtain ⟨g, hg⟩ : ∃ g, Hid (unGeo f0.bd = g) := ⟨_, Lib.hid rfl⟩
    obtain ⟨s, hs⟩ : ∃ s, Hid (sn1 f0 = s) := ⟨_, Lib.hid rfl⟩
    have hsv : (Sn.v ⟨f0.sq, f0.ep, unNx f0.bd⟩ p) = s.v p := by rw [← hs.out]; rfl
    rw [hsv]
    rw [hg.out] at hr hM
    obtain ⟨q, hq⟩ : ∃ q, Hid (npG g = q) := ⟨_, Lib.hid rfl⟩
    have hpp := npG_parts hr
    rw [hq.out] at hpp
    obtain ⟨V1, hV1⟩ : ∃ V, w1.alloc (s.box p) = V := ⟨_, rfl⟩
    have b1 : Below w1.heap.size w1 V1 := by rw [← hV1]; exact below_box _ _
    have G1 : Hid (RgAt w w1.heap.size s p V1) := Lib.hid ⟨B0.out.trans ((hb1.trans (b1.mono hb1.size)).mono B0.out.size), (Keeps.of_below (S := []) (hb1.trans (b1.mono hb1.size))).blk K0.out.lt (by simp) K0.out, by rw [← hV1]; exact Blk.newAt rfl⟩
    have M1 := Lib.hid (hM.grow b1)
    have HP := Lib.hid hpp
    have HS := Lib.hid (G.small_of_right hr)
    have NN : Hid ((w.heap.size < bl ∧ w.heap.size < bv ∧ w.heap.size < p) ∧ bl < w1.heap.size ∧ bv < w1.heap.size ∧ p < w1.heap.size) := by
      have h1 := hM.lt
      have h2 := K0.out.lt
      exact Lib.hid ⟨⟨by omega, by omega, by omega⟩, by omega, by omega, by omega⟩
    have HR := Lib.hid hr
    obtain ⟨⟨y0, y1⟩, y2, y3⟩ := G1.out.y.scells
    clear hb1 hM b1 hpp np nl nv hr hsv
    go_wp2_with fail
    clear hV1
    refine (map_geom V1 p bl bv g _ _ M1.out).mono ?_
    rintro e w2 ⟨rfl, hb2⟩
    have G2 := Lib.hid (G1.out.grow hb2)
    have M2 := Lib.hid (M1.out.grow hb2)
    clear hb2 y0 y1 y2 y3
    go_wp2_with fail
    refine (geom_parts_n g w2 q HP.out.1 (by have := HS.out.B0; omega) (by have := HS.out.B1; omega)).mono ?_
    rintro e w3 ⟨rfl, hb3⟩
    have G3 := Lib.hid (G2.out.grow hb3)
    have M3 := Lib.hid (M2.out.grow hb3)
    clear hb3
    by_cases hlen : n < q
    · have hnone : Hid (readR (f0 :: fs) = none) := Lib.hid (by
        have : ¬ ((unGeo f0.bd).right = true ∧ npG (unGeo f0.bd) ≤ (f0 :: fs).length) := by rw [hg.out, hq.out, l1]; omega
        simp only [readR, readL, if_neg this])
      go_wp2_with (refine wpList_store_blk rfl 53 (.tmp 2) (.tmp 34) rfl w.heap.size 0 #[.int .i64 0, .int .i64 0, .int .i64 0, .pointer none] rfl rfl G3.out.o (Nat.le_refl 4) size_snap (by simp [Value.oneCell']) ?_; intro w2 hG2 hK2 hs2)
      have e2 : Blk w2 w.heap.size 53 #[.int .i64 0, .int .i64 0, .int .i64 0, .pointer none] := by have := hG2.out; rwa [over_all rfl] at this
      have r1 : (loadVar 53 ⟨w.heap.size, 0, none⟩).run Try.prog w2 = .ok sn0 w2 := run_loadVar_row _ _ _ _ _ _ _ e2 Try.underlying53 rfl size_snap
      refine bodyPost_ret (v := .tuple #[sn0, .int .i64 10]) ?_ rfl ⟨?_, .inl ⟨hnone.out, rfl⟩⟩
      · simp [results, Try.results46, asAddr, r1]
      · exact G3.out.u.trans (Keeps.below (hK2.out.mono G3.out.u.size (fun _ h => h)) (by simp))
    · have hle : q ≤ n := by omega
      have hq2 : 2 ≤ q := HP.out.2.1
      obtain ⟨⟨y0, y1⟩, y2, y3⟩ := G3.out.y.scells
      go_wp2_with fail
      refine (map_geom w3 p bl bv g _ _ M3.out).mono ?_
      rintro e w4 ⟨rfl, hb4⟩
      have G4 := Lib.hid (G3.out.grow hb4)
      have M4 := Lib.hid (M3.out.grow hb4)
      clear hb4 y0 y1 y2 y3
      go_wp2_with fail
      refine (geom_parts_n g w4 q HP.out.1 (by have := HS.out.B0; omega) (by have := HS.out.B1; omega)).mono ?_
      rintro e w5 ⟨rfl, hb5⟩
      have G5 := Lib.hid (G4.out.grow hb5)
      have M5 := Lib.hid (M4.out.grow hb5)
      clear hb5
      go_wp2_with fail
      obtain ⟨RL, hRL⟩ : ∃ RL, Hid (readGo g 1 (((f0 :: fs).take q).drop 1) (nones g) = RL) := ⟨_, Lib.hid rfl⟩
      have hRR : Hid (RL = none → readR (f0 :: fs) = none) := Lib.hid fun h => by
        have h1 : (unGeo f0.bd).right = true ∧ npG (unGeo f0.bd) ≤ (f0 :: fs).length := by rw [hg.out, hq.out, l1]; exact ⟨HR.out, hle⟩
        have h2 : readL f0 (f0 :: fs) = none := by
          unfold readL
          rw [if_pos h1, hg.out, hq.out, hRL.out]
          exact h
        simp only [readR, h2]
      go_loopw [43] (fun i wr => ∃ (k : Nat) (l' : List E) (lv' : List Int), k ≤ q - 1 ∧ i = .int .i64 k ∧ RL = readGo g (k + 1) (((f0 :: fs).take q).drop (k + 1)) l' ∧ MapAt wr p bl bv g l' lv' ∧ MapOk g l' lv' ∧ RgAt w w1.heap.size s p wr) (fun i _ => q - (intOf i).toNat)
      case atStart => exact ⟨0, nones g, noLive g, Nat.zero_le _, rfl, hRL.out.symm, M5.out, MapOk.new HR.out, G5.out⟩
      case round =>
        obtain ⟨k, l', lv', hk, rfl, hgo, hM, hO, hG⟩ := hrel
        have HGo := Lib.hid hgo
        have HM := Lib.hid hM
        have HO := Lib.hid hO
        have HG := Lib.hid hG
        clear hgo hM hO hG
        by_cases hlt : k < q - 1
        · obtain ⟨fk, hfk⟩ : ∃ fk, (f0 :: fs)[k + 1]? = some fk := ⟨_, List.getElem?_eq_getElem (by omega)⟩
          have okk := HL4.out fk (List.mem_of_getElem? hfk)
          have hszk := Fr.size okk.1
          have rk : wr.rangeAt b (off + 49 + k * 49) fk.arr.toList := by
            have := rangeAt_below (HL5.out (k + 1) fk hfk) e2 HG.out.u
            rwa [show off + (k + 1) * 49 = off + 49 + k * 49 by omega] at this
          have hik : (Try.prog.info? 64).map (·.size) = some fk.arr.toList.length := by rw [Array.length_toList, Fr.size okk.1]; exact size_frame
          have hib : (Try.prog.info? 64).map (·.size) = some fk.arr.size := by rw [Fr.size okk.1]; exact size_frame
          have hst1 : ∀ W : World, (storeCells ⟨W.heap.size, 0, none⟩ fk.arr.toList 0).run Try.prog (W.alloc (.cells Z49 64)) = .ok () (W.alloc (.cells fk.arr 64)) := fun W => run_storeCells_new W 64 Z49 fk.arr hib (by rw [Fr.size okk.1]; rfl) (Fr.one fk)
          have hdr : Hid (((f0 :: fs).take q).drop (k + 1) = fk :: ((f0 :: fs).take q).drop (k + 1 + 1)) := Lib.hid (by
            have h1 : ((f0 :: fs).take q)[k + 1]? = some fk := by rw [List.getElem?_take, if_pos (by omega)]; exact hfk
            obtain ⟨h2, h3⟩ := List.getElem?_eq_some_iff.1 h1
            rw [List.drop_eq_getElem_cons h2, h3])
          obtain ⟨V6, hV6⟩ : ∃ V, wr.alloc (.cells fk.arr 64) = V := ⟨_, rfl⟩
          have b6 : Below wr.heap.size wr V6 := by rw [← hV6]; exact below_box _ _
          have F6 : Blk V6 wr.heap.size 64 fk.arr := by rw [← hV6]; exact Blk.newAt rfl
          have G6 := Lib.hid (HG.out.grow b6)
          have M6 := Lib.hid (HM.out.grow b6)
          have H6 := Lib.hid F6
          have x2 := F6.fcells.2.1.1
          have RK := Lib.hid rk
          have IK := Lib.hid hik
          have IB := Lib.hid hib
          have OK' := Lib.hid okk
          obtain ⟨⟨y0, y1⟩, y2, y3⟩ := G6.out.y.scells
          clear hfk okk rk hik hib b6 F6
          by_cases hoff : fk.off = k + 1
          · have hne : (fk.off != ((k : Int) + 1)) = false := by simp [hoff]
            have ho1 : Hid (1 ≤ fk.off ∧ fk.off ≤ 1000) := Lib.hid (by have := HP.out; omega)
            have Hoff := Lib.hid hoff
            clear hoff
            go_wp2_with (first | (refine wpList_load_mid rfl 64 (.tmp 46) rfl b (off + 49 + k * 49) rfl fk.arr.toList _ RK.out Try.underlying64 rfl IK.out ?_) | (refine wpList_load_blk_g 64 (.tmp 8) rfl wr.heap.size 0 rfl H6.out fk.arr (row_whole fk.arr) _ Try.underlying64 rfl IB.out rfl ?_))
            clear hV6 y0 y1 y2 y3 x2 hst1 hszk hne
            obtain ⟨L', hL'⟩ : ∃ L', Hid ((fillGo g (fillB fk) (unPart fk.bd) l').1 = L') := ⟨_, Lib.hid rfl⟩
            refine (snap_fill V6 p bl bv g l' lv' s M6.out HO.out fk OK'.out.1 OK'.out.2 ho1.out.1 ho1.out.2).mono ?_
            rintro e w7 ⟨rfl, ⟨lv7, hM7, hO7⟩, hK7⟩
            rw [hL'.out] at hM7 hO7
            have G7 := Lib.hid (G6.out.keeps hK7 ⟨NN.out.1.1, NN.out.1.2.1⟩ ⟨NN.out.2.1, NN.out.2.2.1⟩)
            have M7 := Lib.hid hM7
            have O7 := Lib.hid hO7
            clear hM7 hO7 hK7
            by_cases hcd : (fillGo g (fillB fk) (unPart fk.bd) l').2 = 0
            · rw [hcd]
              have hnx : Hid (RL = readGo g (k + 1 + 1) (((f0 :: fs).take q).drop (k + 1 + 1)) L') := Lib.hid (by rw [HGo.out, hdr.out, readGo_good _ _ _ _ _ ⟨by rw [Hoff.out]; simp, hcd⟩, hL'.out])
              clear hcd
              go_wp2
              go_roundw
              case rel => exact ⟨k + 1, L', lv7, by omega, by simp, hnx.out, M7.out, O7.out, G7.out⟩
              case measure => simp [intOf]; omega
            · have hnone : Hid (readR (f0 :: fs) = none) := Lib.hid (hRR.out (by rw [HGo.out, hdr.out]; exact readGo_bad _ _ _ _ _ (fun h => hcd h.2)))
              generalize (fillGo g (fillB fk) (unPart fk.bd) l').2 = cd at hcd
              go_wp2_with (refine wpList_store_blk rfl 53 (.tmp 2) (.tmp 59) rfl w.heap.size 0 #[.int .i64 0, .int .i64 0, .int .i64 0, .pointer none] rfl rfl G7.out.o (Nat.le_refl 4) size_snap (by simp [Value.oneCell']) ?_; intro w2 hG2 hK2 hs2)
              have e2 : Blk w2 w.heap.size 53 #[.int .i64 0, .int .i64 0, .int .i64 0, .pointer none] := by have := hG2.out; rwa [over_all rfl] at this
              have r1 : (loadVar 53 ⟨w.heap.size, 0, none⟩).run Try.prog w2 = .ok sn0 w2 := run_loadVar_row _ _ _ _ _ _ _ e2 Try.underlying53 rfl size_snap
              refine bodyPost_ret (v := .tuple #[sn0, .int .i64 10]) ?_ rfl ⟨?_, .inl ⟨hnone.out, rfl⟩⟩
              · simp [results, Try.results46, asAddr, r1]
              · exact G7.out.u.trans (Keeps.below (hK2.out.mono G7.out.u.size (fun _ h => h)) (by simp))
          · have hne : (fk.off != ((k : Int) + 1)) = true := by simpa using hoff
            have hnone : Hid (readR (f0 :: fs) = none) := Lib.hid (hRR.out (by rw [HGo.out, hdr.out]; exact readGo_bad _ _ _ _ _ (fun h => hoff (by have := h.1; omega))))
            clear hoff
            go_wp2_with (first | (refine wpList_load_mid rfl 64 (.tmp 46) rfl b (off + 49 + k * 49) rfl fk.arr.toList _ RK.out Try.underlying64 rfl IK.out ?_) | (refine wpList_store_blk rfl 53 (.tmp 2) (.tmp 59) rfl w.heap.size 0 #[.int .i64 0, .int .i64 0, .int .i64 0, .pointer none] rfl rfl G6.out.o (Nat.le_refl 4) size_snap (by simp [Value.oneCell']) ?_; intro w2 hG2 hK2 hs2))
            have e2 : Blk w2 w.heap.size 53 #[.int .i64 0, .int .i64 0, .int .i64 0, .pointer none] := by have := hG2.out; rwa [over_all rfl] at this
            have r1 : (loadVar 53 ⟨w.heap.size, 0, none⟩).run Try.prog w2 = .ok sn0 w2 := run_loadVar_row _ _ _ _ _ _ _ e2 Try.underlying53 rfl size_snap
            refine bodyPost_ret (v := .tuple #[sn0, .int .i64 10]) ?_ rfl ⟨?_, .inl ⟨hnone.out, rfl⟩⟩
            · simp [results, Try.results46, asAddr, r1]
            · exact G6.out.u.trans (Keeps.below (hK2.out.mono G6.out.u.size (fun _ h => h)) (by simp))
        · obtain rfl : k = q - 1 := by omega
          have hrl : Hid (readL f0 (f0 :: fs) = some l') := Lib.hid (by
            have h1 : (unGeo f0.bd).right = true ∧ npG (unGeo f0.bd) ≤ (f0 :: fs).length := by rw [hg.out, hq.out, l1]; exact ⟨HR.out, hle⟩
            unfold readL
            rw [if_pos h1, hg.out, hq.out, hRL.out, HGo.out, List.drop_of_length_le (by rw [List.length_take]; omega)]
            rfl)
          have hxn : Hid (readOk f0 (f0 :: fs) l' = false → readR (f0 :: fs) = none) := Lib.hid fun h => by
            simp only [readR, hrl.out, h]
            rfl
          obtain ⟨⟨y0, y1⟩, y2, y3⟩ := HG.out.y.scells
          have hzn : wr.cell? ⟨b, off + 1, none⟩ = some (.int .i64 f0.zn) := by
            have := rangeAt_below (HL5.out 0 f0 rfl) e2 HG.out.u 1 (.int .i64 f0.zn) (by unfold Fr.arr; simp)
            simpa using this
          have HT : Hid (∀ w', Below wr.heap.size wr w' → (w'.cell? ⟨w1.heap.size, 0, none⟩ = some (.int .i64 s.gen) ∧ w'.cell? ⟨w1.heap.size, 1, none⟩ = some (.int .i64 s.ep) ∧ w'.cell? ⟨w1.heap.size, 2, none⟩ = some (.int .i64 s.nx) ∧ w'.cell? ⟨w1.heap.size, 3, none⟩ = some (.pointer (some ⟨p, 0, none⟩))) ∧ w'.cell? ⟨b, off + 1, none⟩ = some (.int .i64 f0.zn)) :=
            Lib.hid fun w' hb => by
              have h1 := (HG.out.grow hb).y.scells
              exact ⟨⟨h1.1.1, h1.1.2, h1.2.1, h1.2.2⟩, (hb.cell (p := ⟨b, off + 1, none⟩) (Nat.lt_of_lt_of_le e2 HG.out.u.size)).trans hzn⟩
          have hbl : b < wr.heap.size := Nat.lt_of_lt_of_le e2 HG.out.u.size
          have hyl := HG.out.y.lt
          have hz1000 := HO.out.len1000
          by_cases hbad : s.right l' = false ∨ g.holds f0.zn 0 = false
          · have hnone : Hid (readR (f0 :: fs) = none) := Lib.hid (hxn.out (by
              unfold readOk
              rw [decide_eq_false_iff_not, hg.out, hs.out]
              rintro ⟨h1, h2, _⟩
              rcases hbad with h | h
              · rw [h] at h1; cases h1
              · rw [h] at h2; cases h2))
            have hfr := Lib.hid (fun W (hb : Below wr.heap.size wr W) => frames_err W p bl bv g l' lv' s (HM.out.grow hb) hz1000 f0.zn hbad)
            clear hbad
            have hfrom := @From.cell wr
            go_wp2_with fail
            refine region_from (by kernel_rfl) (by kernel_rfl) ?_
            repeat (go_big_quiet_step ((go_at_call 39; exact from_call (hfr.out _ (From.below _)))))
            refine wpQuiet_nil ?_
            intro W hW
            have G8 := Lib.hid (HG.out.grow hW)
            clear hW hfrom y0 y1 y2 y3 hzn
            go_wp2_with (refine wpList_store_blk rfl 53 (.tmp 2) (.tmp 72) rfl w.heap.size 0 #[.int .i64 0, .int .i64 0, .int .i64 0, .pointer none] rfl rfl G8.out.o (Nat.le_refl 4) size_snap (by simp [Value.oneCell']) ?_; intro w2 hG2 hK2 hs2)
            have e2 : Blk w2 w.heap.size 53 #[.int .i64 0, .int .i64 0, .int .i64 0, .pointer none] := by have := hG2.out; rwa [over_all rfl] at this
            have r1 : (loadVar 53 ⟨w.heap.size, 0, none⟩).run Try.prog w2 = .ok sn0 w2 := run_loadVar_row _ _ _ _ _ _ _ e2 Try.underlying53 rfl size_snap
            refine bodyPost_ret (v := .tuple #[sn0, .int .i64 10]) ?_ rfl ⟨?_, .inl ⟨hnone.out, rfl⟩⟩
            · simp [results, Try.results46, asAddr, r1]
            · exact G8.out.u.trans (Keeps.below (hK2.out.mono G8.out.u.size (fun _ h => h)) (by simp))
          · have hsr : s.right l' = true := by cases h : s.right l' with | true => rfl | false => exact absurd (.inl h) hbad
            have hho : g.holds f0.zn 0 = true := by cases h : g.holds f0.zn 0 with | true => rfl | false => exact absurd (.inr h) hbad
            have hfr := Lib.hid (fun W (hb : Below wr.heap.size wr W) => frames_yes W p bl bv g l' lv' s (HM.out.grow hb) (HO.out.sn hsr) f0.zn hho)
            have HSR := Lib.hid (And.intro hsr hho)
            clear hbad hsr hho
            have h0n : (0 : Int) < (n : Int) := by omega
            have h0N : 0 < n := by omega
            have h0NN : ¬ (n = 0) := by omega
            have h00 : (0 : Int) ≤ 0 := by omega
            go_wp2_with fail
            go_region_held3 (fun w' => (w'.cell? ⟨w1.heap.size, 0, none⟩ = some (.int .i64 s.gen) ∧ w'.cell? ⟨w1.heap.size, 1, none⟩ = some (.int .i64 s.ep) ∧ w'.cell? ⟨w1.heap.size, 2, none⟩ = some (.int .i64 s.nx) ∧ w'.cell? ⟨w1.heap.size, 3, none⟩ = some (.pointer (some ⟨p, 0, none⟩))) ∧ w'.cell? ⟨b, off + 1, none⟩ = some (.int .i64 f0.zn)) (first | (go_keep; done) | exact HT.out _ hb8 | (trace_state; fail))
              ((go_at_call 39; refine (hfr.out _ (below_drew (Below.refl _ _))).mono ?_; rintro e w8 ⟨b1, c1, rfl, _, hL1, hb8'⟩; have hb8 : Below wr.heap.size wr w8 := (below_drew (Below.refl _ _)).trans hb8'))
            have G8 := Lib.hid (HG.out.grow hb8)
            have M8 := Lib.hid (HM.out.grow hb8)
            have L8 := Lib.hid hL1
            obtain ⟨fx, hfx⟩ : ∃ fx, Hid (frames s g l' f0.zn = fx) := ⟨_, Lib.hid rfl⟩
            have okX : Hid (∀ f ∈ fx, f.Ok) := Lib.hid (by rw [← hfx.out]; exact frames_ok s g l' f0.zn)
            have hlx : Hid (fx.length = q) := Lib.hid (by rw [← hfx.out, frames_length, npG_len HO.out, hq.out])
            rw [hfx.out] at L8 ⊢
            have hx1000 : fx.length ≤ 1000 := by have := HP.out; have := hlx.out; omega
            clear hb8 hb8' hL1 hfr HT y0 y1 y2 y3 hzn h0n h00
            go_wp2
            go_loopw [75] (fun i wr => ∃ k : Nat, k ≤ fx.length ∧ i = .int .i64 k ∧ fx.take k = (f0 :: fs).take k ∧ Below w8.heap.size w8 wr) (fun i _ => fx.length - (intOf i).toNat)
            case atStart => exact ⟨0, Nat.zero_le _, rfl, rfl, Below.refl _ _⟩
            case round =>
              obtain ⟨k, hk, rfl, ht, hB⟩ := hrel
              by_cases hlt2 : k < fx.length
              · obtain ⟨f, hf⟩ : ∃ f, fx[k]? = some f := ⟨_, List.getElem?_eq_getElem hlt2⟩
                have hkn : k < n := by have := hlx.out; omega
                obtain ⟨h, hh⟩ : ∃ h, (f0 :: fs)[k]? = some h := ⟨_, List.getElem?_eq_getElem (by omega)⟩
                have o5 := (own_grow L8.out hB).1
                have rX := rangeAt_row o5 okX.out hf
                have ltX := FrL.lt o5
                have fok := okX.out f (List.mem_of_getElem? hf)
                have hok := (HL4.out h (List.mem_of_getElem? hh)).1
                have hszX := Fr.size fok
                have hszY := Fr.size hok
                have heq := fun W => frame_eq f h fok hok W
                have hfx1 : fx.take (k + 1) = fx.take k ++ [f] := by rw [List.take_add_one, hf]; rfl
                have hfy1 : (f0 :: fs).take (k + 1) = (f0 :: fs).take k ++ [h] := by rw [List.take_add_one, hh]; rfl
                have hiX : (Try.prog.info? 64).map (·.size) = some f.arr.size := by rw [hszX]; exact size_frame
                have hiX' : (Try.prog.info? 64).map (·.size) = some f.arr.toList.length := by rw [Array.length_toList, hszX]; exact size_frame
                have hiY : (Try.prog.info? 64).map (·.size) = some h.arr.size := by rw [hszY]; exact size_frame
                have hst1 : ∀ W : World, (storeCells ⟨W.heap.size, 0, none⟩ f.arr.toList 0).run Try.prog (W.alloc (.cells Z49 64)) = .ok () (W.alloc (.cells f.arr 64)) := fun W => run_storeCells_new W 64 Z49 f.arr hiX (by rw [hszX]; rfl) (Fr.one f)
                obtain ⟨V9, hV9⟩ : ∃ V, wr.alloc (.cells f.arr 64) = V := ⟨_, rfl⟩
                have b9 : Below wr.heap.size wr V9 := by rw [← hV9]; exact below_box _ _
                have F9 : Blk V9 wr.heap.size 64 f.arr := by rw [← hV9]; exact Blk.newAt rfl
                have rY : V9.rangeAt b (off + k * 49) h.arr.toList := rangeAt_below (HL5.out k h hh) e2 (((G8.out.grow hB).grow b9).u)
                have bY : b < V9.heap.size := Nat.lt_of_lt_of_le e2 (((G8.out.grow hB).grow b9).u.size)
                have hl1 : ∀ W, (∃ x : From V9, W = x.val) → W.rangeAt wr.heap.size 0 f.arr.toList := by
                  rintro _ ⟨x, rfl⟩ j v hv
                  rw [Nat.zero_add, x.cell wr.heap.size _ F9.lt, F9.cell]
                  simpa using hv
                have hl2 : ∀ W, (∃ x : From V9, W = x.val) → W.rangeAt b (off + k * 49) h.arr.toList := by
                  rintro _ ⟨x, rfl⟩; exact rangeAt_below rY bY x.below
                have q9 := F9.lt
                have HF := Lib.hid hf
                have HH := Lib.hid hh
                generalize f.arr = X at *
                generalize h.arr = Y at *
                have HL1 := Lib.hid hl1
                have HL2 := Lib.hid hl2
                have HIX := Lib.hid hiX
                have HIX' := Lib.hid hiX'
                have HIY := Lib.hid hiY
                have HT := Lib.hid ht
                have HFX := Lib.hid hfx1
                have HFY := Lib.hid hfy1
                have HB := Lib.hid hB
                have B9 := Lib.hid b9
                have RX := Lib.hid rX
                clear hl1 hl2 hiX hiX' hiY ht hfx1 hfy1 o5 rX rY fok hok hf hh hB b9 F9
                have hfrom := @From.cell V9
                cases hfh : decide (f = h) with
                | true =>
                  have heq' : ∀ W, (Op.equalIn 10000 64 (.agg X) (.agg Y)).run Try.prog W = .ok true W := fun W => by rw [heq W, hfh]
                  have HFH := Lib.hid (of_decide_eq_true hfh)
                  clear heq hfh
                  go_wp2_with (refine wpList_load_mid rfl 64 (.tmp 78) rfl b1 (k * 49) rfl X.toList _ RX.out Try.underlying64 rfl HIX'.out ?_)
                  clear hV9 hst1
                  refine region_from (by kernel_rfl) (by kernel_rfl) ?_
                  repeat (first
                    | (go_big_quiet_want; refine quiet_load 64 (.tmp 11) rfl wr.heap.size 0 rfl X HL1.out _ Try.underlying64 rfl HIX.out ?_; go_simp; go_big_quiet_on)
                    | (go_big_quiet_want; refine quiet_load 64 (.tmp 83) rfl b (off + k * 49) rfl Y HL2.out _ Try.underlying64 rfl HIY.out ?_; go_simp; go_big_quiet_on)
                    | (go_big_quiet_step (fail)))
                  refine wpQuiet_nil ?_
                  intro W hW
                  have HW : Hid (Below w8.heap.size w8 W) := Lib.hid ((HB.out.trans (B9.out.mono HB.out.size)).trans (hW.mono (by have := HB.out.size; have := B9.out.size; omega)))
                  clear hW hfrom heq'
                  go_wp2
                  go_roundw
                  case rel => exact ⟨k + 1, by omega, by simp, by rw [HFX.out, HFY.out, HT.out, HFH.out], HW.out⟩
                  case measure => simp [intOf]; omega
                | false =>
                  have heq' : ∀ W, (Op.equalIn 10000 64 (.agg X) (.agg Y)).run Try.prog W = .ok false W := fun W => by rw [heq W, hfh]
                  have hnone : Hid (readR (f0 :: fs) = none) := Lib.hid (hxn.out (by
                    unfold readOk
                    rw [decide_eq_false_iff_not, hg.out, hs.out, hq.out, hfx.out]
                    rintro ⟨_, _, h3⟩
                    have h4 : fx[k]? = ((f0 :: fs).take q)[k]? := congrArg (·[k]?) h3
                    rw [HF.out, List.getElem?_take, if_pos (by have := hlx.out; omega), HH.out] at h4
                    injection h4 with h4
                    exact of_decide_eq_false hfh h4))
                  clear heq hfh
                  go_wp2_with (refine wpList_load_mid rfl 64 (.tmp 78) rfl b1 (k * 49) rfl X.toList _ RX.out Try.underlying64 rfl HIX'.out ?_)
                  clear hV9 hst1
                  refine region_from (by kernel_rfl) (by kernel_rfl) ?_
                  repeat (first
                    | (go_big_quiet_want; refine quiet_load 64 (.tmp 11) rfl wr.heap.size 0 rfl X HL1.out _ Try.underlying64 rfl HIX.out ?_; go_simp; go_big_quiet_on)
                    | (go_big_quiet_want; refine quiet_load 64 (.tmp 83) rfl b (off + k * 49) rfl Y HL2.out _ Try.underlying64 rfl HIY.out ?_; go_simp; go_big_quiet_on)
                    | (go_big_quiet_step (fail)))
                  refine wpQuiet_nil ?_
                  intro W hW
                  have HW : Hid (Below w8.heap.size w8 W) := Lib.hid ((HB.out.trans (B9.out.mono HB.out.size)).trans (hW.mono (by have := HB.out.size; have := B9.out.size; omega)))
                  clear hW hfrom heq'
                  have G10 := Lib.hid (G8.out.grow HW.out)
                  go_wp2_with (refine wpList_store_blk rfl 53 (.tmp 2) (.tmp 86) rfl w.heap.size 0 #[.int .i64 0, .int .i64 0, .int .i64 0, .pointer none] rfl rfl G10.out.o (Nat.le_refl 4) size_snap (by simp [Value.oneCell']) ?_; intro w2 hG2 hK2 hs2)
                  have e2 : Blk w2 w.heap.size 53 #[.int .i64 0, .int .i64 0, .int .i64 0, .pointer none] := by have := hG2.out; rwa [over_all rfl] at this
                  have r1 : (loadVar 53 ⟨w.heap.size, 0, none⟩).run Try.prog w2 = .ok sn0 w2 := run_loadVar_row _ _ _ _ _ _ _ e2 Try.underlying53 rfl size_snap
                  refine bodyPost_ret (v := .tuple #[sn0, .int .i64 10]) ?_ rfl ⟨?_, .inl ⟨hnone.out, rfl⟩⟩
                  · simp [results, Try.results46, asAddr, r1]
                  · exact G10.out.u.trans (Keeps.below (hK2.out.mono G10.out.u.size (fun _ h => h)) (by simp))
              · obtain rfl : k = fx.length := by omega
                have hok : readOk f0 (f0 :: fs) l' = true := by
                  unfold readOk
                  rw [decide_eq_true_eq, hg.out, hs.out, hq.out, hfx.out]
                  refine ⟨HSR.out.1, HSR.out.2, ?_⟩
                  rw [List.take_of_length_le (Nat.le_refl _), hlx.out] at ht
                  exact ht
                have hsome : Hid (readR (f0 :: fs) = some (s, g, l')) := Lib.hid (by simp only [readR, hrl.out, hok, if_true, hs.out, hg.out])
                have G10 := Lib.hid (G8.out.grow hB)
                have M10 := Lib.hid (M8.out.grow hB)
                obtain ⟨⟨y0, y1⟩, y2, y3⟩ := G10.out.y.scells
                clear hok ht hB
                go_wp2_with (refine wpList_store_blk rfl 53 (.tmp 2) (.tmp 88) rfl w.heap.size 0 (s.arr p) rfl rfl G10.out.o (Nat.le_refl 4) size_snap (by simp [Value.oneCell']) ?_; intro w2 hG2 hK2 hs2)
                have e2' : Blk w2 w.heap.size 53 (s.arr p) := by have := hG2.out; rwa [over_all (cs := #[.int .i64 0, .int .i64 0, .int .i64 0, .pointer none]) (D := s.arr p) rfl] at this
                have r1 : (loadVar 53 ⟨w.heap.size, 0, none⟩).run Try.prog w2 = .ok (s.v p) w2 := run_loadVar_row _ _ _ _ _ _ _ e2' Try.underlying53 rfl size_snap
                have mlt := M10.out.lt
                have nn := NN.out
                refine bodyPost_ret (v := .tuple #[s.v p, .int .i64 0]) ?_ rfl ⟨?_, .inr ⟨s, g, l', p, bl, bv, lv', hsome.out, rfl, M10.out.keeps hK2.out (by simp; omega) (by simp; omega) (by simp; omega), HO.out, by omega, by omega, by omega⟩⟩
                · simp [results, Try.results46, asAddr, r1]
                · exact G10.out.u.trans (Keeps.below (hK2.out.mono G10.out.u.size (fun _ h => h)) (by simp))
theorem snap_read (w : World) (A : Option Addr) (n c : Nat) (fs : List Fr) (h : FrsAt w A n c fs) : Calls Try.prog 46 #[.slice A n c] w (ReadPost w fs) := by
  obtain ⟨h1, h2⟩ := h
  subst h1
  cases fs with
  | nil => exact read_nil w A c
  | cons f fs =>
    obtain ⟨b, off, rfl, _⟩ := h2.2.2.2 (by simp)
    exact read_some w b off c f fs ⟨rfl, h2⟩
end Go.Proofs.Ytcgafnmpfdkfoaa
