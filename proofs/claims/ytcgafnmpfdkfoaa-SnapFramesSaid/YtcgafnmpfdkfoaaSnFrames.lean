/- Law SnapFrames: the walk. -/
import Derived.Test.YtcgafnmpfdkfoaaRefF
import Derived.Test.YtcgafnmpfdkfoaaRFrameEq
import Derived.Test.YtcgafnmpfdkfoaaMixed
import Derived.Test.YtcgafnmpfdkfoaaSnReads
import Derived.Test.YtcgafnmpfdkfoaaSnSame
namespace Go.Proofs.Ytcgafnmpfdkfoaa
open Go.RowKit

/-- Of a beginning of a snapshot's frames there is none. -/
theorem cut_no {s : Sn} {g : G} {l : List E} {lv : List Int} (h : MapOk g l lv) (hs : s.right l = true) (z : Int) (m : Nat) (hm : m < nparts l) {s' : Sn} {g' : G} {l' : List E} {lv' : List Int}
    (hR : readR ((frames s g l z).take m) = some (s', g', l')) (hO' : MapOk g' l' lv') : False := by
  obtain ⟨f0, rest, hfs, hsr, hho, hfr, hnp⟩ := readR_some hR
  have e : frames s' g' l' f0.zn ++ (((frames s g l z).take m).drop (npG g') ++ (frames s g l z).drop m) = frames s g l z := by
    rw [hfr, ← List.append_assoc, List.take_append_drop, List.take_append_drop]
  obtain ⟨rfl, rfl, rfl, _⟩ := frames_inj (hO'.sn hsr) (h.sn hs) _ e
  have := npG_len h
  rw [List.length_take, frames_length] at hnp
  omega
theorem FrsAt.cut {w : World} {b c n : Nat} {fs : List Fr} (h : FrsAt w (some ⟨b, 0, none⟩) n c fs) (m : Nat) (hm : m ≤ n) : FrsAt w (some ⟨b, 0, none⟩) m c (fs.take m) := by
  obtain ⟨h1, h2, h3, h4, h5⟩ := h
  refine ⟨by rw [List.length_take]; omega, by omega, h3, fun f hf => h4 f (List.mem_of_mem_take hf), fun hp => ?_⟩
  obtain ⟨b', off, e1, e2, e3⟩ := h5 (by omega)
  refine ⟨b', off, e1, e2, fun k f hf => e3 k f ?_⟩
  rw [List.getElem?_take] at hf
  split at hf
  · exact hf
  · cases hf
/-- What stands behind the making. -/
structure SfAt (w : World) (g : G) (l : List E) (lv : List Int) (s : Sn) (p bl bv st rb rc : Nat) (W : World) : Prop where
  m : MapAt W p bl bv g l lv
  y : Blk W st 53 (s.arr p)
  z : Blk W (st + 1) 55 (refArr s g (.slice (some ⟨rb, 0, none⟩) l.length rc))
  x : Blk W w.heap.size 23 g.arr
  r : W.ownsRow 0 46 6 (.slice (some ⟨rb, 0, none⟩) l.length rc) l.length (flat l)
  u : Below w.heap.size w W
theorem SfAt.grow {w : World} {g : G} {l : List E} {lv : List Int} {s : Sn} {p bl bv st rb rc : Nat} {W W' : World} (h : SfAt w g l lv s p bl bv st rb rc W) (k : Below W.heap.size W W') : SfAt w g l lv s p bl bv st rb rc W' :=
  ⟨h.m.grow k, (Keeps.of_below (S := []) k).blk h.y.lt (by simp) h.y, (Keeps.of_below (S := []) k).blk h.z.lt (by simp) h.z, (Keeps.of_below (S := []) k).blk h.x.lt (by simp) h.x, own_grow' h.r k, h.u.trans (k.mono h.u.size)⟩
theorem SfAt.ents {w : World} {g : G} {l : List E} {lv : List Int} {s : Sn} {p bl bv st rb rc : Nat} {W : World} (h : SfAt w g l lv s p bl bv st rb rc W) : rb < W.heap.size ∧ ∀ i e, l[i]? = some e → EntReads W rb i e :=
  ⟨(h.r.lt _ rfl).2, fun _ _ he => own_ent h.r he⟩
theorem SfAt.right {w : World} {g : G} {l : List E} {lv : List Int} {s : Sn} {p bl bv st rb rc : Nat} {W : World} (h : SfAt w g l lv s p bl bv st rb rc W) (hz : l.length ≤ 1000) {t : Bool} (ht : s.right l = t) :
    Calls Try.prog 40 #[s.v p] W fun r w' => r = .returned (.bool t) ∧ Below W.heap.size W w' := snap_right_v W p bl bv g l lv s h.m hz t ht
theorem SfAt.rright {w : World} {g : G} {l : List E} {lv : List Int} {s : Sn} {p bl bv st rb rc : Nat} {W : World} (h : SfAt w g l lv s p bl bv st rb rc W) (hz : l.length ≤ 1000) {t : Bool} (ht : s.right l = t) :
    Calls Try.prog 44 #[.agg (refArr s g (.slice (some ⟨rb, 0, none⟩) l.length rc))] W fun r w' => r = .returned (.bool t) ∧ Below W.heap.size W w' := ref12_right_v W s g rb rc l hz h.ents.1 h.ents.2 t ht
theorem frs_twice {W : World} {base : Nat} {v : Value} {fs : List Fr} (h1 : 1 ≤ fs.length) (h : W.ownsRow base 64 49 v (fs.length + fs.length) (flatF fs ++ flatF fs)) (hk : ∀ f ∈ fs, f.Ok ∧ Byt f.bd) :
    ∃ b c, v = .slice (some ⟨b, 0, none⟩) (fs.length + fs.length) c ∧ FrsAt W (some ⟨b, 0, none⟩) (fs.length + fs.length) c (fs ++ fs) := by
  obtain ⟨b, c, rfl⟩ := own_pos h (by omega)
  refine ⟨b, c, rfl, ?_⟩
  have h2 : FrL base W (.slice (some ⟨b, 0, none⟩) (fs ++ fs).length c) (fs ++ fs) := by
    unfold FrL
    rw [flatF_append, List.length_append]
    exact h
  have h3 := h2.frs (fun f hf => hk f (by simpa using hf))
  rwa [List.length_append] at h3

theorem rangeAt_row_r {w : World} {base b c : Nat} {fs : List Fr} (h : w.ownsRow base 77 49 (.slice (some ⟨b, 0, none⟩) fs.length c) fs.length (flatF fs)) (hk : ∀ f ∈ fs, f.Ok) {i : Nat} {f : Fr} (hi : fs[i]? = some f) : w.rangeAt b (i * 49) f.arr.toList := by
  intro j v hv
  have hj := (List.getElem?_eq_some_iff.1 hv).1
  rw [Array.length_toList, Fr.size (hk f (List.mem_of_getElem? hi))] at hj
  have hl := (List.getElem?_eq_some_iff.1 hi).1
  have hlen := flatF_length hk
  rw [World.ownsRow.cellAt h (i * 49 + j) (by omega)]
  have hg : ((flatF fs).drop (i * 49)).take 49 = f.arr.toList := flatF_get hk i f hi
  have h2 : (((flatF fs).drop (i * 49)).take 49)[j]? = f.arr.toList[j]? := by rw [hg]
  rw [List.getElem?_take, if_pos hj, List.getElem?_drop] at h2
  rw [h2, hv]
set_option maxRecDepth 100000 in
set_option maxHeartbeats 4000000 in
theorem snframes_walk (w : World) (g : G) (A : Option Addr) (n c : Nat) (ops : List Op11) (h : OpsAt w A n c ops) (gen ep nx z cut : Int) :
    Calls Try.prog 11 #[g.v, .slice A n c, .int .i64 gen, .int .i64 ep, .int .i64 nx, .int .i64 z, .int .i64 cut] w fun r w' => r = .returned (.bool true) ∧ Below w.heap.size w w' := by
  obtain ⟨s, hs⟩ : ∃ s : Sn, s = ⟨gen, ep, nx⟩ := ⟨_, rfl⟩
  have hsg : gen = s.gen := by rw [hs]
  have hse : ep = s.ep := by rw [hs]
  have hsn : nx = s.nx := by rw [hs]
  subst hsg hse hsn
  clear hs
  obtain ⟨W0, hW0⟩ : ∃ W0, w.alloc g.box = W0 := ⟨_, rfl⟩
  have k0 : Blk W0 w.heap.size 23 g.arr := by rw [← hW0]; exact Blk.newAt rfl
  have U0 : Below w.heap.size w W0 := by rw [← hW0]; exact below_box _ _
  have HU := Lib.hid U0
  have K0 := Lib.hid k0
  have HO := Lib.hid h
  clear h U0 k0
  go_enter Try.func11, Try.ntmps11
  go_wp2_with fail
  clear hW0
  refine (anchor12 W0).mono ?_
  rintro r w1 ⟨rfl, hb1⟩
  have K1 := Lib.hid ((Keeps.of_below (S := []) hb1).blk K0.out.lt (by simp) K0.out)
  have U1 : Hid (Below w.heap.size w w1) := Lib.hid (HU.out.trans (hb1.mono HU.out.size))
  obtain ⟨⟨x0, x1⟩, ⟨x2, x3⟩, x4, x5⟩ := K1.out.gcells
  clear hb1
  go_wp2_with fail
  by_cases hbad : g.right = false ∨ 60 < n
  · refine (made12_bad w1 g A n c _ _ _ hbad).mono ?_
    rintro r w2 ⟨rfl, hb2⟩
    obtain ⟨V2, hV2⟩ : ∃ V2, (w2.alloc (.cells #[.int .i64 0, .int .i64 0, .int .i64 0, .pointer none] 53)).alloc (.cells #[.int .i64 0, .int .i64 0, .int .i64 0, .int .i64 0, .int .i64 0, .int .i64 0, .int .i64 0, .int .i64 0, .int .i64 0, .slice none 0 0] 55) = V2 := ⟨_, rfl⟩
    have b3 : Below w2.heap.size w2 V2 := by rw [← hV2]; exact (below_box _ _).alloc (by simp) _
    have U3 : Hid (Below w.heap.size w V2) := Lib.hid (U1.out.trans ((hb2.trans (b3.mono hb2.size)).mono U1.out.size))
    have K2 := Lib.hid ((Keeps.of_below (S := []) hb2).blk K1.out.lt (by simp) K1.out)
    have K3 := Lib.hid ((Keeps.of_below (S := []) b3).blk K2.out.lt (by simp) K2.out)
    have HV2 := Lib.hid hV2
    clear hb2 x0 x1 x2 x3 x4 x5 b3 hV2
    have kl := K2.out.lt
    obtain ⟨⟨z0, z1⟩, ⟨z2, z3⟩, z4, z5⟩ := K2.out.gcells
    go_wp2_with fail
    rw [HV2.out]
    cases hr : g.right with
    | false =>
      refine (geom_right_b g V2 false hr).mono ?_
      rintro r w4 ⟨rfl, hb4⟩
      have U4 : Hid (Below w.heap.size w w4) := Lib.hid (U3.out.trans (hb4.mono U3.out.size))
      clear hb4 z0 z1 z2 z3 z4 z5 hbad
      go_wp2
      go_ret
      exact ⟨rfl, U4.out⟩
    | true =>
      have hn : (60 : Int) < (n : Int) := by have := hbad.resolve_left (by rw [hr]; simp); omega
      have hn2 : 60 < n := by omega
      refine (geom_right_b g V2 true hr).mono ?_
      rintro r w4 ⟨rfl, hb4⟩
      have U4 : Hid (Below w.heap.size w w4) := Lib.hid (U3.out.trans (hb4.mono U3.out.size))
      clear hb4 z0 z1 z2 z3 z4 z5 hbad
      go_wp2
      go_ret
      exact ⟨rfl, U4.out⟩
  · have hr : g.right = true := by cases hr : g.right with | true => rfl | false => exact absurd (.inl hr) hbad
    have hops : OpsAt w1 A n c ops := HO.out.grow U1.out
    refine (made12_yes w1 g A n c ops hops s hr (by omega)).mono ?_
    rintro r w2 ⟨p, bl, bv, lv, rb, rc, rfl, hM, hOk, hown, _, hb2⟩
    obtain ⟨l, hl⟩ : ∃ l, playL g ops = l := ⟨_, rfl⟩
    rw [hl] at hM hOk hown ⊢
    obtain ⟨V2, hV2⟩ : ∃ V2, (w2.alloc (s.box p)).alloc (.cells (refArr s g (.slice (some ⟨rb, 0, none⟩) l.length rc)) 55) = V2 := ⟨_, rfl⟩
    have b3 : Below w2.heap.size w2 V2 := by rw [← hV2]; exact (below_box _ _).alloc (by simp) _
    have A2 : Hid (SfAt w g l lv s p bl bv w2.heap.size rb rc V2) := Lib.hid ⟨hM.grow b3, by rw [← hV2]; exact (Blk.newAt rfl).alloc _, by rw [← hV2]; exact Blk.newAt (by simp), (Keeps.of_below (S := []) (hb2.trans (b3.mono hb2.size))).blk K1.out.lt (by simp) K1.out, own_grow' hown b3, U1.out.trans ((hb2.trans (b3.mono hb2.size)).mono U1.out.size)⟩
    have OA := Lib.hid hOk
    have HR := Lib.hid hr
    have hz := hOk.len1000
    have hall := (G.small_of_right hr).all_le
    unfold G.all at hall
    obtain ⟨ha0, ha1⟩ := hall
    have yl := A2.out.y.lt
    obtain ⟨⟨y0, y1⟩, y2, y3⟩ := A2.out.y.scells
    clear hM hOk hown hb2 b3 hl hbad hops x0 x1 x2 x3 x4 x5 hr
    go_wp2_with fail
    clear hV2
    by_cases hok : s.right l = true ∧ g.holds z 0 = true
    · obtain ⟨hsr, hho⟩ := hok
      refine (frames_yes V2 p bl bv g l lv s A2.out.m (OA.out.sn hsr) z hho).mono ?_
      rintro r w3 ⟨b1, c1, rfl, _, hL1, hb3⟩
      have A3 := Lib.hid (A2.out.grow hb3)
      obtain ⟨fx, hfx⟩ : ∃ fx, Hid (frames s g l z = fx) := ⟨_, Lib.hid rfl⟩
      rw [hfx.out] at hL1 ⊢
      have L3 := Lib.hid hL1
      have ht := hsr
      have HT := Lib.hid (And.intro hsr hho)
      have hzr := G.holds_range hho
      unfold G.all at hzr
      obtain ⟨hz0, hz1⟩ := hzr
      clear hb3 y0 y1 y2 y3 yl hL1 hsr hho
      obtain ⟨⟨y0, y1⟩, y2, y3⟩ := A3.out.y.scells
      obtain ⟨⟨⟨z0, z1⟩, z2, z9⟩, ⟨z3, z4, z5⟩, z6, z7, z8⟩ := A3.out.z.rcells10
      have C1 := Lib.hid (fun W (k : Below w3.heap.size w3 W) => (A3.out.grow k).right hz ht)
      have C2 := Lib.hid (fun W (k : Below w3.heap.size w3 W) => (A3.out.grow k).rright hz ht)
      have hfrom := @From.cell w3
      have q1 := A3.out.y.lt
      have q2 := A3.out.z.lt
      go_wp2_with fail
      refine region_from (by kernel_rfl) (by kernel_rfl) ?_
      repeat (go_big_quiet_step (first | (go_at_call 40; exact from_call (C1.out _ (From.below _))) | (go_at_call 44; exact from_call (C2.out _ (From.below _)))))
      refine wpQuiet_nil ?_
      intro w4 hb4
      have A4 := Lib.hid (A3.out.grow hb4)
      have B4 := Lib.hid hb4
      clear hb4 hfrom C1 C2 q1 q2 y0 y1 y2 y3 z0 z1 z2 z9 z3 z4 z5 z6 z7 z8
      obtain ⟨⟨⟨z0, z1⟩, z2, z9⟩, ⟨z3, z4, z5⟩, z6, z7, z8⟩ := A4.out.z.rcells10
      have q2 := A4.out.z.lt
      go_wp2_with fail
      refine (A4.out.rright hz ht).mono ?_
      rintro r w5 ⟨rfl, hb5⟩
      have A5 := Lib.hid (A4.out.grow hb5)
      have B5 : Hid (Below w3.heap.size w3 w5) := Lib.hid (B4.out.trans (hb5.mono B4.out.size))
      clear hb5 z0 z1 z2 z9 z3 z4 z5 z6 z7 z8 q2
      obtain ⟨⟨x0, x1⟩, ⟨x2, x3⟩, x4, x5⟩ := A5.out.x.gcells
      have xl := A5.out.x.lt
      have hz2 : ¬ z < 0 := by omega
      obtain ⟨⟨⟨z0, z1⟩, z2, z9⟩, ⟨z3, z4, z5⟩, z6, z7, z8⟩ := A5.out.z.rcells10
      have q2 := A5.out.z.lt
      go_wp2_with fail
      refine (ref_frames w5 s g l lv OA.out HT.out.1 rb rc A5.out.r z).mono ?_
      rintro r w6 ⟨u6, rfl, hown6, hb6⟩
      have hlx : fx.length = nparts l := by rw [← hfx.out, frames_length]
      rw [hfx.out, ← hlx] at hown6
      have hx1 : 1 ≤ fx.length := by rw [hlx]; unfold nparts; omega
      have hx1000 : fx.length ≤ 1000 := by rw [hlx]; unfold nparts; omega
      obtain ⟨b2, c2, rfl⟩ := own_pos hown6 hx1
      have A6 := Lib.hid (A5.out.grow hb6)
      have R6 := Lib.hid hown6
      have L6 : Hid (FrL 0 w6 (.slice (some ⟨b1, 0, none⟩) fx.length c1) fx) := Lib.hid (own_grow L3.out (B5.out.trans (hb6.mono B5.out.size))).1
      have okX : Hid (∀ f ∈ fx, f.Ok ∧ Byt f.bd) := Lib.hid (by rw [← hfx.out]; exact frames_byt _ _ _ _)
      have HLX := Lib.hid hlx
      have HRD : Hid (readR fx = some (s, g, l)) := Lib.hid (by
        have h1 := readR_frames OA.out HT.out.1 z HT.out.2 []
        rwa [List.append_nil, hfx.out] at h1)
      have HRD2 : Hid (readR (fx ++ fx) = some (s, g, l)) := Lib.hid (by
        have h1 := readR_frames OA.out HT.out.1 z HT.out.2 fx
        rwa [hfx.out] at h1)
      clear hown6 hb6 x0 x1 x2 x3 x4 x5 xl z0 z1 z2 z9 z3 z4 z5 z6 z7 z8 q2 hlx A3 A4 A5 B4 B5 L3 hz2 hz0 hz1 ht
      go_wp2
      go_loopw [99] (fun i wr => ∃ k : Nat, k ≤ fx.length ∧ i = .int .i64 k ∧ Below w6.heap.size w6 wr) (fun i _ => fx.length - (intOf i).toNat)
      case atStart => exact ⟨0, Nat.zero_le _, rfl, Below.refl _ _⟩
      case round =>
        obtain ⟨k, hk, rfl, hB⟩ := hrel
        by_cases hlt2 : k < fx.length
        · obtain ⟨f, hf⟩ : ∃ f, fx[k]? = some f := ⟨_, List.getElem?_eq_getElem hlt2⟩
          have o5 := (own_grow L6.out hB).1
          have rX := rangeAt_row o5 (fun f hf => (okX.out f hf).1) hf
          have o6 := (own_grow R6.out hB).1
          have rY := rangeAt_row_r o6 (fun f hf => (okX.out f hf).1) hf
          have fok := (okX.out f (List.mem_of_getElem? hf)).1
          have hszX := Fr.size fok
          have heq' : ∀ W, (Op.equalIn 10000 77 (.agg f.arr) (.agg f.arr)).run Try.prog W = .ok true W := fun W => by rw [rframe_eq f f fok fok W]; simp
          have hiX : (Try.prog.info? 64).map (·.size) = some f.arr.size := by rw [hszX]; exact size_frame
          have hiX' : (Try.prog.info? 64).map (·.size) = some f.arr.toList.length := by rw [Array.length_toList, hszX]; exact size_frame
          have hiY : (Try.prog.info? 77).map (·.size) = some f.arr.size := by rw [hszX]; exact size_refF
          have hst1 : ∀ W : World, (storeCells ⟨W.heap.size, 0, none⟩ f.arr.toList 0).run Try.prog (W.alloc (.cells Z49 64)) = .ok () (W.alloc (.cells f.arr 64)) := fun W => run_storeCells_new W 64 Z49 f.arr hiX (by rw [hszX]; rfl) (Fr.one f)
          obtain ⟨V9, hV9⟩ : ∃ V, wr.alloc (.cells f.arr 64) = V := ⟨_, rfl⟩
          have b9 : Below wr.heap.size wr V9 := by rw [← hV9]; exact below_box _ _
          have F9 : Blk V9 wr.heap.size 64 f.arr := by rw [← hV9]; exact Blk.newAt rfl
          have hblt : b2 < wr.heap.size := (World.ownsRow.lt o6 _ rfl).2
          have bY : b2 < V9.heap.size := Nat.lt_of_lt_of_le hblt b9.size
          have rY9 : V9.rangeAt b2 (k * 49) f.arr.toList := rangeAt_below rY hblt b9
          have hl1 : ∀ W, (∃ x : From V9, W = x.val) → W.rangeAt wr.heap.size 0 f.arr.toList := by
            rintro _ ⟨x, rfl⟩ j v hv
            rw [Nat.zero_add, x.cell wr.heap.size _ F9.lt, F9.cell]
            simpa using hv
          have hl2 : ∀ W, (∃ x : From V9, W = x.val) → W.rangeAt b2 (k * 49) f.arr.toList := by
            rintro _ ⟨x, rfl⟩; exact rangeAt_below rY9 bY x.below
          have q9 := F9.lt
          generalize f.arr = X at *
          have HL1 := Lib.hid hl1
          have HL2 := Lib.hid hl2
          have HIX := Lib.hid hiX
          have HIX' := Lib.hid hiX'
          have HIY := Lib.hid hiY
          have HB := Lib.hid hB
          have B9 := Lib.hid b9
          have RX := Lib.hid rX
          clear hl1 hl2 hiX hiX' hiY o5 o6 rX rY rY9 fok hf hB b9 F9
          have hfrom := @From.cell V9
          go_wp2_with (refine wpList_load_mid rfl 64 (.tmp 102) rfl b1 (k * 49) rfl X.toList _ RX.out Try.underlying64 rfl HIX'.out ?_)
          clear hV9 hst1
          refine region_from (by kernel_rfl) (by kernel_rfl) ?_
          repeat (first
            | (go_big_quiet_want; refine quiet_load 64 (.tmp 22) rfl wr.heap.size 0 rfl X HL1.out _ Try.underlying64 rfl HIX.out ?_; go_simp; go_big_quiet_on)
            | (go_big_quiet_want; refine quiet_load 77 (.tmp 107) rfl b2 (k * 49) rfl X HL2.out _ Try.underlying77 rfl HIY.out ?_; go_simp; go_big_quiet_on)
            | (go_big_quiet_step (fail)))
          refine wpQuiet_nil ?_
          intro W hW
          have HW : Hid (Below w6.heap.size w6 W) := Lib.hid ((HB.out.trans (B9.out.mono HB.out.size)).trans (hW.mono (by have := HB.out.size; have := B9.out.size; omega)))
          clear hW hfrom heq'
          go_wp2
          go_roundw
          case rel => exact ⟨k + 1, by omega, by simp, HW.out⟩
          case measure => simp [intOf]; omega
        · obtain rfl : k = fx.length := by omega
          have A7 := Lib.hid (A6.out.grow hB)
          have L7 : Hid (FrL 0 wr (.slice (some ⟨b1, 0, none⟩) fx.length c1) fx) := Lib.hid (own_grow L6.out hB).1
          clear hB
          go_wp2_with fail
          refine (snap_read wr _ _ _ fx (FrL.frs L7.out okX.out)).mono ?_
          rintro r w8 ⟨hb8, ⟨hno, _⟩ | ⟨s1, g1, l1, p1, bl1, bv1, lv1, hR1, rfl, hM1, hO1, _, _, _⟩⟩
          · rw [HRD.out] at hno; cases hno
          rw [HRD.out] at hR1
          simp only [Option.some.injEq, Prod.mk.injEq] at hR1
          obtain ⟨rfl, rfl, rfl⟩ := hR1
          obtain ⟨V8, hV8⟩ : ∃ V, w8.alloc (s.box p1) = V := ⟨_, rfl⟩
          have b8 : Below w8.heap.size w8 V8 := by rw [← hV8]; exact below_box _ _
          have bb8 : Below wr.heap.size wr V8 := hb8.trans (b8.mono hb8.size)
          have A8 := Lib.hid (A7.out.grow bb8)
          have L8 : Hid (FrL 0 V8 (.slice (some ⟨b1, 0, none⟩) fx.length c1) fx) := Lib.hid (own_grow L7.out bb8).1
          have M8 := Lib.hid (hM1.grow b8)
          have Y8 : Hid (Blk V8 w8.heap.size 53 (s.arr p1)) := Lib.hid (by rw [← hV8]; exact Blk.newAt rfl)
          have O8 := Lib.hid hO1
          obtain ⟨N8, hN8⟩ : ∃ N, w8.heap.size = N := ⟨_, rfl⟩
          clear hb8 b8 bb8 hM1 hO1
          obtain ⟨i0, hi, hi0, hi1, hi2⟩ := info_parts info_frame
          have hn := own_nil (size := 49) (Blk.new_ V8 #[] 64) V8.heap.size (Nat.le_refl _)
          have one := flatF_one fx
          have len := flatF_length (fun f hf => (okX.out f hf).1)
          have hcell : ∀ (W : World), Below V8.heap.size V8 W → ∀ j u, (flatF fx)[j]? = some u → W.cell? ((⟨b1, 0, none⟩ : Addr).add j) = some u := by
            intro W hW j u hu
            have hj := (List.getElem?_eq_some_iff.1 hu).1
            rw [len] at hj
            rw [Addr.add_nat_zero, hW.cell (p := ⟨b1, j, none⟩) (FrL.lt L8.out), World.ownsRow.cellAt L8.out j (by omega)]
            exact hu
          have HC := Lib.hid hcell
          clear hcell
          go_wp2_with (at_builtin; refine Hid.out ?_)
          refine Lib.hid ?_
          refine wpList_append_own _ rfl _ _ 58 rfl V8.heap.size 64 i0 (.agg Z49) 49 88 Try.underlying58 hi hi0 hi1 hi2 rfl (by omega) _ 0 [] rfl hn ⟨b1, 0, none⟩ fx.length c1 (flatF fx) rfl len (HC.out _ (below_box _ _)) one (by unfold maxLen; omega) (by omega) (by simp) ?_
          intro v' w10 hown' hgrow hnil
          obtain ⟨hb10, g', c', rfl, hL⟩ := appended_frs hx1 hown' hgrow
          clear hown' hgrow hnil hV8
          go_wp2_with (at_builtin; refine Hid.out ?_)
          refine Lib.hid ?_
          refine wpList_append_own _ rfl _ _ 58 rfl V8.heap.size 64 i0 (.agg Z49) 49 88 Try.underlying58 hi hi0 hi1 hi2 rfl (by omega) _ fx.length (flatF fx) rfl hL ⟨b1, 0, none⟩ fx.length c1 (flatF fx) rfl len (HC.out _ hb10) one (by unfold maxLen; omega) (by omega) hb10.size ?_
          intro v'' w11 hown' hgrow hnil
          have hb11 : Below V8.heap.size V8 w11 := hb10.grown hgrow hb10.size (fun j ej => (World.ownsRow.lt hL j ej).1)
          obtain ⟨b3, c3, rfl, hF3⟩ := frs_twice hx1 hown' okX.out
          have A11 := Lib.hid (A8.out.grow hb11)
          have L11 : Hid (FrL 0 w11 (.slice (some ⟨b1, 0, none⟩) fx.length c1) fx) := Lib.hid (own_grow L8.out hb11).1
          have M11 := Lib.hid (M8.out.grow hb11)
          have Y11 := Lib.hid ((Keeps.of_below (S := []) hb11).blk Y8.out.lt (by simp) Y8.out)
          have F11 := Lib.hid hF3
          clear hown' hgrow hnil hb10 hb11 hL hF3 hn one len hi hi0 hi1 hi2 HC
          go_wp2_with fail
          refine (snap_read w11 _ _ _ _ F11.out).mono ?_
          rintro r w12 ⟨hb12, ⟨hno, _⟩ | ⟨s1, g1, l1, p2, bl2, bv2, lv2, hR1, rfl, hM2, hO2, _, _, _⟩⟩
          · rw [HRD2.out] at hno; cases hno
          rw [HRD2.out] at hR1
          simp only [Option.some.injEq, Prod.mk.injEq] at hR1
          obtain ⟨rfl, rfl, rfl⟩ := hR1
          obtain ⟨V13, hV13⟩ : ∃ V, w12.alloc (s.box p2) = V := ⟨_, rfl⟩
          have b13 : Below w12.heap.size w12 V13 := by rw [← hV13]; exact below_box _ _
          have bb13 : Below w11.heap.size w11 V13 := hb12.trans (b13.mono hb12.size)
          have A13 := Lib.hid (A11.out.grow bb13)
          have L13 : Hid (FrL 0 V13 (.slice (some ⟨b1, 0, none⟩) fx.length c1) fx) := Lib.hid (own_grow L11.out bb13).1
          have M13 := Lib.hid (M11.out.grow bb13)
          have Y13 := Lib.hid ((Keeps.of_below (S := []) bb13).blk Y11.out.lt (by simp) Y11.out)
          have N13 := Lib.hid (hM2.grow b13)
          have Z13 : Hid (Blk V13 w12.heap.size 53 (s.arr p2)) := Lib.hid (by rw [← hV13]; exact Blk.newAt rfl)
          have O13 := Lib.hid hO2
          clear hb12 b13 bb13 hM2 hO2
          obtain ⟨⟨y0, y1⟩, y2, y3⟩ := Y13.out.scells
          obtain ⟨⟨x0, x1⟩, x2, x3⟩ := A13.out.y.scells
          have yl := Y13.out.lt
          have xl := A13.out.y.lt
          rw [hN8] at y0 y1 y2 y3 yl
          go_wp2_with fail
          clear hV13
          refine (snap_same_v V13 p1 bl1 bv1 g l lv1 s M13.out O8.out p bl bv g l lv s A13.out.m OA.out true (by simp)).mono ?_
          rintro r w14 ⟨rfl, hb14⟩
          have A14 := Lib.hid (A13.out.grow hb14)
          have L14 : Hid (FrL 0 w14 (.slice (some ⟨b1, 0, none⟩) fx.length c1) fx) := Lib.hid (own_grow L13.out hb14).1
          have N14 := Lib.hid (N13.out.grow hb14)
          have Z14 := Lib.hid ((Keeps.of_below (S := []) hb14).blk Z13.out.lt (by simp) Z13.out)
          clear hb14 y0 y1 y2 y3 x0 x1 x2 x3 yl xl
          obtain ⟨⟨y0, y1⟩, y2, y3⟩ := Z14.out.scells
          obtain ⟨⟨x0, x1⟩, x2, x3⟩ := A14.out.y.scells
          have yl := Z14.out.lt
          have xl := A14.out.y.lt
          go_wp2_with fail
          refine (snap_same_v w14 p2 bl2 bv2 g l lv2 s N14.out O13.out p bl bv g l lv s A14.out.m OA.out true (by simp)).mono ?_
          rintro r w15 ⟨rfl, hb15⟩
          have A15 := Lib.hid (A14.out.grow hb15)
          have L15 : Hid (FrL 0 w15 (.slice (some ⟨b1, 0, none⟩) fx.length c1) fx) := Lib.hid (own_grow L14.out hb15).1
          clear hb15 y0 y1 y2 y3 x0 x1 x2 x3 yl xl
          have hfin : ∀ m : Nat, m < fx.length → Hid (Calls Try.prog 46 #[.slice (some ⟨b1, 0, none⟩) m c1] w15 fun r w' => r = .returned (.tuple #[sn0, .int .i64 10]) ∧ Below w15.heap.size w15 w') := fun m hm => Lib.hid (by
            refine (snap_read w15 _ _ _ (fx.take m) ((FrL.frs L15.out okX.out).cut m (by omega))).mono ?_
            rintro r w' ⟨hb, ⟨_, hr⟩ | ⟨s1, g1, l1, p3, bl3, bv3, lv3, hR, _, _, hO3, _⟩⟩
            · exact ⟨hr, hb⟩
            · rw [← hfx.out] at hR
              exact (cut_no OA.out HT.out.1 z m (by rw [← HLX.out]; exact hm) hR hO3).elim)
          obtain ⟨j, hj⟩ : ∃ j : Nat, fx.length = j + 1 := ⟨fx.length - 1, by omega⟩
          have hjc : fx.length ≤ c1 := by have := FrL.frs L15.out okX.out; exact this.2.1
          have e1 : ((fx.length : Int) - 1) = (j : Int) := by omega
          have hc63 : c1 ≤ 9223372036854775807 := by have := (FrL.frs L15.out okX.out).2.2.1; unfold maxLen at this; omega
          by_cases hc1 : (j : Int) ≤ cut
          · by_cases hc2 : (j : Int) < cut
            · have F := hfin j (by omega)
              clear hfin
              go_wp2_with fail
              refine F.out.mono ?_
              rintro r w16 ⟨rfl, hb16⟩
              have U16 := Lib.hid (A15.out.u.trans (hb16.mono A15.out.u.size))
              clear hb16
              go_wp2
              go_ret
              exact ⟨rfl, U16.out.alloc U16.out.size _⟩
            · obtain rfl : cut = j := by omega
              have F := hfin j (by omega)
              clear hfin
              go_wp2_with fail
              refine F.out.mono ?_
              rintro r w16 ⟨rfl, hb16⟩
              have U16 := Lib.hid (A15.out.u.trans (hb16.mono A15.out.u.size))
              clear hb16
              go_wp2
              go_ret
              exact ⟨rfl, U16.out.alloc U16.out.size _⟩
          · by_cases hc3 : 0 ≤ cut
            · obtain ⟨m, rfl⟩ : ∃ m : Nat, cut = m := ⟨cut.toNat, by omega⟩
              have F := hfin m (by omega)
              clear hfin
              go_wp2_with fail
              refine F.out.mono ?_
              rintro r w16 ⟨rfl, hb16⟩
              have U16 := Lib.hid (A15.out.u.trans (hb16.mono A15.out.u.size))
              clear hb16
              go_wp2
              go_ret
              exact ⟨rfl, U16.out.alloc U16.out.size _⟩
            · have F := hfin 0 (by omega)
              clear hfin
              go_wp2_with fail
              refine F.out.mono ?_
              rintro r w16 ⟨rfl, hb16⟩
              have U16 := Lib.hid (A15.out.u.trans (hb16.mono A15.out.u.size))
              clear hb16
              go_wp2
              go_ret
              exact ⟨rfl, U16.out.alloc U16.out.size _⟩
    · have hor : s.right l = false ∨ g.holds z 0 = false := by
        cases h1 : s.right l with
        | false => exact .inl rfl
        | true => exact .inr (by cases h2 : g.holds z 0 with | false => rfl | true => exact absurd ⟨h1, h2⟩ hok)
      refine (frames_err V2 p bl bv g l lv s A2.out.m hz z hor).mono ?_
      rintro r w3 ⟨rfl, hb3⟩
      have A3 := Lib.hid (A2.out.grow hb3)
      clear hb3 y0 y1 y2 y3 yl hok
      cases ht : s.right l with
      | false =>
        obtain ⟨⟨y0, y1⟩, y2, y3⟩ := A3.out.y.scells
        obtain ⟨⟨⟨z0, z1⟩, z2, z9⟩, ⟨z3, z4, z5⟩, z6, z7, z8⟩ := A3.out.z.rcells10
        have C1 := Lib.hid (fun W (k : Below w3.heap.size w3 W) => (A3.out.grow k).right hz ht)
        have C2 := Lib.hid (fun W (k : Below w3.heap.size w3 W) => (A3.out.grow k).rright hz ht)
        have hfrom := @From.cell w3
        have q1 := A3.out.y.lt
        have q2 := A3.out.z.lt
        go_wp2_with fail
        refine region_from (by kernel_rfl) (by kernel_rfl) ?_
        repeat (go_big_quiet_step (first | (go_at_call 40; exact from_call (C1.out _ (From.below _))) | (go_at_call 44; exact from_call (C2.out _ (From.below _)))))
        refine wpQuiet_nil ?_
        intro w4 hb4
        have A4 := Lib.hid (A3.out.grow hb4)
        have B4 := Lib.hid hb4
        clear hb4 hfrom C1 C2 q1 q2 y0 y1 y2 y3 z0 z1 z2 z9 z3 z4 z5 z6 z7 z8
        obtain ⟨⟨⟨z0, z1⟩, z2, z9⟩, ⟨z3, z4, z5⟩, z6, z7, z8⟩ := A4.out.z.rcells10
        have q2 := A4.out.z.lt
        go_wp2_with fail
        refine (A4.out.rright hz ht).mono ?_
        rintro r w5 ⟨rfl, hb5⟩
        have A5 := Lib.hid (A4.out.grow hb5)
        have B5 : Hid (Below w3.heap.size w3 w5) := Lib.hid (B4.out.trans (hb5.mono B4.out.size))
        clear hb5 z0 z1 z2 z9 z3 z4 z5 z6 z7 z8 q2
        obtain ⟨⟨x0, x1⟩, ⟨x2, x3⟩, x4, x5⟩ := A5.out.x.gcells
        have xl := A5.out.x.lt
        go_wp2
        go_ret
        exact ⟨rfl, A5.out.u⟩
      | true =>
        have hzr : z < 0 ∨ g.D * g.Z ≤ z := by
          have h1 := hor.resolve_left (by rw [ht]; simp)
          unfold G.holds at h1
          rw [HR.out] at h1
          simp only [Bool.true_and, Bool.and_eq_false_iff, wi_false] at h1
          have := (G.small_of_right HR.out).S0
          unfold G.all at h1
          omega
        obtain ⟨⟨y0, y1⟩, y2, y3⟩ := A3.out.y.scells
        obtain ⟨⟨⟨z0, z1⟩, z2, z9⟩, ⟨z3, z4, z5⟩, z6, z7, z8⟩ := A3.out.z.rcells10
        have C1 := Lib.hid (fun W (k : Below w3.heap.size w3 W) => (A3.out.grow k).right hz ht)
        have C2 := Lib.hid (fun W (k : Below w3.heap.size w3 W) => (A3.out.grow k).rright hz ht)
        have hfrom := @From.cell w3
        have q1 := A3.out.y.lt
        have q2 := A3.out.z.lt
        go_wp2_with fail
        refine region_from (by kernel_rfl) (by kernel_rfl) ?_
        repeat (go_big_quiet_step (first | (go_at_call 40; exact from_call (C1.out _ (From.below _))) | (go_at_call 44; exact from_call (C2.out _ (From.below _)))))
        refine wpQuiet_nil ?_
        intro w4 hb4
        have A4 := Lib.hid (A3.out.grow hb4)
        have B4 := Lib.hid hb4
        clear hb4 hfrom C1 C2 q1 q2 y0 y1 y2 y3 z0 z1 z2 z9 z3 z4 z5 z6 z7 z8
        obtain ⟨⟨⟨z0, z1⟩, z2, z9⟩, ⟨z3, z4, z5⟩, z6, z7, z8⟩ := A4.out.z.rcells10
        have q2 := A4.out.z.lt
        go_wp2_with fail
        refine (A4.out.rright hz ht).mono ?_
        rintro r w5 ⟨rfl, hb5⟩
        have A5 := Lib.hid (A4.out.grow hb5)
        have B5 : Hid (Below w3.heap.size w3 w5) := Lib.hid (B4.out.trans (hb5.mono B4.out.size))
        clear hb5 z0 z1 z2 z9 z3 z4 z5 z6 z7 z8 q2
        obtain ⟨⟨x0, x1⟩, ⟨x2, x3⟩, x4, x5⟩ := A5.out.x.gcells
        have xl := A5.out.x.lt
        rcases hzr with hzr | hzr
        · go_wp2
          go_ret
          exact ⟨rfl, A5.out.u⟩
        · have hz0 : ¬ z < 0 := by omega
          go_wp2
          go_ret
          exact ⟨rfl, A5.out.u⟩
end Go.Proofs.Ytcgafnmpfdkfoaa
