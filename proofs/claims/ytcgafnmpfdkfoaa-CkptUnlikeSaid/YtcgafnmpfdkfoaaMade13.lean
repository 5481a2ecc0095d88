/- Law 13's 'made': a snapshot of a map with such entries, both ways. -/
import Derived.Test.YtcgafnmpfdkfoaaMade0
import Derived.Test.YtcgafnmpfdkfoaaIter4
import Derived.Test.YtcgafnmpfdkfoaaTail
import Derived.Test.YtcgafnmpfdkfoaaRef12
import Derived.Test.YtcgafnmpfdkfoaaRefB
namespace Go.Proofs.Ytcgafnmpfdkfoaa
open Go.RowKit Go.Shelf

attribute [local go_sem] Oper.semAt_some

set_option maxRecDepth 100000 in
theorem made13_no (w : World) (g : G) (A : Option Addr) (n c : Nat) (gen ep nx : Int) (hr : g.right = false) :
    Calls Try.prog 50 #[g.v, .slice A n c, .int .i64 gen, .int .i64 ep, .int .i64 nx] w fun r w' => r = .returned (.tuple #[sn0, ref0, .bool false]) ∧ Below w.heap.size w w' := by
  obtain ⟨V0, hV0⟩ : ∃ V0, ((w.alloc g.box).alloc (.cells #[.int .i64 0, .int .i64 0, .int .i64 0, .pointer none] 53)).alloc (.cells #[.int .i64 0, .int .i64 0, .int .i64 0, .int .i64 0, .int .i64 0, .int .i64 0, .int .i64 0, .int .i64 0, .int .i64 0, .slice none 0 0] 55) = V0 := ⟨_, rfl⟩
  have U0 : Below w.heap.size w V0 := by rw [← hV0]; exact ((below_box w _).alloc (by simp) _).alloc (by simp <;> omega) _
  have k0 : Blk V0 w.heap.size 23 g.arr := by rw [← hV0]; exact ((Blk.newAt rfl).alloc _).alloc _
  have k1 : Blk V0 (w.heap.size + 1) 53 #[.int .i64 0, .int .i64 0, .int .i64 0, .pointer none] := by rw [← hV0]; exact (Blk.newAt (by simp)).alloc _
  have k2 : Blk V0 (w.heap.size + 2) 55 #[.int .i64 0, .int .i64 0, .int .i64 0, .int .i64 0, .int .i64 0, .int .i64 0, .int .i64 0, .int .i64 0, .int .i64 0, .slice none 0 0] := by rw [← hV0]; exact Blk.newAt (by simp)
  obtain ⟨⟨x0, x1⟩, ⟨x2, x3⟩, x4, x5⟩ := k0.gcells
  have HU := Lib.hid U0
  have K1 := Lib.hid k1
  have K2 := Lib.hid k2
  clear U0 k0 k1 k2
  go_enter Try.func50, Try.ntmps50
  go_wp2_with fail
  clear hV0
  refine (map_new_no g V0 hr).mono ?_
  rintro r w1 ⟨rfl, hb⟩
  have M1 := Lib.hid ((Keeps.of_below (S := []) hb).blk K1.out.lt (by simp) K1.out)
  have M2 := Lib.hid ((Keeps.of_below (S := []) hb).blk K2.out.lt (by simp) K2.out)
  have HB : Hid (Below w.heap.size w w1) := Lib.hid (HU.out.trans (hb.mono HU.out.size))
  clear hb x0 x1 x2 x3 x4 x5
  go_wp2_with (first
    | (refine wpList_store_blk rfl 53 (.tmp 10) (.tmp 36) rfl (w.heap.size + 1) 0 #[.int .i64 0, .int .i64 0, .int .i64 0, .pointer none] rfl rfl M1.out (Nat.le_refl 4) size_snap (by simp [Value.oneCell']) ?_; intro w2 hG2 hK2 hs2
       have M3 := Lib.hid (hK2.out.blk M2.out.lt (by simp) M2.out))
    | (refine wpList_store_blk rfl 55 (.tmp 11) (.tmp 37) rfl (w.heap.size + 2) 0 #[.int .i64 0, .int .i64 0, .int .i64 0, .int .i64 0, .int .i64 0, .int .i64 0, .int .i64 0, .int .i64 0, .int .i64 0, .slice none 0 0] rfl rfl M3.out (Nat.le_refl 10) size_ref12 (by simp [Value.oneCell']) ?_; intro w3 hG3 hK3 hs3))
  have e2 : Blk w3 (w.heap.size + 2) 55 #[.int .i64 0, .int .i64 0, .int .i64 0, .int .i64 0, .int .i64 0, .int .i64 0, .int .i64 0, .int .i64 0, .int .i64 0, .slice none 0 0] := by have := hG3.out; rwa [over_all rfl] at this
  have e1 : Blk w3 (w.heap.size + 1) 53 #[.int .i64 0, .int .i64 0, .int .i64 0, .pointer none] := by have := hG2.out; rw [over_all rfl] at this; exact hK3.out.blk this.lt (by simp) this
  have r1 : (loadVar 53 ⟨w.heap.size + 1, 0, none⟩).run Try.prog w3 = .ok sn0 w3 := run_loadVar_row _ _ _ _ _ _ _ e1 Try.underlying53 rfl size_snap
  have r2 : (loadVar 55 ⟨w.heap.size + 2, 0, none⟩).run Try.prog w3 = .ok ref0 w3 := run_loadVar_row _ _ _ _ _ _ _ e2 Try.underlying55 rfl size_ref12
  refine bodyPost_ret (v := .tuple #[sn0, ref0, .bool false]) ?_ rfl ⟨rfl, ?_⟩
  · simp [results, Try.results50, asAddr, r1, r2]
  · have kk : Keeps w.heap.size [w.heap.size + 1, w.heap.size + 2] w1 w3 := (hK2.out.mono HB.out.size (by simp)).trans (hK3.out.mono (by have := HB.out.size; have := hK2.out.size; omega) (by simp))
    exact HB.out.trans (Keeps.below kk (by simp))
set_option maxRecDepth 100000 in
theorem made13_long (w : World) (g : G) (A : Option Addr) (n c : Nat) (gen ep nx : Int) (hr : g.right = true) (hn : 60 < n) :
    Calls Try.prog 50 #[g.v, .slice A n c, .int .i64 gen, .int .i64 ep, .int .i64 nx] w fun r w' => r = .returned (.tuple #[sn0, ref0, .bool false]) ∧ Below w.heap.size w w' := by
  obtain ⟨V0, hV0⟩ : ∃ V0, ((w.alloc g.box).alloc (.cells #[.int .i64 0, .int .i64 0, .int .i64 0, .pointer none] 53)).alloc (.cells #[.int .i64 0, .int .i64 0, .int .i64 0, .int .i64 0, .int .i64 0, .int .i64 0, .int .i64 0, .int .i64 0, .int .i64 0, .slice none 0 0] 55) = V0 := ⟨_, rfl⟩
  have U0 : Below w.heap.size w V0 := by rw [← hV0]; exact ((below_box w _).alloc (by simp) _).alloc (by simp <;> omega) _
  have k0 : Blk V0 w.heap.size 23 g.arr := by rw [← hV0]; exact ((Blk.newAt rfl).alloc _).alloc _
  have k1 : Blk V0 (w.heap.size + 1) 53 #[.int .i64 0, .int .i64 0, .int .i64 0, .pointer none] := by rw [← hV0]; exact (Blk.newAt (by simp)).alloc _
  have k2 : Blk V0 (w.heap.size + 2) 55 #[.int .i64 0, .int .i64 0, .int .i64 0, .int .i64 0, .int .i64 0, .int .i64 0, .int .i64 0, .int .i64 0, .int .i64 0, .slice none 0 0] := by rw [← hV0]; exact Blk.newAt (by simp)
  obtain ⟨⟨x0, x1⟩, ⟨x2, x3⟩, x4, x5⟩ := k0.gcells
  have HU := Lib.hid U0
  have K1 := Lib.hid k1
  have K2 := Lib.hid k2
  clear U0 k0 k1 k2
  go_enter Try.func50, Try.ntmps50
  go_wp2_with fail
  clear hV0
  refine (map_new_yes g V0 hr).mono ?_
  rintro r w1 ⟨p, bl, bv, rfl, ⟨n1, n2, n3⟩, hM, hb⟩
  clear hM
  have M1 := Lib.hid ((Keeps.of_below (S := []) hb).blk K1.out.lt (by simp) K1.out)
  have M2 := Lib.hid ((Keeps.of_below (S := []) hb).blk K2.out.lt (by simp) K2.out)
  have HB : Hid (Below w.heap.size w w1) := Lib.hid (HU.out.trans (hb.mono HU.out.size))
  clear hb x0 x1 x2 x3 x4 x5
  go_wp2_with (first
    | (refine wpList_store_blk rfl 53 (.tmp 10) (.tmp 36) rfl (w.heap.size + 1) 0 #[.int .i64 0, .int .i64 0, .int .i64 0, .pointer none] rfl rfl M1.out (Nat.le_refl 4) size_snap (by simp [Value.oneCell']) ?_; intro w2 hG2 hK2 hs2
       have M3 := Lib.hid (hK2.out.blk M2.out.lt (by simp) M2.out))
    | (refine wpList_store_blk rfl 55 (.tmp 11) (.tmp 37) rfl (w.heap.size + 2) 0 #[.int .i64 0, .int .i64 0, .int .i64 0, .int .i64 0, .int .i64 0, .int .i64 0, .int .i64 0, .int .i64 0, .int .i64 0, .slice none 0 0] rfl rfl M3.out (Nat.le_refl 10) size_ref12 (by simp [Value.oneCell']) ?_; intro w3 hG3 hK3 hs3))
  have e2 : Blk w3 (w.heap.size + 2) 55 #[.int .i64 0, .int .i64 0, .int .i64 0, .int .i64 0, .int .i64 0, .int .i64 0, .int .i64 0, .int .i64 0, .int .i64 0, .slice none 0 0] := by have := hG3.out; rwa [over_all rfl] at this
  have e1 : Blk w3 (w.heap.size + 1) 53 #[.int .i64 0, .int .i64 0, .int .i64 0, .pointer none] := by have := hG2.out; rw [over_all rfl] at this; exact hK3.out.blk this.lt (by simp) this
  have r1 : (loadVar 53 ⟨w.heap.size + 1, 0, none⟩).run Try.prog w3 = .ok sn0 w3 := run_loadVar_row _ _ _ _ _ _ _ e1 Try.underlying53 rfl size_snap
  have r2 : (loadVar 55 ⟨w.heap.size + 2, 0, none⟩).run Try.prog w3 = .ok ref0 w3 := run_loadVar_row _ _ _ _ _ _ _ e2 Try.underlying55 rfl size_ref12
  refine bodyPost_ret (v := .tuple #[sn0, ref0, .bool false]) ?_ rfl ⟨rfl, ?_⟩
  · simp [results, Try.results50, asAddr, r1, r2]
  · have kk : Keeps w.heap.size [w.heap.size + 1, w.heap.size + 2] w1 w3 := (hK2.out.mono HB.out.size (by simp)).trans (hK3.out.mono (by have := HB.out.size; have := hK2.out.size; omega) (by simp))
    exact HB.out.trans (Keeps.below kk (by simp))

set_option maxRecDepth 100000 in
set_option maxHeartbeats 2000000 in
theorem made13_yes (w : World) (g : G) (A : Option Addr) (n c : Nat) (ops : List Op11) (h : OpsAt w A n c ops) (s : Sn) (hr : g.right = true) (hn60 : n ≤ 60) :
    Calls Try.prog 50 #[g.v, .slice A n c, .int .i64 s.gen, .int .i64 s.ep, .int .i64 s.nx] w (MadePost w g ops s (.bool (s.right (playL g ops)))) := by
  obtain ⟨hn, hc, hm, hcell⟩ := h
  have hm2 : n ≤ 9223372036854775807 := by omega
  have HN := Lib.hid hn
  have HC := Lib.hid hcell
  clear hn hcell hc hm
  obtain ⟨N1, hN1⟩ : ∃ N1, w.heap.size + 1 = N1 := ⟨_, rfl⟩
  obtain ⟨N2, hN2⟩ : ∃ N2, N1 + 1 = N2 := ⟨_, rfl⟩
  obtain ⟨V0, hV0⟩ : ∃ V0, ((w.alloc g.box).alloc (.cells #[.int .i64 0, .int .i64 0, .int .i64 0, .pointer none] 53)).alloc (.cells #[.int .i64 0, .int .i64 0, .int .i64 0, .int .i64 0, .int .i64 0, .int .i64 0, .int .i64 0, .int .i64 0, .int .i64 0, .slice none 0 0] 55) = V0 := ⟨_, rfl⟩
  have U0 : Below w.heap.size w V0 := by rw [← hV0]; exact ((below_box w _).alloc (by simp) _).alloc (by simp <;> omega) _
  have hs0 : V0.heap.size = w.heap.size + 3 := by rw [← hV0]; simp
  have k0 : Blk V0 w.heap.size 23 g.arr := by rw [← hV0]; exact ((Blk.newAt rfl).alloc _).alloc _
  have k1 : Blk V0 N1 53 #[.int .i64 0, .int .i64 0, .int .i64 0, .pointer none] := by rw [← hV0]; exact (Blk.newAt (by simp; omega)).alloc _
  have k2 : Blk V0 N2 55 #[.int .i64 0, .int .i64 0, .int .i64 0, .int .i64 0, .int .i64 0, .int .i64 0, .int .i64 0, .int .i64 0, .int .i64 0, .slice none 0 0] := by rw [← hV0]; exact Blk.newAt (by simp; omega)
  obtain ⟨⟨x0, x1⟩, ⟨x2, x3⟩, x4, x5⟩ := k0.gcells
  have HU := Lib.hid U0
  have HS0 := Lib.hid hs0
  have K0 := Lib.hid k0
  have K1 := Lib.hid k1
  have K2 := Lib.hid k2
  have HN12 := Lib.hid (And.intro hN1 hN2)
  clear U0 hs0 k0 k1 k2
  refine (callsIn_wide (n := 0)).1 ?_
  refine callsIn_of_wp_marks Try.func50 rfl trivial ?_ rfl
  simp only [Try.ntmps50, List.size_toArray, List.length_cons, List.length_nil, Nat.reduceAdd, Nat.reduceSub, Array.replicate_succ, Array.replicate_zero, List.push_toArray, List.append_toArray, List.nil_append, List.cons_append]
  gi_wp2
  refine ⟨trivial, rfl, ?_⟩
  refine CallsIn.mono (callsIn_wide.2 (map_new_yes g V0 hr)) ?_
  rintro r w1 ⟨p, bl, bv, rfl, ⟨n1, n2, n3⟩, hM, hb⟩
  have HM := Lib.hid hM
  have HB := Lib.hid hb
  have HNN : Hid (w.heap.size + 3 ≤ p ∧ w.heap.size + 3 ≤ bl ∧ w.heap.size + 3 ≤ bv) := by have := HS0.out; exact Lib.hid ⟨by omega, by omega, by omega⟩
  clear hN1 hN2 hM hb hV0 x0 x1 x2 x3 x4 x5 n1 n2 n3
  gi_wp2
  gi_loopw [40] (fun i wr => ∃ (k : Nat) (lv : List Int), k ≤ n ∧ i = .int .i64 k ∧ MapAt wr p bl bv g (playL g (ops.take k)) lv ∧ MapOk g (playL g (ops.take k)) lv ∧ Below (w.heap.size + 3) V0 wr) (fun i _ => n - (intOf i).toNat)
  case atStart => exact ⟨0, noLive g, Nat.zero_le _, rfl, HM.out, MapOk.new hr, by have := HB.out; rwa [HS0.out] at this⟩
  case round =>
    obtain ⟨k, lv, hk, rfl, hM, hO, hB⟩ := hrel
    have HMr := Lib.hid hM
    have HOr := Lib.hid hO
    have HBr := Lib.hid hB
    clear hM hO hB
    by_cases hlt : k < n
    · obtain ⟨o, ho⟩ : ∃ o, ops[k]? = some o := ⟨_, List.getElem?_eq_getElem (by rw [HN.out]; exact hlt)⟩
      obtain ⟨b, off, hA, hbl, hcs⟩ := HC.out (by omega)
      obtain ⟨c0, c1, c2, c3, c4, c5, c6⟩ := hcs k o ho
      subst hA
      have hBw : Below w.heap.size w wr := HU.out.trans (HBr.out.mono (by omega))
      have hcw : ∀ j, wr.cell? ⟨b, j, none⟩ = w.cell? ⟨b, j, none⟩ := fun j => hBw.cell (p := ⟨b, j, none⟩) hbl
      rw [← hcw] at c0 c1 c2 c3 c4 c5 c6
      have hps := playL_snoc g ops k o ho
      have HPS := Lib.hid hps
      have nbl := hBw.size
      obtain ⟨W2, hW2⟩ : ∃ W2, wr.alloc (.cells #[.int .i64 o.b, .int .i64 o.e.st, .int .i64 o.e.zn, .int .i64 o.e.mt, .int .i64 o.e.off, .int .i64 o.e.sq, .int .i64 o.e.sm] 166) = W2 := ⟨_, rfl⟩
      have q2 : Blk W2 wr.heap.size 166 #[.int .i64 o.b, .int .i64 o.e.st, .int .i64 o.e.zn, .int .i64 o.e.mt, .int .i64 o.e.off, .int .i64 o.e.sq, .int .i64 o.e.sm] := by rw [← hW2]; exact Blk.newAt rfl
      have b2 : Below wr.heap.size wr W2 := by rw [← hW2]; exact below_box _ _
      have d0 : W2.cell? ⟨wr.heap.size, 0, none⟩ = some (.int .i64 o.b) := by rw [q2.cell]; rfl
      have d1 : W2.cell? ⟨wr.heap.size, 1, none⟩ = some (.int .i64 o.e.st) := by rw [q2.cell]; rfl
      have d2 : W2.cell? ⟨wr.heap.size, 2, none⟩ = some (.int .i64 o.e.zn) := by rw [q2.cell]; rfl
      have d3 : W2.cell? ⟨wr.heap.size, 3, none⟩ = some (.int .i64 o.e.mt) := by rw [q2.cell]; rfl
      have d4 : W2.cell? ⟨wr.heap.size, 4, none⟩ = some (.int .i64 o.e.off) := by rw [q2.cell]; rfl
      have d5 : W2.cell? ⟨wr.heap.size, 5, none⟩ = some (.int .i64 o.e.sq) := by rw [q2.cell]; rfl
      have d6 : W2.cell? ⟨wr.heap.size, 6, none⟩ = some (.int .i64 o.e.sm) := by rw [q2.cell]; rfl
      have HB2 := Lib.hid b2
      clear hcs ho hcw hps hBw q2 b2
      gi_wp2
      refine ⟨trivial, rfl, ?_⟩
      clear hW2
      refine CallsIn.mono (callsIn_wide.2 (map_set W2 p bl bv g _ lv (HMr.out.grow HB2.out) HOr.out o.b o.e)) ?_
      rintro r w3 ⟨rfl, hM3, hK3⟩
      have HM3 := Lib.hid hM3
      have HK3 := Lib.hid hK3
      clear hM3 hK3 c0 c1 c2 c3 c4 c5 c6 d0 d1 d2 d3 d4 d5 d6
      gi_wp2
      go_roundw
      case rel =>
        refine ⟨k + 1, _, by omega, by simp, by rw [HPS.out]; exact HM3.out, by rw [HPS.out]; exact HOr.out.setv o.b o.e, ?_⟩
        have s2 := HB2.out.size
        exact HBr.out.trans (((HB2.out.mono (by have := HBr.out.size; have := HS0.out; omega))).trans (Keeps.below (HK3.out.mono (by have := HBr.out.size; have := HS0.out; omega) (fun i hi => hi)) (by have := HNN.out; simp; omega)))
      case measure => simp [intOf]; omega
    · obtain rfl : k = n := by omega
      have hfull : ops.take k = ops := by rw [← HN.out]; exact List.take_of_length_le (Nat.le_refl _)
      have hM := HMr.out
      have hO := HOr.out
      rw [hfull] at hM hO
      obtain ⟨l, hl⟩ : ∃ l, playL g ops = l := ⟨_, rfl⟩
      rw [hl] at hM hO
      have sr : w.heap.size + 3 ≤ wr.heap.size := by have := HBr.out.size; have := HS0.out; omega
      have r0 := (Keeps.of_below (S := []) HBr.out).blk (by have := HS0.out; omega) (by simp) K0.out
      have r1 := Lib.hid ((Keeps.of_below (S := []) HBr.out).blk (by have := HS0.out; have := HN12.out; omega) (by simp) K1.out)
      have r2 := Lib.hid ((Keeps.of_below (S := []) HBr.out).blk (by have := HS0.out; have := HN12.out; omega) (by simp) K2.out)
      obtain ⟨⟨x0, x1⟩, ⟨x2, x3⟩, x4, x5⟩ := r0.gcells
      obtain ⟨X1, hX1⟩ : ∃ X1, wr.alloc (.cells (refArr s g (.slice none 0 0)) 55) = X1 := ⟨_, rfl⟩
      have bX : Below wr.heap.size wr X1 := by rw [← hX1]; exact below_box _ _
      have mX : Blk X1 wr.heap.size 55 (refArr s g (.slice none 0 0)) := by rw [← hX1]; exact Blk.newAt rfl
      have hcall := Lib.hid (map_all_made X1 p bl bv g l lv (hM.grow bX))
      have HL := Lib.hid hl
      have HM := Lib.hid hM
      have HO := Lib.hid hO
      have HBX := Lib.hid bX
      have HMX := Lib.hid mX
      have HX1 := Lib.hid hX1
      clear hfull hM hO hl r0 bX mX HMr HOr hX1
      gi_wp2
      refine ⟨trivial, rfl, ?_⟩
      rw [HX1.out]
      refine CallsIn.mono (callsIn_wide.2 hcall.out) ?_
      rintro r w2 ⟨rfl, hb2, hs2, hc2⟩
      have hz : l.length ≤ 1000 := HO.out.len1000
      have hML := HM.out.lt
      have sX := HMX.out.lt
      have hblM : bl ≠ wr.heap.size := by omega
      have hit := MapAt.iterW (HM.out.grow HBX.out) hz hb2 hs2 hc2 [wr.heap.size] (by simp; omega)
      have HIT := Lib.hid hit
      have m2 := (Keeps.of_below (S := []) hb2).blk sX (by simp) HMX.out
      have HB2 : Hid (Below wr.heap.size wr w2) := Lib.hid (HBX.out.trans (hb2.mono HBX.out.size))
      have HM2 := Lib.hid m2
      have sM : wr.heap.size < w2.heap.size := by omega
      clear hit hb2 hs2 hc2 hcall m2 x0 x1 x2 x3 x4 x5 HMX HBX
      gi_wp2
      refine range_go (gf := 139) (lb := #[.pointer (some ⟨X1.heap.size, 0, none⟩)]) (encs := fun x : Nat × E => #[.int .i64 x.1, x.2.v]) (xs := enum l) (S := [wr.heap.size]) rfl (enters_of Try.func139 (by kernel_rfl) rfl) HIT.out ?hS (fun _ => rfl)
        (MadeI w2 wr.heap.size s g) (fun _ _ _ => False) ?hI ?hIx ?h0 ?hround ?hdone ?hstop
      case hS => simp; omega
      case hI => exact fun q X Y h hx k => MadeI.keeps h sM hx k
      case hIx => exact fun _ _ _ _ h _ _ => h
      case h0 => exact ⟨_, HM2.out, World.ownsRow_nil _ _ _ _, Keeps.refl _ _ _, by omega⟩
      case hstop => exact fun _ _ _ _ _ _ _ _ h _ => h.elim
      case hround =>
        rintro m l' pre ⟨kk, e⟩ rest V rfl hx ⟨v, a1, a2, a3, a4⟩ hlt1
        obtain ⟨i0, hi, hz0, hz1, hz2⟩ := info_parts info_refE
        have hpl : pre.length ≤ 1000 := by
          have := congrArg List.length hx
          rw [enum_length, List.length_append] at this
          omega
        gi_wp2
        refine ⟨below_box _ _, fun V2 kv hsv => ?_⟩
        rw [World.size_alloc] at kv hsv
        have kvv : Keeps V.heap.size [w2.heap.size, w2.heap.size + 1] V V2 := (Keeps.of_below (below_box V e.box)).trans (kv.mono (by omega) (by simp))
        have b1 := kvv.blk a1.lt (by simp; omega) a1
        have e2 : Blk V2 V.heap.size 31 e.arr := kv.blk (by omega) (by simp; omega) (Blk.newAt rfl)
        have o2 := own_keeps_v kvv (fun g' hg' => by have := World.ownsRow.lt a2 g' hg'; exact ⟨this.2, by simp; omega⟩) a2
        obtain ⟨⟨y0, y1⟩, ⟨y2, y3⟩, y4, y5⟩ := EntBlk.cells e2
        have c9 : V2.cell? ⟨wr.heap.size, 9, none⟩ = some v := by rw [b1.cell]; rfl
        have hBV := Lib.hid b1
        have HE2 := Lib.hid e2
        have HO2 := Lib.hid o2
        have HK2 := Lib.hid (kvv.size)
        have HA3 := Lib.hid a3
        have sV : wr.heap.size < V2.heap.size := by omega
        have sV2 : w2.heap.size + 2 ≤ V2.heap.size := by omega
        have HKV : Hid (Keeps w2.heap.size [wr.heap.size] V V2) := Lib.hid (((Keeps.of_below (below_box V e.box)).mono (by omega) (fun i hi => hi)).trans ((kv.mono (B' := w2.heap.size) (S' := [w2.heap.size + 1]) (by omega) (by simp)).drop (by simp)))
        clear a1 a2 a3 hx kv kvv b1 e2 o2 hsv
        obtain ⟨V3, hV3⟩ : ∃ V3, V2.alloc (.cells #[.int .i64 e.st, .int .i64 e.zn, .int .i64 e.mt, .int .i64 e.off, .int .i64 e.sq, .int .i64 e.sm] 46) = V3 := ⟨_, rfl⟩
        have R3 : Hid (V3.ownsRow (w2.heap.size + 2) 46 6 v pre.length (flat (pre.map (·.2)))) := by rw [← hV3]; exact Lib.hid (World.ownsRow.alloc HO2.out _)
        have X3 : Hid (∀ j u, e.cells[j]? = some u → V3.cell? ((⟨V2.heap.size, 0, none⟩ : Addr).add j) = some u) := by
          rw [← hV3]
          exact Lib.hid fun j u hu => by rw [Addr.add_nat_zero, cell_of_row _ _ j e.arr _ (0, 0) (World.alloc_heap_new V2 _)]; simpa using hu
        have S3 : Hid (V3.heap.size = V2.heap.size + 1) := by rw [← hV3]; exact Lib.hid (by simp)
        have B3 : Hid (Below V2.heap.size V2 V3) := by rw [← hV3]; exact Lib.hid (below_box _ _)
        have N3 := Lib.hid ((Keeps.of_below (S := []) B3.out).blk sV (by simp) hBV.out)
        gi_wp2_with (gi_at_builtin; refine Hid.out ?_)
        refine Lib.hid ?_
        clear hV3
        refine wpListIn_append_own _ rfl _ _ 44 rfl (w2.heap.size + 2) 46 i0 E0.v 6 48 Try.underlying44 hi hz0 hz1 hz2 rfl (by omega) v pre.length (flat (pre.map fun x : Nat × E => x.2)) rfl R3.out ⟨V2.heap.size, 0, none⟩ 1 1 e.cells rfl rfl X3.out (by simp [Value.oneCell']) (by unfold maxLen; omega) (by omega) (by have := S3.out; omega) ?_
        intro v' W5 hown' hgrow hnil
        have hne : v.ownBlock ≠ some wr.heap.size := fun h => by have := (World.ownsRow.lt R3.out _ h).1; omega
        have m5 : Blk W5 wr.heap.size 55 (refArr s g v) := (World.grownBy.block hgrow _ (by have := S3.out; omega) (fun e => hne e.symm)).trans N3.out
        have k5 : Keeps w2.heap.size [wr.heap.size] V W5 := by
          refine (HKV.out.trans (Keeps.of_below (B3.out.mono (by omega)))).trans ⟨hgrow.os, hgrow.tape, hgrow.output, hgrow.size, fun i hi _ => hgrow.block i (by have := S3.out; omega) (fun e => by have := (World.ownsRow.lt R3.out i e.symm).1; omega)⟩
        obtain ⟨g5, c5, rfl⟩ := own_succ hown'
        have z9 : W5.cell? ⟨wr.heap.size, 9, none⟩ = some v := by rw [m5.cell]; rfl
        have f9 := m5.frozen 9
        have l9 := m5.lt
        have k6 : Keeps w2.heap.size [wr.heap.size] V (W5.setCell ⟨wr.heap.size, 9, none⟩ (.slice (some ⟨g5, 0, none⟩) (pre.length + 1) c5)) := k5.setCell _ _ (.inl (by simp))
        have m6 : Blk (W5.setCell ⟨wr.heap.size, 9, none⟩ (.slice (some ⟨g5, 0, none⟩) (pre.length + 1) c5)) wr.heap.size 55 (refArr s g (.slice (some ⟨g5, 0, none⟩) (pre.length + 1) c5)) := by simpa using m5.set_ 9 _
        have o6 : (W5.setCell ⟨wr.heap.size, 9, none⟩ (.slice (some ⟨g5, 0, none⟩) (pre.length + 1) c5)).ownsRow (w2.heap.size + 2) 46 6 (.slice (some ⟨g5, 0, none⟩) (pre.length + 1) c5) (pre.length + 1) (flat (pre.map (·.2)) ++ e.cells) :=
          own_keeps_v (B := W5.heap.size) (S := [wr.heap.size]) ((Keeps.refl _ _ _).setCell _ _ (.inl (by simp))) (fun g' hg' => by have := World.ownsRow.lt hown' g' hg'; exact ⟨this.2, by simp; omega⟩) hown'
        have z6 := k6.size
        have M6 := Lib.hid m6
        have K6 := Lib.hid k6
        have O6 := Lib.hid o6
        have K5 : Hid (Keeps (w2.heap.size + 2) [wr.heap.size] V2 (W5.setCell ⟨wr.heap.size, 9, none⟩ (.slice (some ⟨g5, 0, none⟩) (pre.length + 1) c5))) := by
          refine Lib.hid (Keeps.setCell ?_ _ _ (.inl (by simp)))
          exact (Keeps.of_below (B3.out.mono (by omega))).trans ⟨hgrow.os, hgrow.tape, hgrow.output, hgrow.size, fun i hi _ => hgrow.block i (by have := S3.out; omega) (fun e => by have := (World.ownsRow.lt R3.out i e.symm).1; omega)⟩
        clear hown' hgrow hnil m5 k5 k6 m6 o6
        gi_wp2
        refine ⟨⟨_, M6.out, ?_, HA3.out.trans K6.out, by omega⟩, K5.out⟩
        have e1 : flat ((pre ++ [(kk, e)]).map (·.2)) = flat (pre.map (·.2)) ++ e.cells := by rw [List.map_append, flat_append]; simp [flat]
        rw [e1, List.length_append]
        exact O6.out
      case hdone =>
        rintro D V hD ⟨v, a1, a2, a3, a4⟩ hK
        rw [enum_length, enum_map] at a2
        have hB1 := (G.small_of_right hr).B0
        obtain ⟨g6, c6, rfl⟩ := own_pos a2 (by have := HO.out.len; omega)
        have bV : Below wr.heap.size wr V := HB2.out.trans (Keeps.below (a3.mono (by omega) (fun i hi => hi)) (by simp))
        have s1 := (Keeps.of_below (S := []) bV).blk r1.out.lt (by simp) r1.out
        have s2 := (Keeps.of_below (S := []) bV).blk r2.out.lt (by simp) r2.out
        have mV := HM.out.grow bV
        have hrest : Hid (Below w.heap.size w V ∧ w.heap.size + 3 ≤ wr.heap.size ∧ wr.heap.size < V.heap.size ∧ w2.heap.size + 2 ≤ g6 ∧ g6 < V.heap.size) := by
          have h1 := World.ownsRow.lt a2 g6 rfl
          exact Lib.hid ⟨HU.out.trans ((HBr.out.mono (by omega)).trans (bV.mono (by omega))), sr, by have := a1.lt; omega, h1.1, h1.2⟩
        have hfrom := @From.cell V
        have nM := a1.lt
        have m0 : V.cell? ⟨wr.heap.size, 0, none⟩ = some (.int .i64 s.gen) := by rw [a1.cell]; rfl
        have m1 : V.cell? ⟨wr.heap.size, 1, none⟩ = some (.int .i64 s.ep) := by rw [a1.cell]; rfl
        have m2 : V.cell? ⟨wr.heap.size, 2, none⟩ = some (.int .i64 s.nx) := by rw [a1.cell]; rfl
        have m3 : V.cell? ⟨wr.heap.size, 3, none⟩ = some (.int .i64 g.D) := by rw [a1.cell]; rfl
        have m4 : V.cell? ⟨wr.heap.size, 4, none⟩ = some (.int .i64 g.Z) := by rw [a1.cell]; rfl
        have m5 : V.cell? ⟨wr.heap.size, 5, none⟩ = some (.int .i64 g.S) := by rw [a1.cell]; rfl
        have m6 : V.cell? ⟨wr.heap.size, 6, none⟩ = some (.int .i64 g.B) := by rw [a1.cell]; rfl
        have m7 : V.cell? ⟨wr.heap.size, 7, none⟩ = some (.int .i64 g.P) := by rw [a1.cell]; rfl
        have m8 : V.cell? ⟨wr.heap.size, 8, none⟩ = some (.int .i64 g.O) := by rw [a1.cell]; rfl
        have m9 : V.cell? ⟨wr.heap.size, 9, none⟩ = some (.slice (some ⟨g6, 0, none⟩) l.length c6) := by rw [a1.cell]; rfl
        have HA2 := Lib.hid a2
        have HS1 := Lib.hid s1
        have HS2 := Lib.hid s2
        have HMV := Lib.hid mV
        have HKV := Lib.hid hK
        clear a1 a2 a3 a4 bV s1 s2 mV hK hB1
        gi_wp2_with fail
        refine wpIn_wide.2 ?_
        have ne1 : ¬ N1 = wr.heap.size := by have := HN12.out; omega
        have ne2 : ¬ N2 = wr.heap.size := by have := HN12.out; omega
        have ne1' : ¬ wr.heap.size = N1 := by have := HN12.out; omega
        have ne2' : ¬ wr.heap.size = N2 := by have := HN12.out; omega
        have ne3 : ¬ N1 = N2 := by have := HN12.out; omega
        have ne3' : ¬ N2 = N1 := by have := HN12.out; omega
        have fz1 := fun j => HS1.out.frozen j
        have fz2 := fun j => HS2.out.frozen j
        have a0 : V.cell? ⟨N1, 0, none⟩ = some (.int .i64 0) := by rw [HS1.out.cell]; rfl
        have a1 : V.cell? ⟨N1, 1, none⟩ = some (.int .i64 0) := by rw [HS1.out.cell]; rfl
        have a2 : V.cell? ⟨N1, 2, none⟩ = some (.int .i64 0) := by rw [HS1.out.cell]; rfl
        have a3 : V.cell? ⟨N1, 3, none⟩ = some (.pointer none) := by rw [HS1.out.cell]; rfl
        have b0 : V.cell? ⟨N2, 0, none⟩ = some (.int .i64 0) := by rw [HS2.out.cell]; rfl
        have b1 : V.cell? ⟨N2, 1, none⟩ = some (.int .i64 0) := by rw [HS2.out.cell]; rfl
        have b2 : V.cell? ⟨N2, 2, none⟩ = some (.int .i64 0) := by rw [HS2.out.cell]; rfl
        have b3 : V.cell? ⟨N2, 3, none⟩ = some (.int .i64 0) := by rw [HS2.out.cell]; rfl
        have b4 : V.cell? ⟨N2, 4, none⟩ = some (.int .i64 0) := by rw [HS2.out.cell]; rfl
        have b5 : V.cell? ⟨N2, 5, none⟩ = some (.int .i64 0) := by rw [HS2.out.cell]; rfl
        have b6 : V.cell? ⟨N2, 6, none⟩ = some (.int .i64 0) := by rw [HS2.out.cell]; rfl
        have b7 : V.cell? ⟨N2, 7, none⟩ = some (.int .i64 0) := by rw [HS2.out.cell]; rfl
        have b8 : V.cell? ⟨N2, 8, none⟩ = some (.int .i64 0) := by rw [HS2.out.cell]; rfl
        have b9 : V.cell? ⟨N2, 9, none⟩ = some (.slice none 0 0) := by rw [HS2.out.cell]; rfl
        have hml := nM
        have HTK : Hid (∀ W, Below V.heap.size V W → W.cell? ⟨wr.heap.size, 0, none⟩ = some (.int .i64 s.gen) ∧ W.cell? ⟨wr.heap.size, 1, none⟩ = some (.int .i64 s.ep) ∧ W.cell? ⟨wr.heap.size, 2, none⟩ = some (.int .i64 s.nx) ∧ W.cell? ⟨wr.heap.size, 3, none⟩ = some (.int .i64 g.D) ∧ W.cell? ⟨wr.heap.size, 4, none⟩ = some (.int .i64 g.Z) ∧ W.cell? ⟨wr.heap.size, 5, none⟩ = some (.int .i64 g.S) ∧ W.cell? ⟨wr.heap.size, 6, none⟩ = some (.int .i64 g.B) ∧ W.cell? ⟨wr.heap.size, 7, none⟩ = some (.int .i64 g.P) ∧ W.cell? ⟨wr.heap.size, 8, none⟩ = some (.int .i64 g.O) ∧ W.cell? ⟨wr.heap.size, 9, none⟩ = some (.slice (some ⟨g6, 0, none⟩) l.length c6)) := Lib.hid fun W k => by
          have hc : ∀ o, W.cell? ⟨wr.heap.size, o, none⟩ = V.cell? ⟨wr.heap.size, o, none⟩ := fun o => k.cell (p := ⟨wr.heap.size, o, none⟩) hml
          simp only [hc]
          exact ⟨m0, m1, m2, m3, m4, m5, m6, m7, m8, m9⟩
        obtain ⟨t, ht⟩ : ∃ t, Hid (s.right l = t) := ⟨_, Lib.hid rfl⟩
        have HCALL : Hid (∀ W, Below V.heap.size V W → Calls Try.prog 44 #[.agg (refArr s g (.slice (some ⟨g6, 0, none⟩) l.length c6))] W fun r w' => r = .returned (.bool t) ∧ Below W.heap.size W w') := Lib.hid fun W k =>
          ref12_right_v W s g g6 c6 l HO.out.len1000 (Nat.lt_of_lt_of_le hrest.out.2.2.2.2 k.size) (fun _ _ he => own_ent (own_lower (own_grow' HA2.out k) (Nat.zero_le _)) he) t ht.out
        go_region_held3 (fun w' => w'.cell? ⟨wr.heap.size, 0, none⟩ = some (.int .i64 s.gen) ∧ w'.cell? ⟨wr.heap.size, 1, none⟩ = some (.int .i64 s.ep) ∧ w'.cell? ⟨wr.heap.size, 2, none⟩ = some (.int .i64 s.nx) ∧ w'.cell? ⟨wr.heap.size, 3, none⟩ = some (.int .i64 g.D) ∧ w'.cell? ⟨wr.heap.size, 4, none⟩ = some (.int .i64 g.Z) ∧ w'.cell? ⟨wr.heap.size, 5, none⟩ = some (.int .i64 g.S) ∧ w'.cell? ⟨wr.heap.size, 6, none⟩ = some (.int .i64 g.B) ∧ w'.cell? ⟨wr.heap.size, 7, none⟩ = some (.int .i64 g.P) ∧ w'.cell? ⟨wr.heap.size, 8, none⟩ = some (.int .i64 g.O) ∧ w'.cell? ⟨wr.heap.size, 9, none⟩ = some (.slice (some ⟨g6, 0, none⟩) l.length c6)) (first | (go_keep; done) | exact HTK.out _ hb7) ((go_at_call 44; refine (HCALL.out _ (below_drew (Below.refl _ _))).mono ?_; rintro e V7 ⟨rfl, hb7'⟩; have hb7 : Below V.heap.size V V7 := (below_drew (Below.refl _ _)).trans hb7'; have H17 := Lib.hid ((Keeps.of_below (S := []) hb7).blk HS1.out.lt (by simp) HS1.out); have H27 := Lib.hid ((Keeps.of_below (S := []) hb7).blk HS2.out.lt (by simp) HS2.out); have fz17 := fun j => H17.out.frozen j; have fz27 := fun j => H27.out.frozen j; have a0 : V7.cell? ⟨N1, 0, none⟩ = some (.int .i64 0) := (H17.out.cell 0).trans rfl; have a1 : V7.cell? ⟨N1, 1, none⟩ = some (.int .i64 0) := (H17.out.cell 1).trans rfl; have a2 : V7.cell? ⟨N1, 2, none⟩ = some (.int .i64 0) := (H17.out.cell 2).trans rfl; have a3 : V7.cell? ⟨N1, 3, none⟩ = some (.pointer none) := (H17.out.cell 3).trans rfl; have b0 : V7.cell? ⟨N2, 0, none⟩ = some (.int .i64 0) := (H27.out.cell 0).trans rfl; have b1 : V7.cell? ⟨N2, 1, none⟩ = some (.int .i64 0) := (H27.out.cell 1).trans rfl; have b2 : V7.cell? ⟨N2, 2, none⟩ = some (.int .i64 0) := (H27.out.cell 2).trans rfl; have b3 : V7.cell? ⟨N2, 3, none⟩ = some (.int .i64 0) := (H27.out.cell 3).trans rfl; have b4 : V7.cell? ⟨N2, 4, none⟩ = some (.int .i64 0) := (H27.out.cell 4).trans rfl; have b5 : V7.cell? ⟨N2, 5, none⟩ = some (.int .i64 0) := (H27.out.cell 5).trans rfl; have b6 : V7.cell? ⟨N2, 6, none⟩ = some (.int .i64 0) := (H27.out.cell 6).trans rfl; have b7 : V7.cell? ⟨N2, 7, none⟩ = some (.int .i64 0) := (H27.out.cell 7).trans rfl; have b8 : V7.cell? ⟨N2, 8, none⟩ = some (.int .i64 0) := (H27.out.cell 8).trans rfl; have b9 : V7.cell? ⟨N2, 9, none⟩ = some (.slice none 0 0) := (H27.out.cell 9).trans rfl))
        have HB7 := Lib.hid hb7
        have HS1 := H17
        have HS2 := H27
        have HMV := Lib.hid (HMV.out.grow hb7)
        have HKV := Lib.hid ((hb7.block D (Array.getElem?_eq_some_iff.1 HKV.out).1).trans HKV.out)
        have HA2 := Lib.hid (own_grow' HA2.out hb7)
        have hrest : Hid (Below w.heap.size w V7 ∧ w.heap.size + 3 ≤ wr.heap.size ∧ wr.heap.size < V7.heap.size ∧ w2.heap.size + 2 ≤ g6 ∧ g6 < V7.heap.size) := Lib.hid ⟨hrest.out.1.trans (hb7.mono hrest.out.1.size), hrest.out.2.1, Nat.lt_of_lt_of_le hrest.out.2.2.1 hb7.size, hrest.out.2.2.2.1, Nat.lt_of_lt_of_le hrest.out.2.2.2.2 hb7.size⟩
        clear hb7 hb7' HTK HCALL
        obtain ⟨w5, h5⟩ : ∃ w5, ((((V7).setCell ⟨N1, 0, none⟩ (.int .i64 s.gen)).setCell ⟨N1, 1, none⟩ (.int .i64 s.ep)).setCell ⟨N1, 2, none⟩ (.int .i64 s.nx)).setCell ⟨N1, 3, none⟩ (.pointer (some ⟨p, 0, none⟩)) = w5 := ⟨_, rfl⟩
        obtain ⟨w6, h6⟩ : ∃ w6, ((((((((((w5).setCell ⟨N2, 0, none⟩ (.int .i64 s.gen)).setCell ⟨N2, 1, none⟩ (.int .i64 s.ep)).setCell ⟨N2, 2, none⟩ (.int .i64 s.nx)).setCell ⟨N2, 3, none⟩ (.int .i64 g.D)).setCell ⟨N2, 4, none⟩ (.int .i64 g.Z)).setCell ⟨N2, 5, none⟩ (.int .i64 g.S)).setCell ⟨N2, 6, none⟩ (.int .i64 g.B)).setCell ⟨N2, 7, none⟩ (.int .i64 g.P)).setCell ⟨N2, 8, none⟩ (.int .i64 g.O)).setCell ⟨N2, 9, none⟩ (.slice (some ⟨g6, 0, none⟩) l.length c6) = w6 := ⟨_, rfl⟩
        have q1 : Blk w5 N1 53 (s.arr p) := by rw [← h5]; simpa using ((((HS1.out).set_ 0 _).set_ 1 _).set_ 2 _).set_ 3 _
        have k5 : Keeps V7.heap.size [N1] V7 w5 := by rw [← h5]; exact (((((Keeps.refl _ _ _).setCell _ _ (.inl (by simp))).setCell _ _ (.inl (by simp))).setCell _ _ (.inl (by simp))).setCell _ _ (.inl (by simp)))
        have q2 : Blk w6 N2 55 (refArr s g (.slice (some ⟨g6, 0, none⟩) l.length c6)) := by rw [← h6]; simpa using (((((((((((k5.blk HS2.out.lt (by simpa using ne3') HS2.out)).set_ 0 _).set_ 1 _).set_ 2 _).set_ 3 _).set_ 4 _).set_ 5 _).set_ 6 _).set_ 7 _).set_ 8 _).set_ 9 _
        have k6 : Keeps w5.heap.size [N2] w5 w6 := by rw [← h6]; exact (((((((((((Keeps.refl _ _ _).setCell _ _ (.inl (by simp))).setCell _ _ (.inl (by simp))).setCell _ _ (.inl (by simp))).setCell _ _ (.inl (by simp))).setCell _ _ (.inl (by simp))).setCell _ _ (.inl (by simp))).setCell _ _ (.inl (by simp))).setCell _ _ (.inl (by simp))).setCell _ _ (.inl (by simp))).setCell _ _ (.inl (by simp)))
        have z5 : w5.heap.size = V7.heap.size := by rw [← h5]; simp
        have z6 : w6.heap.size = V7.heap.size := by rw [← h6]; simp [z5]
        rw [h5, h6]
        have kk : Keeps V7.heap.size [N1, N2] V7 w6 := ((k5.mono (Nat.le_refl _) (by simp)).trans (k6.mono (by omega) (by simp)))
        have p1 : Blk w6 N1 53 (s.arr p) := k6.blk q1.lt (by simpa using ne3) q1
        have p2 : Blk w6 N2 55 (refArr s g (.slice (some ⟨g6, 0, none⟩) l.length c6)) := q2
        have hDn : D ≠ N1 ∧ D ≠ N2 := by have := HN12.out; omega
        have d9 : w6.heap[D]? = some (.deferred (some [])) := (kk.block D (Array.getElem?_eq_some_iff.1 HKV.out).1 (by simpa using hDn)).trans HKV.out
        have hrs := hrest.out
        have hDV : D < V7.heap.size := (Array.getElem?_eq_some_iff.1 HKV.out).1
        have z7 : w6.heap.size = V7.heap.size := z6
        obtain ⟨W9, hW9⟩ : ∃ W9, w6 = W9 := ⟨_, rfl⟩
        rw [hW9] at kk p1 p2 d9 z7 ⊢
        have KK := Lib.hid kk
        have P1 := Lib.hid p1
        have P2 := Lib.hid p2
        have D9 := Lib.hid d9
        have Z7 := Lib.hid z7
        clear h5 h6 q1 k5 q2 k6 z5 z6 kk p1 p2 d9 z7 hW9 a0 a1 a2 a3 b0 b1 b2 b3 b4 b5 b6 b7 b8 b9 m0 m1 m2 m3 m4 m5 m6 m7 m8 m9 hfrom fz1 fz2
        gi_wp2
        have kF : Keeps V7.heap.size [N1, N2, D] V7 (W9.putObj D (.deferred none)) := (KK.out.mono (Nat.le_refl _) (by simp)).putObj D _ (.inl (by simp))
        have kG : Keeps W9.heap.size [D] W9 (W9.putObj D (.deferred none)) := (Keeps.refl _ _ _).putObj D _ (.inl (by simp))
        have e1 := kG.blk P1.out.lt (by simpa using fun h => hDn.1 h.symm) P1.out
        have e2 := kG.blk P2.out.lt (by simpa using fun h => hDn.2 h.symm) P2.out
        have r1 : (loadVar 53 ⟨N1, 0, none⟩).run Try.prog (W9.putObj D (.deferred none)) = .ok (s.v p) _ := run_loadVar_row _ _ _ _ _ _ _ e1 Try.underlying53 rfl size_snap
        have r2 : (loadVar 55 ⟨N2, 0, none⟩).run Try.prog (W9.putObj D (.deferred none)) = .ok (.agg (refArr s g (.slice (some ⟨g6, 0, none⟩) l.length c6))) _ := run_loadVar_row _ _ _ _ _ _ _ e2 Try.underlying55 rfl size_ref12
        refine ⟨by simp, .inl ⟨_, _, rfl, run_takeDeferred D9.out, ?_⟩⟩
        refine ⟨.tuple #[s.v p, .agg (refArr s g (.slice (some ⟨g6, 0, none⟩) l.length c6)), .bool t], ?_, ?_⟩
        · simp [results, Try.results50, asAddr, r1, r2]
        · have n12 := HN12.out
          have nn := HNN.out
          refine ⟨p, bl, bv, lv, g6, c6, by rw [HL.out, ht.out], ?_, by rw [HL.out]; exact HO.out, ?_, ⟨by omega, by omega, by omega, by omega⟩, ?_⟩
          · rw [HL.out]
            have hml := HM.out.lt
            exact HMV.out.keeps kF ⟨by omega, by simp; omega⟩ ⟨by omega, by simp; omega⟩ ⟨by omega, by simp; omega⟩
          · rw [HL.out]
            have ho := own_keeps_v kF (fun g' hg' => by
              have := World.ownsRow.lt HA2.out g' hg'
              obtain rfl : g6 = g' := by simpa [Value.ownBlock] using hg'
              refine ⟨this.2, ?_⟩
              simp
              refine ⟨by omega, by omega, ?_⟩
              rintro rfl
              have hd := HKV.out
              obtain ⟨_, c', cur, e', _, hh, _⟩ := (HA2.out.2).resolve_left (by rintro ⟨h, _⟩; cases h)
              injection e' with e' _ _
              injection e' with e'
              injection e' with e' _ _
              rw [← e'] at hh
              rw [hh] at hd
              cases hd) HA2.out
            exact (own_grow (w1 := W9.putObj D (.deferred none)) ho (Below.refl _ _)).1
          · exact hrs.1.trans (Keeps.below (kF.mono hrs.1.size (fun i hi => hi)) (by simp; omega))
end Go.Proofs.Ytcgafnmpfdkfoaa
