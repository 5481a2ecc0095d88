/- Law SnapLost: the walk, for arguments of a size that a machine can hold. -/
import Derived.Test.YtcgafnmpfdkfoaaComp
import Derived.Test.YtcgafnmpfdkfoaaMixed
namespace Go.Proofs.Ytcgafnmpfdkfoaa
open Go.RowKit

def EL : E := ⟨2, 0, 0, 0, 0, 0⟩
def lostC (x : Int) : List Value := [.int .i64 x, .int .i64 2, .int .i64 0, .int .i64 0, .int .i64 0, .int .i64 0, .int .i64 0]
def lostF (xs : List Int) : List Value := xs.flatMap lostC
theorem lostF_snoc (xs : List Int) (k : Nat) (x : Int) (h : xs[k]? = some x) : lostF (xs.take (k + 1)) = lostF (xs.take k) ++ lostC x := by
  rw [List.take_add_one, h]; simp [lostF]
theorem lostF_length (xs : List Int) : (lostF xs).length = xs.length * 7 := by
  induction xs with
  | nil => rfl
  | cons x xs ih =>
    have : lostF (x :: xs) = lostC x ++ lostF xs := rfl
    rw [this, List.length_append, ih, List.length_cons]
    simp [lostC]
    omega
theorem lostF_get (xs : List Int) (k : Nat) (x : Int) (h : xs[k]? = some x) (j : Nat) (hj : j < 7) : (lostF xs)[k * 7 + j]? = (lostC x)[j]? := by
  induction xs generalizing k with
  | nil => simp at h
  | cons y xs ih =>
    have e : lostF (y :: xs) = lostC y ++ lostF xs := rfl
    have l7 : (lostC y).length = 7 := rfl
    cases k with
    | zero =>
      simp at h
      subst h
      rw [e, List.getElem?_append_left (by omega)]
      congr 1
      omega
    | succ k =>
      rw [List.getElem?_cons_succ] at h
      rw [e, List.getElem?_append_right (by omega), l7, show (k + 1) * 7 + j - 7 = k * 7 + j by omega]
      exact ih k h
def lostOps (xs : List Int) : List Op11 := xs.map fun b => ⟨b, EL⟩
/-- The items that the law has appended, as the maker reads them. -/
theorem lost_ops {w : World} {base n : Nat} {v : Value} {xs : List Int} (h : w.ownsRow base 66 7 v n (lostF xs)) (hn : xs.length = n) (hm : n ≤ maxLen) : ∃ A c, v = .slice A n c ∧ OpsAt w A n c (lostOps xs) := by
  rcases h.2 with ⟨rfl, rfl⟩ | ⟨g, c, cs, rfl, _, hg, hnc, hcm, _, _⟩
  · exact ⟨none, 0, rfl, by simp [lostOps, hn], Nat.le_refl _, Nat.zero_le _, fun h => absurd h (by omega)⟩
  · refine ⟨_, c, rfl, by simp [lostOps, hn], hnc, hcm, fun _ => ⟨g, 0, rfl, (h.lt _ rfl).2, fun k o ho => ?_⟩⟩
    simp only [lostOps, List.getElem?_map, Option.map_eq_some_iff] at ho
    obtain ⟨x, hx, rfl⟩ := ho
    have hk := (List.getElem?_eq_some_iff.1 hx).1
    have key : ∀ j, j < 7 → w.cell? ⟨g, 0 + k * 7 + j, none⟩ = (lostC x)[j]? := fun j hj => by
      rw [Nat.zero_add, h.cellAt (k * 7 + j) (by omega)]
      exact lostF_get xs k x hx j hj
    exact ⟨key 0 (by omega), key 1 (by omega), key 2 (by omega), key 3 (by omega), key 4 (by omega), key 5 (by omega), key 6 (by omega)⟩
def sL : Sn := ⟨1, 1, 1⟩
theorem lost_right (g : G) (xs : List Int) : sL.right (playL g (lostOps xs)) = true := by
  have key : ∀ (ops : List Op11) (l : List E), (∀ o ∈ ops, o.e.sq = 0) → (∀ e ∈ l, e.sq = 0) → ∀ e ∈ ops.foldl (fun l o => setL g l o.b o.e) l, e.sq = 0 := by
    intro ops
    induction ops with
    | nil => intro l _ hl; exact hl
    | cons o ops ih =>
      intro l ho hl
      refine ih _ (fun o' h' => ho o' (List.mem_cons_of_mem _ h')) (fun e he => ?_)
      change e ∈ setL g l o.b o.e at he
      unfold setL at he
      split at he
      · rcases List.mem_or_eq_of_mem_set he with h' | rfl
        · exact hl e h'
        · exact ho o (by simp)
      · exact hl e he
  have h0 : ∀ e ∈ playL g (lostOps xs), e.sq = 0 := by
    refine key _ _ (fun o ho => ?_) (fun e he => ?_)
    · obtain ⟨x, _, rfl⟩ := List.mem_map.1 ho
      rfl
    · unfold nones at he
      rw [List.eq_of_mem_replicate he]
      rfl
  have h1 : (playL g (lostOps xs)).all (fun e => decide (e.sq < sL.nx)) = true := by
    rw [List.all_eq_true]
    intro e he
    rw [decide_eq_true_eq, h0 e he]
    decide
  unfold Sn.right
  rw [h1]
  rfl
theorem stood_geo : (Try.prog).stoodInHeld 23 = false := by kernel_rfl
theorem geo_eq (g : G) (W : World) : (Op.equalIn 10000 23 g.v g.v).run Try.prog W = .ok true W := by
  have hu : (Try.prog).underlying 23 = some (.struct ((Try.prog).fieldsOf 23)) := by unfold Program.fieldsOf; rw [Try.underlying23]
  rw [run_equalIn_struct W 9999 23 g.arr g.arr hu stood_geo]
  have key0 : ∀ (xs : Array Value) j v, xs[j]? = some v → ∀ w, (part 3 xs j).run Try.prog w = .ok v w := fun xs j v hv w => by
    unfold part
    rw [Sem.run_bind, isAgg_int (k := .i64) Try.underlying3 w]
    simp [Result.andThen, hv]
  have f0 := key0 g.arr 0 (.int .i64 g.D) rfl
  have f1 := key0 g.arr 1 (.int .i64 g.Z) rfl
  have f2 := key0 g.arr 2 (.int .i64 g.S) rfl
  have f3 := key0 g.arr 3 (.int .i64 g.B) rfl
  have f4 := key0 g.arr 4 (.int .i64 g.P) rfl
  have f5 := key0 g.arr 5 (.int .i64 g.O) rfl
  have hfl : (((Try.prog).fieldsOf 23).toList) = (((Try.prog).fieldsOf 23).toList) := rfl
  conv at hfl => rhs; unfold Program.fieldsOf; rw [Try.underlying23]
  rw [hfl]
  have i0 : ∀ (a b : Int) (w : World), (Op.equalIn 9999 3 (.int .i64 a) (.int .i64 b)).run Try.prog w = .ok (a == b) w := fun a b w => run_equalIn_int (P := Try.prog) w 9998 3 .i64 .i64 a b Try.underlying3
  simp only [Op.eqFields, f0, f1, f2, f3, f4, f5, Sem.run_bind, Result.andThen_ok, i0, Sem.run_ite, Sem.run_pure, beq_self_eq_true, Bool.not_true, Bool.false_eq_true, if_false, ite_self]
/-- Numbers, as they lie. -/
def IntsAt (w : World) (A : Option Addr) (n c : Nat) (xs : List Int) : Prop :=
  xs.length = n ∧ n ≤ c ∧ c ≤ maxLen ∧ (0 < n → ∃ b off, A = some ⟨b, off, none⟩ ∧ b < w.heap.size ∧ ∀ k x, xs[k]? = some x → w.cell? ⟨b, off + k, none⟩ = some (.int .i64 x))
theorem info_lost : (Try.prog.info? 66).map (fun i => (i.zero, i.size, i.bytes)) = some (some (.agg #[.int .i64 0, .int .i64 0, .int .i64 0, .int .i64 0, .int .i64 0, .int .i64 0, .int .i64 0]), 7, 56) := by kernel_rfl

set_option maxRecDepth 100000 in
set_option maxHeartbeats 2000000 in
theorem lost_walk (w : World) (g : G) (A : Option Addr) (n c : Nat) (xs : List Int) (h : IntsAt w A n c xs) (hsmall : n ≤ 1048576) :
    Calls Try.prog 10 #[g.v, .slice A n c] w fun r w' => r = .returned (.bool true) ∧ Below w.heap.size w w' := by
  obtain ⟨hxl, hnc, hcm, hcell⟩ := h
  obtain ⟨W0, hW0⟩ : ∃ W0, w.alloc g.box = W0 := ⟨_, rfl⟩
  have k0 : Blk W0 w.heap.size 23 g.arr := by rw [← hW0]; exact Blk.newAt rfl
  have U0 : Below w.heap.size w W0 := by rw [← hW0]; exact below_box _ _
  have HU := Lib.hid U0
  have K0 := Lib.hid k0
  have HC := Lib.hid hcell
  have hcm2 : c ≤ 9223372036854775807 := by unfold maxLen at hcm; omega
  clear U0 k0 hcell hcm
  go_enter Try.func10, Try.ntmps10
  go_wp2_with fail
  clear hW0
  refine (anchor12 W0).mono ?_
  rintro r w1 ⟨rfl, hb1⟩
  have K1 := Lib.hid ((Keeps.of_below (S := []) hb1).blk K0.out.lt (by simp) K0.out)
  have U1 : Hid (Below w.heap.size w w1) := Lib.hid (HU.out.trans (hb1.mono HU.out.size))
  clear hb1
  go_wp2
  go_loopw [5, 19] (fun v i wr => ∃ k : Nat, k ≤ n ∧ i = .int .i64 k ∧ wr.ownsRow w1.heap.size 66 7 v k (lostF (xs.take k)) ∧ Below w1.heap.size w1 wr) (fun _ i _ => n - (intOf i).toNat)
  case atStart => exact ⟨0, Nat.zero_le _, rfl, ⟨by simp [lostF], .inl ⟨rfl, rfl⟩⟩, Below.refl _ _⟩
  case round =>
    obtain ⟨k, hk, rfl, hown, hB⟩ := hrel
    by_cases hlt : k < n
    · obtain ⟨b, off, rfl, hblt, hcs⟩ := HC.out (by omega)
      obtain ⟨x, hx⟩ : ∃ x, xs[k]? = some x := ⟨_, List.getElem?_eq_getElem (by omega)⟩
      have hbl1 : b < w1.heap.size := Nat.lt_of_lt_of_le hblt U1.out.size
      have hcx : wr.cell? ⟨b, off + k, none⟩ = some (.int .i64 x) := by
        rw [hB.cell (p := ⟨b, off + k, none⟩) hbl1, U1.out.cell (p := ⟨b, off + k, none⟩) hblt]
        exact hcs k x hx
      obtain ⟨i0, hi, hz0, hz1, hz2⟩ := info_parts info_lost
      obtain ⟨V, hV⟩ : ∃ V, wr.alloc (.cells #[.int .i64 x, .int .i64 2, .int .i64 0, .int .i64 0, .int .i64 0, .int .i64 0, .int .i64 0] 66) = V := ⟨_, rfl⟩
      have RV : Hid (V.ownsRow w1.heap.size 66 7 u5 k (lostF (xs.take k))) := by rw [← hV]; exact Lib.hid (World.ownsRow.alloc hown _)
      have XV : Hid (∀ j v, (lostC x)[j]? = some v → V.cell? ((⟨wr.heap.size, 0, none⟩ : Addr).add j) = some v) := by
        rw [← hV]
        exact Lib.hid fun j v hv => by rw [Addr.add_nat_zero, cell_of_row _ _ j _ _ (0, 0) (World.alloc_heap_new wr _)]; simpa [lostC] using hv
      have SV : Hid (V.heap.size = wr.heap.size + 1) := by rw [← hV]; exact Lib.hid (by simp)
      have BV : Hid (Below w1.heap.size w1 V) := by rw [← hV]; exact Lib.hid (hB.alloc hB.size _)
      have HX := Lib.hid hx
      have HOwn := Lib.hid hown
      have HB := Lib.hid hB
      have HV := Lib.hid hV
      clear hown hB hx hcs hV
      go_wp2_with (at_builtin; refine Hid.out ?_)
      refine Lib.hid ?_
      refine wpList_append_own _ rfl _ _ 51 rfl w1.heap.size 66 i0 (.agg #[.int .i64 0, .int .i64 0, .int .i64 0, .int .i64 0, .int .i64 0, .int .i64 0, .int .i64 0]) 7 56 Try.underlying51 hi hz0 hz1 hz2 rfl (by omega) u5 k (lostF (xs.take k)) rfl (HV.out ▸ RV.out) ⟨wr.heap.size, 0, none⟩ 1 1 (lostC x) rfl rfl (HV.out ▸ XV.out) (by simp [lostC, Value.oneCell']) (by unfold maxLen; omega) (by omega) (by rw [HV.out]; exact BV.out.size) ?_
      intro v' w10 hown' hgrow hnil
      have hB10 : Below w1.heap.size w1 w10 := BV.out.grown (HV.out ▸ hgrow) BV.out.size (fun j ej => (World.ownsRow.lt RV.out j ej).1)
      have HB10 := Lib.hid hB10
      have L10 := Lib.hid (show w10.ownsRow w1.heap.size 66 7 v' (k + 1) (lostF (xs.take (k + 1))) by rw [lostF_snoc xs k x HX.out]; exact hown')
      clear hown' hgrow hnil hB10
      go_wp2
      go_roundw
      case rel => exact ⟨k + 1, by omega, by simp, L10.out, HB10.out⟩
      case measure => simp [intOf]; omega
    · obtain rfl : k = n := by omega
      rw [List.take_of_length_le (by omega)] at hown
      obtain ⟨A', c', rfl, hops⟩ := lost_ops hown hxl (by unfold maxLen; omega)
      have K2 := Lib.hid ((Keeps.of_below (S := []) hB).blk K1.out.lt (by simp) K1.out)
      have U2 : Hid (Below w.heap.size w wr) := Lib.hid (U1.out.trans (hB.mono U1.out.size))
      have HOps := Lib.hid hops
      obtain ⟨⟨x0, x1⟩, ⟨x2, x3⟩, x4, x5⟩ := K2.out.gcells
      clear hown hB hops
      go_wp2_with fail
      by_cases hbad : g.right = false ∨ 60 < k
      · refine (made12_bad wr g A' k c' _ _ _ hbad).mono ?_
        rintro r w3 ⟨rfl, hb3⟩
        have U3 : Hid (Below w.heap.size w w3) := Lib.hid (U2.out.trans (hb3.mono U2.out.size))
        clear hb3 x0 x1 x2 x3 x4 x5 hbad
        go_wp2
        go_ret
        exact ⟨rfl, (U3.out.alloc U3.out.size _).alloc (by have := U3.out.size; simp; omega) _⟩
      · have hr : g.right = true := by cases hr : g.right with | true => rfl | false => exact absurd (.inl hr) hbad
        refine (made12_yes wr g A' k c' (lostOps xs) HOps.out sL hr (by omega)).mono ?_
        rintro r w3 ⟨p, bl, bv, lv, rb, rc, rfl, hM, hOk, _, _, hb3⟩
        have hsr := lost_right g xs
        obtain ⟨l, hl⟩ : ∃ l, playL g (lostOps xs) = l := ⟨_, rfl⟩
        rw [hl] at hM hOk hsr ⊢
        obtain ⟨V3, hV3⟩ : ∃ V, (w3.alloc (sL.box p)).alloc (.cells (refArr sL g (.slice (some ⟨rb, 0, none⟩) l.length rc)) 55) = V := ⟨_, rfl⟩
        have b4 : Below w3.heap.size w3 V3 := by rw [← hV3]; exact (below_box _ _).alloc (by simp) _
        have A3 : Hid (MxAt w g l lv sL p bl bv w3.heap.size V3) := Lib.hid ⟨hM.grow b4, by rw [← hV3]; exact (Blk.newAt rfl).alloc _, (Keeps.of_below (S := []) (hb3.trans (b4.mono hb3.size))).blk K2.out.lt (by simp) K2.out, U2.out.trans ((hb3.trans (b4.mono hb3.size)).mono U2.out.size)⟩
        have OA := Lib.hid hOk
        have HSR := Lib.hid hsr
        clear hM hOk hb3 b4 hl x0 x1 x2 x3 x4 x5 hbad hr hsr
        obtain ⟨⟨y0, y1⟩, y2, y3⟩ := A3.out.y.scells
        go_wp2_with fail
        clear hV3
        refine (frames_yes V3 p bl bv g l lv sL A3.out.m (OA.out.sn HSR.out) 0 (holds00 OA.out.right)).mono ?_
        rintro r w4 ⟨b1, c1, rfl, _, hL1, hb4⟩
        have A4 := Lib.hid (A3.out.grow hb4)
        have F4 := Lib.hid (FrL.frs hL1 (frames_byt _ _ _ _))
        clear hb4 y0 y1 y2 y3 hL1
        have hRR := readR_frames OA.out HSR.out 0 (holds00 OA.out.right) []
        rw [List.append_nil] at hRR
        have HRR := Lib.hid hRR
        clear hRR
        generalize frames sL g l 0 = fx at *
        go_wp2_with fail
        refine (snap_read w4 _ _ _ _ F4.out).mono ?_
        rintro r w5 ⟨hb5, ⟨hno, rfl⟩ | ⟨s2, g2, l2, p2, bl2, bv2, lv2, hs2, rfl, hM2, hO2, _, _, _⟩⟩
        · exfalso
          rw [HRR.out] at hno
          cases hno
        · rw [HRR.out] at hs2
          injection hs2 with hs2
          injection hs2 with e1 e2
          injection e2 with e2 e3
          subst e1 e2 e3
          obtain ⟨V5, hV5⟩ : ∃ V, w5.alloc (sL.box p2) = V := ⟨_, rfl⟩
          have b6 : Below w5.heap.size w5 V5 := by rw [← hV5]; exact below_box _ _
          have A5 := Lib.hid ((A4.out.grow hb5).grow b6)
          have M5 := Lib.hid (hM2.grow b6)
          have Z5 : Blk V5 w5.heap.size 53 (sL.arr p2) := by rw [← hV5]; exact Blk.newAt rfl
          have q1 := Z5.lt
          have q2 := A5.out.y.lt
          have q3 := A5.out.x.lt
          have HV5 := Lib.hid hV5
          obtain ⟨⟨z0, z1⟩, z2, z3⟩ := Z5.scells
          obtain ⟨⟨y0, y1⟩, y2, y3⟩ := A5.out.y.scells
          obtain ⟨⟨x0, x1⟩, ⟨x2, x3⟩, x4, x5⟩ := A5.out.x.gcells
          have hfrom := @From.cell V5
          have hge := geo_eq g
          have hc1 := Lib.hid (fun W (k : Below V5.heap.size V5 W) => map_states W p2 bl2 bv2 g l lv2 (M5.out.grow k) 2)
          have hc2 := Lib.hid (fun W (k : Below V5.heap.size V5 W) => map_states W p bl bv g l lv (A5.out.m.grow k) 2)
          have hc3 := Lib.hid (fun W (k : Below V5.heap.size V5 W) => map_geom W p2 bl2 bv2 g l lv2 (M5.out.grow k))
          clear hb5 hM2 hO2 b6 Z5 hV5
          go_wp2_with fail
          rw [HV5.out]
          refine region_from (by kernel_rfl) (by kernel_rfl) ?_
          repeat (go_big_quiet_step (fail))
          go_big_quiet_step ((go_at_call 29; exact from_call (hc1.out _ (From.below _))))
          repeat (go_big_quiet_step (fail))
          go_big_quiet_step ((go_at_call 29; exact from_call (hc2.out _ (From.below _))))
          repeat (go_big_quiet_step (fail))
          go_big_quiet_step ((go_at_call 32; exact from_call (hc3.out _ (From.below _))))
          repeat (go_big_quiet_step (fail))
          refine wpQuiet_nil ?_
          intro W hW
          go_wp2
          go_ret
          exact ⟨rfl, A5.out.u.trans (hW.mono A5.out.u.size)⟩
end Go.Proofs.Ytcgafnmpfdkfoaa
