/- Layer 13: ckpt.Vote. -/
import Derived.Test.YtcgafnmpfdkfoaaVote0
import Derived.Test.YtcgafnmpfdkfoaaBody
import Derived.Shelf.Abstract
namespace Go.Proofs.Ytcgafnmpfdkfoaa
open Go.RowKit

theorem size_copy : (Try.prog.info? 93).map (·.size) = some 5 := by kernel_rfl
/-- Copies, as they lie. -/
def CpsAt (w : World) (A : Option Addr) (n c : Nat) (cs : List Cp) : Prop :=
  cs.length = n ∧ n ≤ c ∧ c ≤ maxLen ∧ (0 < n → ∃ b, A = some ⟨b, 0, none⟩ ∧ b < w.heap.size ∧ ∀ k x, cs[k]? = some x → w.cell? ⟨b, k * 5, none⟩ = some (.int .i64 x.z) ∧ w.cell? ⟨b, k * 5 + 1, none⟩ = some (.int .i64 x.g) ∧
    w.cell? ⟨b, k * 5 + 2, none⟩ = some (.int .i64 0) ∧ w.cell? ⟨b, k * 5 + 3, none⟩ = some (.int .i64 0) ∧ w.cell? ⟨b, k * 5 + 4, none⟩ = some (.pointer none))
theorem CpsAt.grow {w w1 : World} {A : Option Addr} {n c : Nat} {cs : List Cp} (h : CpsAt w A n c cs) (k : Below w.heap.size w w1) : CpsAt w1 A n c cs := by
  obtain ⟨h1, h2, h3, h4⟩ := h
  refine ⟨h1, h2, h3, fun hp => ?_⟩
  obtain ⟨b, e1, e2, e3⟩ := h4 hp
  have hk : ∀ o, w1.cell? ⟨b, o, none⟩ = w.cell? ⟨b, o, none⟩ := fun o => k.cell (p := ⟨b, o, none⟩) e2
  exact ⟨b, e1, Nat.lt_of_lt_of_le e2 k.size, fun i x hx => by simpa only [hk] using e3 i x hx⟩
def Best (cs : List Cp) (k : Nat) (c : Cp) : Prop := (∃ j, j < k ∧ cs[j]? = some c) ∧ ∀ j x, j < k → cs[j]? = some x → ¬ x.better c
theorem Best.keep {cs : List Cp} {k : Nat} {c x : Cp} (h : Best cs k c) (hx : cs[k]? = some x) (hn : ¬ x.better c) : Best cs (k + 1) c := by
  obtain ⟨⟨j, hj, hc⟩, hall⟩ := h
  refine ⟨⟨j, by omega, hc⟩, fun i y hi hy => ?_⟩
  by_cases e : i = k
  · subst e; rw [hx] at hy; cases hy; exact hn
  · exact hall i y (by omega) hy
theorem Best.take {cs : List Cp} {k : Nat} {c x : Cp} (h : Best cs k c) (hx : cs[k]? = some x) (hn : x.better c) : Best cs (k + 1) x := by
  obtain ⟨_, hall⟩ := h
  refine ⟨⟨k, by omega, hx⟩, fun i y hi hy => ?_⟩
  by_cases e : i = k
  · subst e; rw [hx] at hy; cases hy; unfold Cp.better; omega
  · have := hall i y (by omega) hy
    unfold Cp.better at *
    omega
/-- A call through a function value, in a region of quiet operations. -/
theorem quiet_call_fv {P : Program} {op : Oper} {a : Act} {C : World → Prop} {K : Act → Prop} (x : Operand) (xs : Array Operand) (ats : Array TypeId) (f : FuncId) (ho : op.op = .call { callee := .value x, args := xs, argTypes := ats })
    (hx : a.eval x = .func (.func f) #[] #[]) (hf : ∀ args w, (callFunc f args).run P w = .ok (.enter f args) w) (args : Array Value) (ha : xs.map a.eval = args) (v : Value) (hc : ∀ W, C W → Calls P f args W fun e w'' => e = .returned v ∧ C w'') (hk : K (a.put op.dst v)) : op.quiet P a C K :=
  ⟨v, fun W hW => by
    unfold Oper.quietAt execOp
    simp only [ho, resolve, hx, Deferred.ofValue, Sem.run_bind, Sem.run_pure, Result.andThen_ok, invoke, Array.append_empty, Array.empty_append, hf, ha]
    exact ⟨rfl, hc W hW⟩, hk⟩
set_option maxRecDepth 100000 in
set_option maxHeartbeats 1000000 in
theorem max_func (w : World) (b n c : Nat) (cs : List Cp) (h : CpsAt w (some ⟨b, 0, none⟩) n c cs) (h1 : 1 ≤ n) (h60 : n ≤ 1000) :
    Calls Try.prog 93 #[.slice (some ⟨b, 0, none⟩) n c, .func (.func 94) #[] #[]] w fun e w' => (∃ m, Best cs n m ∧ e = .returned m.v) ∧ Below w.heap.size w w' := by
  obtain ⟨hl, hnc, hcm, hc⟩ := h
  obtain ⟨b', eb, hbl, hcells⟩ := hc (by omega)
  obtain rfl : b = b' := by simpa using eb
  have HC := Lib.hid hcells
  obtain ⟨x0, hx0⟩ : ∃ x, cs[0]? = some x := ⟨_, List.getElem?_eq_getElem (by omega)⟩
  obtain ⟨d0, d1, d2, d3, d4⟩ := hcells 0 x0 hx0
  have hn1 : ¬ (n < 1) := by omega
  have hc63 : c ≤ 9223372036854775807 := by unfold maxLen at hcm; omega
  have HX0 := Lib.hid hx0
  simp only [Nat.zero_mul, Nat.zero_add] at d0 d1 d2 d3 d4
  clear hcells hc eb hx0 hcm
  go_enter Try.func93, Try.ntmps93
  obtain ⟨V0, hV0⟩ : ∃ V, (w.alloc (.cells #[.int .i64 0, .int .i64 0, .int .i64 0, .int .i64 0, .pointer none] 93)).alloc x0.box = V := ⟨_, rfl⟩
  have b0 : Below w.heap.size w V0 := by rw [← hV0]; exact (below_box _ _).alloc (by simp) _
  have kr : Blk V0 w.heap.size 93 (Cp.arr ⟨0, 0⟩) := by rw [← hV0]; exact (Blk.newAt rfl).alloc _
  have km : Blk V0 (w.heap.size + 1) 93 x0.arr := by rw [← hV0]; exact Blk.newAt (by simp)
  have hs0 : V0.heap.size = w.heap.size + 2 := by rw [← hV0]; simp
  have HB0 := Lib.hid b0
  have KR := Lib.hid kr
  have KM := Lib.hid km
  have HS0 := Lib.hid hs0
  have HV0 := Lib.hid hV0
  clear b0 kr km hs0 hV0
  go_wp2
  rw [HV0.out]
  clear d0 d1 d2 d3 d4
  go_loopw [6] (fun i wr => ∃ (k : Nat) (m : Cp), 1 ≤ k ∧ k ≤ n ∧ i = .int .i64 k ∧ Best cs k m ∧ Blk wr (w.heap.size + 1) 93 m.arr ∧ Blk wr w.heap.size 93 (Cp.arr ⟨0, 0⟩) ∧ Below w.heap.size w wr) (fun i _ => n - (intOf i).toNat)
  case atStart => exact ⟨1, x0, Nat.le_refl _, h1, rfl, ⟨⟨0, by omega, HX0.out⟩, fun j x hj hx => by
    obtain rfl : j = 0 := by omega
    rw [HX0.out] at hx; cases hx; unfold Cp.better; omega⟩, KM.out, KR.out, HB0.out⟩
  case round =>
    obtain ⟨k, m, hk1, hkn, rfl, hbest, km, kr, hB⟩ := hrel
    have HB := Lib.hid hB
    have KM := Lib.hid km
    have KR := Lib.hid kr
    have HBest := Lib.hid hbest
    by_cases hlt : k < n
    · obtain ⟨x, hx⟩ : ∃ x, cs[k]? = some x := ⟨_, List.getElem?_eq_getElem (by omega)⟩
      have hbr : b < wr.heap.size := Nat.lt_of_lt_of_le hbl hB.size
      have hcell : ∀ o, wr.cell? ⟨b, o, none⟩ = w.cell? ⟨b, o, none⟩ := fun o => hB.cell (p := ⟨b, o, none⟩) hbl
      obtain ⟨e0, e1, e2, e3, e4⟩ := HC.out k x hx
      rw [← hcell] at e0 e1 e2 e3 e4
      have m0 : wr.cell? ⟨w.heap.size + 1, 0, none⟩ = some (.int .i64 m.z) := by rw [km.cell]; rfl
      have m1 : wr.cell? ⟨w.heap.size + 1, 1, none⟩ = some (.int .i64 m.g) := by rw [km.cell]; rfl
      have m2 : wr.cell? ⟨w.heap.size + 1, 2, none⟩ = some (.int .i64 0) := by rw [km.cell]; rfl
      have m3 : wr.cell? ⟨w.heap.size + 1, 3, none⟩ = some (.int .i64 0) := by rw [km.cell]; rfl
      have m4 : wr.cell? ⟨w.heap.size + 1, 4, none⟩ = some (.pointer none) := by rw [km.cell]; rfl
      have ml := km.lt
      have hk0 : (0 : Int) ≤ (k : Int) := by omega
      have hkl : (k : Int) < (n : Int) := by omega
      have HX := Lib.hid hx
      have hfrom := @From.cell wr
      clear hB km kr hbest hcell hx
      go_wp2_with fail
      refine region_from (by kernel_rfl) (by kernel_rfl) ?_
      repeat (go_big_quiet_step (fail))
      go_big_quiet_want
      refine quiet_call_fv (.tmp 20) _ _ 94 rfl rfl (enters_of Try.func94 (by kernel_rfl) rfl) #[x.v, m.v] (by simp [Act.eval]) (.int .i64 (x.ord m)) (by rintro _ ⟨y, rfl⟩; exact from_call (ckpt_order x m _)) ?_
      go_simp
      go_big_quiet_on
      repeat (go_big_quiet_step (fail))
      refine wpQuiet_nil ?_
      intro W hW
      have KW := Lib.hid ((Keeps.of_below (S := []) hW).blk KM.out.lt (by simp) KM.out)
      have RW := Lib.hid ((Keeps.of_below (S := []) hW).blk KR.out.lt (by simp) KR.out)
      have BW := Lib.hid (HB.out.trans (hW.mono HB.out.size))
      have EW : Hid (W.cell? ⟨b, k * 5, none⟩ = some (.int .i64 x.z) ∧ W.cell? ⟨b, k * 5 + 1, none⟩ = some (.int .i64 x.g) ∧ W.cell? ⟨b, k * 5 + 2, none⟩ = some (.int .i64 0) ∧ W.cell? ⟨b, k * 5 + 3, none⟩ = some (.int .i64 0) ∧ W.cell? ⟨b, k * 5 + 4, none⟩ = some (.pointer none)) :=
        Lib.hid ⟨(hW.cell (p := ⟨b, k * 5, none⟩) hbr).trans e0, (hW.cell (p := ⟨b, k * 5 + 1, none⟩) hbr).trans e1, (hW.cell (p := ⟨b, k * 5 + 2, none⟩) hbr).trans e2, (hW.cell (p := ⟨b, k * 5 + 3, none⟩) hbr).trans e3, (hW.cell (p := ⟨b, k * 5 + 4, none⟩) hbr).trans e4⟩
      clear hW hfrom e0 e1 e2 e3 e4 m0 m1 m2 m3 m4 ml
      by_cases hbt : 0 < x.ord m
      · obtain ⟨e0, e1, e2, e3, e4⟩ := EW.out
        have f0 := KW.out.frozen 0
        have f1 := KW.out.frozen 1
        have f2 := KW.out.frozen 2
        have f3 := KW.out.frozen 3
        have f4 := KW.out.frozen 4
        have m0 : W.cell? ⟨w.heap.size + 1, 0, none⟩ = some (.int .i64 m.z) := by rw [KW.out.cell]; rfl
        have m1 : W.cell? ⟨w.heap.size + 1, 1, none⟩ = some (.int .i64 m.g) := by rw [KW.out.cell]; rfl
        have m2 : W.cell? ⟨w.heap.size + 1, 2, none⟩ = some (.int .i64 0) := by rw [KW.out.cell]; rfl
        have m3 : W.cell? ⟨w.heap.size + 1, 3, none⟩ = some (.int .i64 0) := by rw [KW.out.cell]; rfl
        have m4 : W.cell? ⟨w.heap.size + 1, 4, none⟩ = some (.pointer none) := by rw [KW.out.cell]; rfl
        obtain ⟨W5, hW5⟩ : ∃ V : World, ((((W.setCell ⟨w.heap.size + 1, 0, none⟩ (.int .i64 x.z)).setCell ⟨w.heap.size + 1, 1, none⟩ (.int .i64 x.g)).setCell ⟨w.heap.size + 1, 2, none⟩ (.int .i64 0)).setCell ⟨w.heap.size + 1, 3, none⟩ (.int .i64 0)).setCell ⟨w.heap.size + 1, 4, none⟩ (.pointer none) = V := ⟨_, rfl⟩
        have K5 : Blk W5 (w.heap.size + 1) 93 x.arr := by rw [← hW5]; exact ((((KW.out.set_ 0 _).set_ 1 _).set_ 2 _).set_ 3 _).set_ 4 _
        have B5 : Keeps w.heap.size [] w W5 := by rw [← hW5]; exact (((((Keeps.of_below BW.out).setCell _ _ (.inr (by simp))).setCell _ _ (.inr (by simp))).setCell _ _ (.inr (by simp))).setCell _ _ (.inr (by simp))).setCell _ _ (.inr (by simp))
        have R5 : Blk W5 w.heap.size 93 (Cp.arr ⟨0, 0⟩) := by
          have hk : Keeps (w.heap.size + 1) [] W W5 := by rw [← hW5]; exact (((((Keeps.refl _ _ _).setCell _ _ (.inr (by simp))).setCell _ _ (.inr (by simp))).setCell _ _ (.inr (by simp))).setCell _ _ (.inr (by simp))).setCell _ _ (.inr (by simp))
          exact hk.blk (by omega) (by simp) RW.out
        have HK5 := Lib.hid K5
        have HB5 := Lib.hid (Keeps.below B5 (by simp))
        have HR5 := Lib.hid R5
        have HW5 := Lib.hid hW5
        clear K5 B5 R5 hW5
        go_wp2
        go_roundw
        case rel => exact ⟨k + 1, x, by omega, by omega, by simp, HBest.out.take HX.out ((Cp.ord_pos x m).1 hbt), HW5.out ▸ HK5.out, HW5.out ▸ HR5.out, HW5.out ▸ HB5.out⟩
        case measure => simp [intOf]; omega
      · go_wp2
        go_roundw
        case rel => exact ⟨k + 1, m, by omega, by omega, by simp, HBest.out.keep HX.out (fun hb => hbt ((Cp.ord_pos x m).2 hb)), KW.out, RW.out, BW.out⟩
        case measure => simp [intOf]; omega
    · obtain rfl : k = n := by omega
      have m0 : wr.cell? ⟨w.heap.size + 1, 0, none⟩ = some (.int .i64 m.z) := by rw [km.cell]; rfl
      have m1 : wr.cell? ⟨w.heap.size + 1, 1, none⟩ = some (.int .i64 m.g) := by rw [km.cell]; rfl
      have m2 : wr.cell? ⟨w.heap.size + 1, 2, none⟩ = some (.int .i64 0) := by rw [km.cell]; rfl
      have m3 : wr.cell? ⟨w.heap.size + 1, 3, none⟩ = some (.int .i64 0) := by rw [km.cell]; rfl
      have m4 : wr.cell? ⟨w.heap.size + 1, 4, none⟩ = some (.pointer none) := by rw [km.cell]; rfl
      have ml := km.lt
      clear hB km kr hbest
      go_wp2_with (refine wpList_store_blk rfl 93 (.tmp 4) (.tmp 32) rfl w.heap.size 0 m.arr rfl rfl KR.out (by simp) size_copy (by simp [Value.oneCell']) ?_; intro W8 hG8 hK8 hs8)
      have hG := hG8.out
      rw [over_all (by simp)] at hG
      refine bodyPost_ret (v := m.v) (results_cell_row Try.results93 _ _ w.heap.size 93 m.arr (0, 0) _ (by simp [Act.put]) hG Try.underlying93 rfl size_copy) rfl ?_
      exact ⟨⟨m, HBest.out, rfl⟩, HB.out.trans (Keeps.below (hK8.out.mono HB.out.size (fun _ h => h)) (by simp))⟩
/-- The copy that counts. -/
theorem ckpt_vote (w : World) (A : Option Addr) (n c : Nat) (cs : List Cp) (h : CpsAt w A n c cs) (h1 : 1 ≤ n) (h60 : n ≤ 1000) :
    Calls Try.prog 53 #[.slice A n c] w fun e w' => (∃ m, Best cs n m ∧ e = .returned (.tuple #[m.v, .int .i64 0])) ∧ Below w.heap.size w w' := by
  obtain ⟨b, rfl, _, _⟩ := h.2.2.2 (by omega)
  have HC := Lib.hid (h.grow (below_box w (.cells #[.int .i64 0, .int .i64 0, .int .i64 0, .int .i64 0, .pointer none] 93)))
  have hc63 : c ≤ 9223372036854775807 := by have := h.2.2.1; unfold maxLen at this; omega
  have hnc := h.2.1
  obtain ⟨V, hV⟩ : ∃ V, w.alloc (.cells #[.int .i64 0, .int .i64 0, .int .i64 0, .int .i64 0, .pointer none] 93) = V := ⟨_, rfl⟩
  have b0 : Below w.heap.size w V := by rw [← hV]; exact below_box _ _
  have k0 : Blk V w.heap.size 93 (Cp.arr ⟨0, 0⟩) := by rw [← hV]; exact Blk.newAt rfl
  rw [hV] at HC
  have HB := Lib.hid b0
  have K0 := Lib.hid k0
  have hn0 : ¬ (n = 0) := by omega
  clear h b0 k0
  go_enter Try.func53, Try.ntmps53
  go_wp2_with fail
  clear hV
  refine (max_func V b n c cs HC.out h1 h60).mono ?_
  rintro r w1 ⟨⟨m, hm, rfl⟩, hb1⟩
  have K1 := Lib.hid ((Keeps.of_below (S := []) hb1).blk K0.out.lt (by simp) K0.out)
  have HB1 := Lib.hid (HB.out.trans (hb1.mono HB.out.size))
  have HM := Lib.hid hm
  clear hb1 hm
  go_wp2_with (refine wpList_store_blk rfl 93 (.tmp 2) (.tmp 9) rfl w.heap.size 0 m.arr rfl rfl K1.out (by simp) size_copy (by simp [Value.oneCell']) ?_; intro W8 hG8 hK8 hs8)
  have hG := hG8.out
  rw [over_all (by simp)] at hG
  have r1 : (loadVar 93 ⟨w.heap.size, 0, none⟩).run Try.prog W8 = .ok m.v W8 := run_loadVar_row _ _ _ _ _ _ _ hG Try.underlying93 rfl size_copy
  refine bodyPost_ret (v := .tuple #[m.v, .int .i64 0]) ?_ rfl ⟨⟨m, HM.out, rfl⟩, ?_⟩
  · simp [results, Try.results53, asAddr, r1]
  · exact HB1.out.trans (Keeps.below (hK8.out.mono HB1.out.size (fun _ h => h)) (by simp))
theorem ckpt_vote_none (w : World) (A : Option Addr) (c : Nat) :
    Calls Try.prog 53 #[.slice A 0 c] w fun e w' => e = .returned (.tuple #[(Cp.v ⟨0, 0⟩), .int .i64 15]) ∧ Below w.heap.size w w' := by
  obtain ⟨V, hV⟩ : ∃ V, w.alloc (.cells #[.int .i64 0, .int .i64 0, .int .i64 0, .int .i64 0, .pointer none] 93) = V := ⟨_, rfl⟩
  have b0 : Below w.heap.size w V := by rw [← hV]; exact below_box _ _
  have k0 : Blk V w.heap.size 93 (Cp.arr ⟨0, 0⟩) := by rw [← hV]; exact Blk.newAt rfl
  have HB := Lib.hid b0
  have K0 := Lib.hid k0
  clear b0 k0
  go_enter Try.func53, Try.ntmps53
  go_wp2_with (refine wpList_store_blk rfl 93 (.tmp 2) (.tmp 7) rfl w.heap.size 0 (Cp.arr ⟨0, 0⟩) rfl rfl K0.out (Nat.le_refl 5) size_copy (by simp [Value.oneCell']) ?_; intro W8 hG8 hK8 hs8)
  have hG := hG8.out
  rw [over_all rfl] at hG
  have r1 : (loadVar 93 ⟨w.heap.size, 0, none⟩).run Try.prog W8 = .ok (Cp.v ⟨0, 0⟩) W8 := run_loadVar_row _ _ _ _ _ _ _ hG Try.underlying93 rfl size_copy
  refine bodyPost_ret (v := .tuple #[Cp.v ⟨0, 0⟩, .int .i64 15]) ?_ rfl ⟨rfl, ?_⟩
  · simp [results, Try.results53, asAddr, r1]
  · exact HB.out.trans (Keeps.below (hK8.out.mono HB.out.size (fun _ h => h)) (by simp))
end Go.Proofs.Ytcgafnmpfdkfoaa
