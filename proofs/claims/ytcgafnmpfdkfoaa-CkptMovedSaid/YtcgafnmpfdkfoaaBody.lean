/- A pen's bytes as a body. -/
import Derived.Test.YtcgafnmpfdkfoaaCodec
import Derived.Laws.CopyOwn
import Derived.Deep.WholeRow
import Derived.Deep.MidRow
namespace Go.Proofs.Ytcgafnmpfdkfoaa
open Go.RowKit

/-- A row of cells laid over another, from a place on. -/
def over (cs : Array Value) (o : Nat) (D : Array Value) : Array Value := (cs.toList.take o ++ (D.toList ++ cs.toList.drop (o + D.size))).toArray
theorem over_all {cs D : Array Value} (h : cs.size = D.size) : over cs 0 D = D := by
  unfold over
  rw [List.take_zero, List.nil_append, Nat.zero_add, ← h, List.drop_of_length_le (by simp), List.append_nil]
/-- A struct or an array is stored into a block that is known whole: the world behind it is a new one, of which is known what matters. -/
theorem wpList_store_blk {P : Program} {ops : Array Oper} {rest : List Oper} {op : Oper} {a : Act} {w : World} {Q : Exit → Act → World → Prop} (hgd : op.guard = none) (ty : TypeId) (x y : Operand) (ho : op.op = .store ty x y)
    (b o : Nat) (D : Array Value) (hx : a.eval x = .pointer (some ⟨b, o, none⟩)) (hy : a.eval y = .agg D) {t : TypeId} {cs : Array Value} (hB : Blk w b t cs) (hfit : o + D.size ≤ cs.size)
    (hi : (P.info? ty).map (·.size) = some D.size) (h1 : D.all (·.oneCell') = true)
    (h : ∀ w', Hid (Blk w' b t (over cs o D)) → Hid (Keeps w.heap.size [b] w w') → Hid (w'.heap.size = w.heap.size) → wpList P ops Q rest (a.put op.dst undef) w') : wpList P ops Q (op :: rest) a w := by
  refine wpList_plain hgd fun _ hK => ?_
  have hrun := run_storeCells_at P b o t D.toList 0 cs w hB (by simpa using hfit) (fun v hv => (Array.all_eq_true_iff_forall_mem.1 h1) v (by simpa using hv))
  have hst : (storeVar ty ⟨b, o, none⟩ (.agg D)).run P w = .ok () (w.setRow b (over cs o D)) := by
    cases hq : P.info? ty with
    | none => simp [hq] at hi
    | some i =>
      have hs : D.size = i.size := by simp [hq] at hi; omega
      simp only [Nat.add_zero, Array.length_toList, List.append_assoc] at hrun
      simp [storeVar, sizeOf, typeInfo, hq, Value.cells, hs, hrun, over]
  unfold Oper.wp execOp
  simp only [ho, hx, hy, Instr.storeAt, Instr.sureAddr, Sem.run_bind, Sem.run_pure, Result.andThen_ok, hst]
  refine hK _ _ (h _ (Lib.hid ?_) (Lib.hid ?_) (Lib.hid (by simp)))
  · exact setRow_heap w b cs _ t _ hB
  · exact ⟨rfl, rfl, rfl, by simp, fun i _ hn => setRow_other w b i _ (by simpa using hn)⟩
theorem row_whole (D : Array Value) : (D.toList.drop 0).take D.size = D.toList := by rw [List.drop_zero]; exact List.take_of_length_le (by simp)
/-- A struct or an array is read out of a block that is known whole. -/
theorem wpList_load_blk {P : Program} {ops : Array Oper} {rest : List Oper} {op : Oper} {a : Act} {w : World} {Q : Exit → Act → World → Prop} (hgd : op.guard = none) (ty : TypeId) (x : Operand) (ho : op.op = .load ty x)
    (b o : Nat) (hx : a.eval x = .pointer (some ⟨b, o, none⟩)) {t : TypeId} {cs : Array Value} (hB : Blk w b t cs) (D : Array Value) (hD : (cs.toList.drop o).take D.size = D.toList) (d : TypeDesc)
    (hu : P.underlying ty = some d) (hd : d.isRow = true) (hi : (P.info? ty).map (·.size) = some D.size)
    (h : wpList P ops Q rest (a.put op.dst (.agg D)) w) : wpList P ops Q (op :: rest) a w := by
  refine wpList_load_mid hgd ty x ho b o hx D.toList d ?_ hu hd (by simpa using hi) (by simpa using h)
  intro j v hv
  rw [hB.cell]
  rw [← hD, List.getElem?_take] at hv
  split at hv
  · rw [List.getElem?_drop] at hv; simpa using hv
  · cases hv

theorem size_body : (Try.prog.info? 62).map (·.size) = some 44 := by kernel_rfl
theorem size_byte : (Try.prog.info? 5).map (·.size) = some 1 := by kernel_rfl
abbrev Z44 : Array Value := #[.int .u8 0, .int .u8 0, .int .u8 0, .int .u8 0, .int .u8 0, .int .u8 0, .int .u8 0, .int .u8 0, .int .u8 0, .int .u8 0, .int .u8 0, .int .u8 0, .int .u8 0, .int .u8 0, .int .u8 0, .int .u8 0, .int .u8 0, .int .u8 0, .int .u8 0, .int .u8 0, .int .u8 0, .int .u8 0, .int .u8 0, .int .u8 0, .int .u8 0, .int .u8 0, .int .u8 0, .int .u8 0, .int .u8 0, .int .u8 0, .int .u8 0, .int .u8 0, .int .u8 0, .int .u8 0, .int .u8 0, .int .u8 0, .int .u8 0, .int .u8 0, .int .u8 0, .int .u8 0, .int .u8 0, .int .u8 0, .int .u8 0, .int .u8 0]
theorem Z44_list : Z44.toList = bys (List.replicate 44 0) := rfl
set_option maxRecDepth 100000 in
theorem snap_body (B : Nat) (w : World) (p : Nat) (xs : List Int) (h : PenAt B w p xs) (h1 : 1 ≤ xs.length) (h2 : xs.length ≤ 44) :
    Calls Try.prog 118 #[.pointer (some ⟨p, 0, none⟩)] w fun r w' => r = .returned (.agg (bys (pad44 xs)).toArray) ∧ Below w.heap.size w w' := by
  have HP := Lib.hid h
  have hlt := h.lt.2
  clear h
  obtain ⟨W0, hW0⟩ : ∃ W0, (w.alloc (.cells Z44 62)).alloc (.cells Z44 62) = W0 := ⟨_, rfl⟩
  have hB0 : Below w.heap.size w W0 := by rw [← hW0]; exact (below_box w _).alloc (by simp) _
  have hs0 : W0.heap.size = w.heap.size + 2 := by rw [← hW0]; simp
  have k0 : Blk W0 w.heap.size 62 Z44 := by rw [← hW0]; exact (Blk.newAt rfl).alloc _
  have k1 : Blk W0 (w.heap.size + 1) 62 Z44 := by rw [← hW0]; exact Blk.newAt (by simp)
  have HP0 := Lib.hid (HP.out.grow hB0)
  have HS0 := Lib.hid hs0
  have K0 := Lib.hid k0
  have K1 := Lib.hid k1
  have HB0 := Lib.hid hB0
  clear k0 k1 hB0 hs0
  go_enter Try.func118, Try.ntmps118
  go_wp2_with fail
  clear hW0
  refine (pen_out B _ p xs HP0.out h1 (by omega)).mono ?_
  rintro r w1 ⟨g, c, rfl, hL, hb⟩
  have m0 := (Keeps.of_below (S := []) hb).blk (by have := HS0.out; omega) (by simp) K0.out
  have m1 := (Keeps.of_below (S := []) hb).blk (by have := HS0.out; omega) (by simp) K1.out
  have hx : ∀ j v, (bys xs)[j]? = some v → w1.cell? ((⟨g, 0, none⟩ : Addr).add j) = some v := fun j v hv => by
    have hj := (List.getElem?_eq_some_iff.1 hv).1
    rw [bys_length] at hj
    rw [Addr.add_nat_zero, hL.cellAt j (by omega)]
    exact hv
  obtain ⟨cs, hcs⟩ : ∃ cs, cs = bys xs := ⟨_, rfl⟩
  have len : cs.length = xs.length := by rw [hcs, bys_length]; omega
  have one : ∀ v ∈ cs, v.oneCell' = true := by rw [hcs]; exact bys_one xs
  rw [← hcs] at hx
  obtain ⟨zs, hzs⟩ : ∃ zs : List Value, zs = Z44.toList := ⟨_, rfl⟩
  obtain ⟨D, hD⟩ : ∃ D : Array Value, D = (bys (pad44 xs)).toArray := ⟨_, rfl⟩
  have hzl : zs.length = 44 := by rw [hzs]; rfl
  have hsp : (splice zs 0 cs).toArray = D := by
    rw [hD, hzs, Z44_list, hcs]
    unfold splice bys pad44
    rw [List.take_zero, List.nil_append, Nat.zero_add, List.length_map, ← List.map_drop, ← List.map_append, List.drop_replicate]
  have m1' : Blk w1 (w.heap.size + 1) 62 zs.toArray := by rw [hzs]; exact m1
  have hDs : D.size = 44 := by rw [hD, List.size_toArray, bys_length, pad44_length _ h2]
  have hDi : (Try.prog.info? 62).map (·.size) = some D.size := by rw [hDs]; exact size_body
  have hD1 : D.all (·.oneCell') = true := by rw [hD]; exact all_oneCell_toArray (bys_one _)
  have HX := Lib.hid hx
  have HD := Lib.hid hD
  have HSP := Lib.hid hsp
  have HDI := Lib.hid hDi
  have HDS := Lib.hid hDs
  have HD1 := Lib.hid hD1
  have HZL := Lib.hid hzl
  have M0 := Lib.hid m0
  have M1 := Lib.hid m1'
  have HB := Lib.hid hb
  clear hx hcs m0 m1 hb hL hzs hD hsp hDi hDs hD1 m1' hzl
  go_wp2_with (first
    | (refine wpList_copy_splice rfl (.tmp 11) (.tmp 12) 106 106 rfl 5 Try.underlying106 size_byte (some ⟨w.heap.size + 1, 0, none⟩) (some ⟨g, 0, none⟩) 44 44 xs.length c rfl rfl (w.heap.size + 1) 0 zs 62 M1.out cs (by rw [len]; show _ = min _ _; omega) (fun _ => ⟨rfl, _, rfl, HX.out⟩) (by rw [len, HZL.out]; omega) one (w.heap.size + 1) w1 (Below.refl _ _) (Nat.le_refl _) ?_
       intro w2 HG hb2
       have G1 : Hid (w2.heap[w.heap.size + 1]? = some (.cells D 62 (0, 0))) := by rw [← HSP.out]; exact HG
       have G0 : Hid (Blk w2 w.heap.size 62 Z44) := Lib.hid ((Keeps.of_below (S := []) hb2).blk (by omega) (by simp) M0.out)
       have HB2 := Lib.hid hb2
       clear HG hb2)
    | (refine wpList_load_blk rfl 62 (.tmp 3) rfl (w.heap.size + 1) 0 rfl G1.out D (row_whole D) _ Try.underlying62 rfl HDI.out ?_)
    | (refine wpList_store_blk rfl 62 (.tmp 2) (.tmp 14) rfl w.heap.size 0 D rfl rfl G0.out (by rw [HDS.out]; decide) HDI.out HD1.out ?_; intro w3 hG3 hK3 hs3))
  refine bodyPost_ret (v := .agg D) (results_cell_row Try.results118 _ _ w.heap.size 62 D (0, 0) _ (by simp [Act.put]) (by have := hG3.out; rwa [over_all (by rw [HDS.out]; rfl)] at this) Try.underlying62 rfl HDI.out) rfl ?_
  refine ⟨by rw [HD.out], ?_⟩
  refine (HB0.out.trans ((HB.out.mono (by have := HS0.out; omega)).trans (HB2.out.mono (by omega)))).trans (Keeps.below (hK3.out.mono ?_ (fun i hi => hi)) (by simp))
  have := HB.out.size; have := HB2.out.size; have := HS0.out
  omega
end Go.Proofs.Ytcgafnmpfdkfoaa
