/- Frames as values: structs of five numbers and a body. -/
import Derived.Test.YtcgafnmpfdkfoaaBody
import Derived.Test.YtcgafnmpfdkfoaaPure12b
namespace Go.Proofs.Ytcgafnmpfdkfoaa
open Go.RowKit

theorem fold_set (D : List Value) (off : Nat) (cs : Array Value) (h : off + D.length ≤ cs.size) (k : Nat) :
    (D.zipIdx k).foldl (fun cs (c, j) => cs.setIfInBounds (off + j) c) cs = (cs.toList.take (off + k) ++ (D ++ cs.toList.drop (off + k + D.length))).toArray ∨ cs.size < off + k + D.length := by
  induction D generalizing cs k with
  | nil => left; simp
  | cons d r ih =>
    by_cases hk : cs.size < off + k + (r.length + 1)
    · right; simpa using hk
    · left
      simp only [List.zipIdx_cons, List.foldl_cons]
      rcases ih (cs.setIfInBounds (off + k) d) (by simp at h ⊢; omega) (k + 1) with h1 | h1
      · rw [h1]
        congr 1
        have e := list_seg_step cs.toList (off + k) d r (by simp; omega)
        simp only [Array.toList_setIfInBounds, List.length_cons]
        have e2 : off + k + 1 = off + (k + 1) := by omega
        rw [e2] at e
        simpa [List.append_assoc, Nat.add_assoc, Nat.add_comm, Nat.add_left_comm] using e
      · simp at h1; omega
theorem fold_over (D : Array Value) (off : Nat) (cs : Array Value) (h : off + D.size ≤ cs.size) : D.zipIdx.foldl (fun cs (c, j) => cs.setIfInBounds (off + j) c) cs = over cs off D := by
  have := fold_set D.toList off cs (by simpa using h) 0
  rcases this with h1 | h1
  · unfold over
    rw [← Array.foldl_toList]
    simpa using h1
  · simp at h1; omega

abbrev Fr5 (k z o e q : Int) : Array Value := #[.int .i64 k, .int .i64 z, .int .i64 o, .int .i64 e, .int .i64 q]
theorem Z44_size : Z44.size = 44 := rfl
theorem over_tail (A Z D : Array Value) (h : Z.size = D.size) : over (A ++ Z) A.size D = A ++ D := by
  unfold over
  apply Array.ext'
  simp [h]
theorem over_frame (k z o e q : Int) (D : Array Value) (hD : D.size = 44) : over (Fr5 k z o e q ++ Z44) 5 D = Fr5 k z o e q ++ D :=
  over_tail (Fr5 k z o e q) Z44 D (by rw [hD]; rfl)
theorem build_frame (k z e q : Int) (D : Array Value) (hD : D.size = 44) (W : World) :
    (Instr.build 64 #[(0, .int .i64 k), (1, .int .i64 z), (3, .int .i64 e), (4, .int .i64 q), (5, .agg D)]).run Try.prog W = .ok (.agg (Fr5 k z 0 e q ++ D)) W := by
  have h := fold_over D 5 (Fr5 k z 0 e q ++ Z44) (by rw [Array.size_append, Z44_size, hD]; exact Nat.le_refl _)
  rw [over_frame _ _ _ _ _ _ hD] at h
  simp [hD] at h
  simp [Instr.build, Instr.fill, go_sem, Value.cells, hD]
  exact h

/-- The same as the walk leaves it. -/
theorem build_fold (k z e q : Int) (D F : Array Value) (hD : D.size = 44) (hF : Fr5 k z 0 e q ++ D = F) :
    Array.foldl (fun cs (x : Value × Nat) => cs.setIfInBounds (5 + x.snd) x.fst) #[.int .i64 k, .int .i64 z, .int .i64 0, .int .i64 e, .int .i64 q, .int .u8 0, .int .u8 0, .int .u8 0, .int .u8 0, .int .u8 0, .int .u8 0, .int .u8 0, .int .u8 0, .int .u8 0, .int .u8 0, .int .u8 0, .int .u8 0, .int .u8 0, .int .u8 0, .int .u8 0, .int .u8 0, .int .u8 0, .int .u8 0, .int .u8 0, .int .u8 0, .int .u8 0, .int .u8 0, .int .u8 0, .int .u8 0, .int .u8 0, .int .u8 0, .int .u8 0, .int .u8 0, .int .u8 0, .int .u8 0, .int .u8 0, .int .u8 0, .int .u8 0, .int .u8 0, .int .u8 0, .int .u8 0, .int .u8 0, .int .u8 0, .int .u8 0, .int .u8 0, .int .u8 0, .int .u8 0, .int .u8 0, .int .u8 0] D.zipIdx 0 44 = F := by
  have h := fold_over D 5 (Fr5 k z 0 e q ++ Z44) (by rw [Array.size_append, Z44_size, hD]; exact Nat.le_refl _)
  rw [over_frame _ _ _ _ _ _ hD, hF] at h
  simp [hD] at h
  exact h
/-- What a slice of one frame is built of. -/
theorem slice_fold (F : Array Value) (hF : F.size = 49) :
    Array.foldl (fun cs (x : Value × Nat) => cs.setIfInBounds x.snd x.fst) #[.int .i64 0, .int .i64 0, .int .i64 0, .int .i64 0, .int .i64 0, .int .u8 0, .int .u8 0, .int .u8 0, .int .u8 0, .int .u8 0, .int .u8 0, .int .u8 0, .int .u8 0, .int .u8 0, .int .u8 0, .int .u8 0, .int .u8 0, .int .u8 0, .int .u8 0, .int .u8 0, .int .u8 0, .int .u8 0, .int .u8 0, .int .u8 0, .int .u8 0, .int .u8 0, .int .u8 0, .int .u8 0, .int .u8 0, .int .u8 0, .int .u8 0, .int .u8 0, .int .u8 0, .int .u8 0, .int .u8 0, .int .u8 0, .int .u8 0, .int .u8 0, .int .u8 0, .int .u8 0, .int .u8 0, .int .u8 0, .int .u8 0, .int .u8 0, .int .u8 0, .int .u8 0, .int .u8 0, .int .u8 0, .int .u8 0] F.zipIdx 0 49 = F := by
  have h := fold_over F 0 (Fr5 0 0 0 0 0 ++ Z44) (by rw [hF]; exact Nat.le_refl 49)
  rw [over_all (by rw [hF]; rfl)] at h
  simp [hF] at h
  exact h
theorem size_frame : (Try.prog.info? 64).map (·.size) = some 49 := by kernel_rfl
abbrev Z49 : Array Value := #[.int .i64 0, .int .i64 0, .int .i64 0, .int .i64 0, .int .i64 0, .int .u8 0, .int .u8 0, .int .u8 0, .int .u8 0, .int .u8 0, .int .u8 0, .int .u8 0, .int .u8 0, .int .u8 0, .int .u8 0, .int .u8 0, .int .u8 0, .int .u8 0, .int .u8 0, .int .u8 0, .int .u8 0, .int .u8 0, .int .u8 0, .int .u8 0, .int .u8 0, .int .u8 0, .int .u8 0, .int .u8 0, .int .u8 0, .int .u8 0, .int .u8 0, .int .u8 0, .int .u8 0, .int .u8 0, .int .u8 0, .int .u8 0, .int .u8 0, .int .u8 0, .int .u8 0, .int .u8 0, .int .u8 0, .int .u8 0, .int .u8 0, .int .u8 0, .int .u8 0, .int .u8 0, .int .u8 0, .int .u8 0, .int .u8 0]
theorem store_row {P : Program} (W : World) (b : Nat) (t : TypeId) (cs F : Array Value) (h : W.heap[b]? = some (.cells cs t (0, 0))) (hs : cs.size = F.size) (h1 : F.all (·.oneCell') = true) :
    (storeCells ⟨b, 0, none⟩ F.toList 0).run P W = .ok () (W.setRow b F) := by
  have := run_storeCells_at P b 0 t F.toList 0 cs W h (by simp; omega) (fun v hv => (Array.all_eq_true_iff_forall_mem.1 h1) v (by simpa using hv))
  rw [this]
  congr 2
  apply Array.ext'
  simp
  omega

/-- A frame's cells. -/
def Fr.arr (f : Fr) : Array Value := Fr5 f.kd f.zn f.off f.ep f.sq ++ (bys f.bd).toArray
def Fr.Ok (f : Fr) : Prop := f.bd.length = 44
theorem Fr.size {f : Fr} (h : f.Ok) : f.arr.size = 49 := by
  unfold Fr.arr
  have h2 := bys_length f.bd
  rw [h] at h2
  simp [h2]
theorem Fr.one (f : Fr) : f.arr.all (·.oneCell') = true := by
  rw [Array.all_eq_true_iff_forall_mem]
  intro v hv
  unfold Fr.arr at hv
  rw [Array.mem_append] at hv
  rcases hv with hv | hv
  · simp at hv
    rcases hv with rfl | rfl | rfl | rfl | rfl <;> rfl
  · exact bys_one _ v (by simpa using hv)
def flatF (fs : List Fr) : List Value := fs.flatMap fun f => f.arr.toList
theorem flatF_length {fs : List Fr} (h : ∀ f ∈ fs, f.Ok) : (flatF fs).length = fs.length * 49 := by
  induction fs with
  | nil => rfl
  | cons f r ih =>
    have h1 := Fr.size (h f List.mem_cons_self)
    have h2 := ih fun x hx => h x (List.mem_cons_of_mem _ hx)
    have e : flatF (f :: r) = f.arr.toList ++ flatF r := rfl
    rw [e, List.length_append, h2, Array.length_toList, h1, List.length_cons]
    omega
theorem flatF_append (a b : List Fr) : flatF (a ++ b) = flatF a ++ flatF b := by simp [flatF]
theorem flatF_one (fs : List Fr) : ∀ u ∈ flatF fs, u.oneCell' = true := by
  intro u hu
  obtain ⟨f, _, hf⟩ := List.mem_flatMap.1 hu
  exact (Array.all_eq_true_iff_forall_mem.1 f.one) u (by simpa using hf)
theorem flatF_get {fs : List Fr} (h : ∀ f ∈ fs, f.Ok) (i : Nat) (f : Fr) (hi : fs[i]? = some f) : ((flatF fs).drop (i * 49)).take 49 = f.arr.toList := by
  induction fs generalizing i with
  | nil => simp at hi
  | cons x r ih =>
    have e : flatF (x :: r) = x.arr.toList ++ flatF r := rfl
    have h1 := Fr.size (h x List.mem_cons_self)
    cases i with
    | zero =>
      obtain rfl : x = f := by simpa using hi
      rw [e, Nat.zero_mul, List.drop_zero, List.take_append_of_le_length (by simp; omega), List.take_of_length_le (by simp; omega)]
    | succ i =>
      rw [e, show (i + 1) * 49 = x.arr.toList.length + i * 49 by rw [Array.length_toList, h1]; omega, List.drop_append]
      simp only [Nat.add_sub_cancel_left]
      rw [List.drop_of_length_le (by omega), List.nil_append]
      exact ih (fun y hy => h y (List.mem_cons_of_mem _ hy)) i (by simpa using hi)
/-- A list of frames, in a block of its own. -/
def FrL (base : Nat) (w : World) (v : Value) (fs : List Fr) : Prop := w.ownsRow base 64 49 v fs.length (flatF fs)

theorem own_keeps_v {B : Nat} {S : List Nat} {w w1 : World} {base n size : Nat} {e : TypeId} {v : Value} {xs : List Value} (k : Keeps B S w w1) (hv : ∀ g, v.ownBlock = some g → g < B ∧ g ∉ S) (h : w.ownsRow base e size v n xs) : w1.ownsRow base e size v n xs := by
  refine ⟨h.1, ?_⟩
  rcases h.2 with h' | ⟨g', c', cur, h', hb, hh, h3⟩
  · exact .inl h'
  · have := hv g' (by rw [h']; rfl)
    exact .inr ⟨g', c', cur, h', hb, (k.block g' this.1 this.2).trans hh, h3⟩
theorem frameAt_ok (s : Sn) (g : G) (l : List E) (z : Int) (i : Nat) : (frameAt s g l z i).Ok := by
  unfold frameAt Fr.Ok
  split
  · exact headB_length g s.nx
  · exact partB_length l i
theorem frames_ok (s : Sn) (g : G) (l : List E) (z : Int) : ∀ f ∈ frames s g l z, f.Ok := by
  intro f hf
  obtain ⟨i, _, rfl⟩ := List.mem_map.1 hf
  exact frameAt_ok s g l z i
theorem frames_snoc (s : Sn) (g : G) (l : List E) (z : Int) (k : Nat) (h : k < nparts l) : (frames s g l z).take (k + 1) = (frames s g l z).take k ++ [frameAt s g l z k] := by
  rw [List.take_add_one, frames_get _ _ _ _ _ h]
  rfl
/-- The next frame, made of the one before. -/
theorem frame_next (s : Sn) (g : G) (l : List E) (z : Int) (k : Nat) (h : 1 ≤ k) :
    over (((frameAt s g l z (k - 1)).arr.setIfInBounds 0 (.int .i64 5)).setIfInBounds 2 (.int .i64 k)) 5 (bys (partB l k)).toArray = (frameAt s g l z k).arr := by
  obtain ⟨kd, o, bd, hb, hf⟩ : ∃ kd o bd, bd.length = 44 ∧ frameAt s g l z (k - 1) = ⟨kd, z, o, s.ep, s.gen, bd⟩ := by
    have := frameAt_ok s g l z (k - 1)
    unfold frameAt Fr.Ok at this
    unfold frameAt
    split
    · rename_i h0; rw [if_pos h0] at this; exact ⟨_, _, _, this, rfl⟩
    · rename_i h0; rw [if_neg h0] at this; exact ⟨_, _, _, this, rfl⟩
  rw [hf]
  have e1 : (((Fr.mk kd z o s.ep s.gen bd).arr.setIfInBounds 0 (.int .i64 5)).setIfInBounds 2 (.int .i64 k)) = Fr5 5 z k s.ep s.gen ++ (bys bd).toArray := by
    unfold Fr.arr
    apply Array.ext'
    simp
  rw [e1]
  have e2 : (frameAt s g l z k).arr = Fr5 5 z k s.ep s.gen ++ (bys (partB l k)).toArray := by
    unfold frameAt Fr.arr
    rw [if_neg (by omega)]
  rw [e2]
  exact over_tail (Fr5 5 z k s.ep s.gen) _ _ (by rw [List.size_toArray, List.size_toArray, bys_length, bys_length, hb, partB_length])
theorem info_frame : (Try.prog.info? 64).map (fun i => (i.zero, i.size, i.bytes)) = some (some (.agg Z49), 49, 88) := by kernel_rfl
end Go.Proofs.Ytcgafnmpfdkfoaa
