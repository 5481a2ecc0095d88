/- What the law CkptMoved stands on, part 3: Vote2, SnSame, Unlike0, Dec, Dec0, Fill, Read0, Read, Dec2. No condition. -/
import Derived.Test.YtcgafnmpfdkfoaaCodec
import Derived.Laws.BitsLemmas
import Derived.Test.YtcgafnmpfdkfoaaOpn
import Derived.Test.YtcgafnmpfdkfoaaRdAll
import Derived.Deep.RegionHeld3
import Derived.Laws.CopyOwn
import Derived.Test.YtcgafnmpfdkfoaaPure12b
import Derived.Test.YtcgafnmpfdkfoaaCkptMovedJ2
/- Layer 13: ckpt.Holders; the anchor. -/
namespace Go.Proofs.Ytcgafnmpfdkfoaa
open Go.RowKit

def held (cs : List Cp) (gen : Int) : List Int := (cs.filter fun c => decide (c.g = gen)).map Cp.z
theorem held_snoc (cs : List Cp) (k : Nat) (x : Cp) (gen : Int) (h : cs[k]? = some x) : held (cs.take (k + 1)) gen = held (cs.take k) gen ++ (if x.g = gen then [x.z] else []) := by
  unfold held
  rw [List.take_add_one, h, List.filter_append, List.map_append]
  by_cases hg : x.g = gen <;> simp [hg]
theorem held_length (cs : List Cp) (gen : Int) : (held cs gen).length ≤ cs.length := by
  unfold held
  rw [List.length_map]
  exact List.length_filter_le _ _
theorem ints_one (xs : List Int) : ∀ u ∈ nums xs, u.oneCell' = true := by
  intro u hu
  obtain ⟨x, _, rfl⟩ := List.mem_map.1 hu
  rfl
def HoldPost (w : World) (cs : List Cp) (gen : Int) (r : Ending) (w' : World) : Prop :=
  ∃ v, r = .returned v ∧ w'.ownsRow w.heap.size 3 1 v (held cs gen).length (nums (sorted (held cs gen))) ∧ Below w.heap.size w w'
set_option maxRecDepth 100000 in
set_option maxHeartbeats 1000000 in
theorem ckpt_holders (w : World) (A : Option Addr) (n c : Nat) (cs : List Cp) (h : CpsAt w A n c cs) (h60 : n ≤ 1000) (gen : Int) :
    Calls Try.prog 54 #[.slice A n c, .int .i64 gen] w (HoldPost w cs gen) := by
  obtain ⟨hl, hnc, hcm, hc⟩ := h
  have HC := Lib.hid hc
  have hc63 : c ≤ 9223372036854775807 := by unfold maxLen at hcm; omega
  clear hc hcm
  go_enter Try.func54, Try.ntmps54
  go_wp2
  go_loopw [5, 10] (fun v i wr => ∃ k : Nat, k ≤ n ∧ i = .int .i64 k ∧ wr.ownsRow w.heap.size 3 1 v (held (cs.take k) gen).length (nums (held (cs.take k) gen)) ∧ Below w.heap.size w wr) (fun _ i _ => n - (intOf i).toNat)
  case atStart => exact ⟨0, Nat.zero_le _, rfl, ⟨by simp [held, nums], .inl ⟨rfl, by simp [held]⟩⟩, Below.refl _ _⟩
  case round =>
    obtain ⟨k, hkn, rfl, hown, hB⟩ := hrel
    have HB := Lib.hid hB
    have HO := Lib.hid hown
    by_cases hlt : k < n
    · obtain ⟨b, rfl, hbl, hcells⟩ := HC.out (by omega)
      obtain ⟨x, hx⟩ : ∃ x, cs[k]? = some x := ⟨_, List.getElem?_eq_getElem (by omega)⟩
      have hbr : b < wr.heap.size := Nat.lt_of_lt_of_le hbl hB.size
      have hcell : ∀ o, wr.cell? ⟨b, o, none⟩ = w.cell? ⟨b, o, none⟩ := fun o => hB.cell (p := ⟨b, o, none⟩) hbl
      obtain ⟨e0, e1, e2, e3, e4⟩ := hcells k x hx
      rw [← hcell] at e0 e1 e2 e3 e4
      have HX := Lib.hid hx
      obtain ⟨V, hV⟩ : ∃ V, wr.alloc x.box = V := ⟨_, rfl⟩
      have b1 : Below wr.heap.size wr V := by rw [← hV]; exact below_box _ _
      have kx : Blk V wr.heap.size 93 x.arr := by rw [← hV]; exact Blk.newAt rfl
      have x0 : V.cell? ⟨wr.heap.size, 0, none⟩ = some (.int .i64 x.z) := by rw [kx.cell]; rfl
      have x1 : V.cell? ⟨wr.heap.size, 1, none⟩ = some (.int .i64 x.g) := by rw [kx.cell]; rfl
      have xl := kx.lt
      have HV := Lib.hid hV
      have B1 := Lib.hid (HB.out.trans (b1.mono HB.out.size))
      have O1 := Lib.hid (own_grow' hown b1)
      clear hB hown hcell hcells hx b1 kx hV
      by_cases hg : x.g = gen
      · obtain ⟨i0, hi, hz0, hz1, hz2⟩ := info_parts info_int
        have hlen : (held (cs.take k) gen).length ≤ 1000 := by have := held_length (cs.take k) gen; rw [List.length_take] at this; omega
        obtain ⟨V2, hV2⟩ : ∃ V2, V.alloc (.cells #[.int .i64 x.z] 3) = V2 := ⟨_, rfl⟩
        have b2 : Below V.heap.size V V2 := by rw [← hV2]; exact below_box _ _
        have O2 := Lib.hid (own_grow' O1.out b2)
        have B2 := Lib.hid (B1.out.trans (b2.mono B1.out.size))
        have X2 : Hid (∀ j u, (nums [x.z])[j]? = some u → V2.cell? ((⟨wr.heap.size + 1, 0, none⟩ : Addr).add j) = some u) := Lib.hid fun j u hu => by
          rw [show wr.heap.size + 1 = V.heap.size by rw [← HV.out]; simp, Addr.add_nat_zero, ← hV2, cell_of_row _ _ j _ _ (0, 0) (heap_alloc_new V _)]
          simpa [nums] using hu
        have hs2 : V2.heap.size = V.heap.size + 1 := by rw [← hV2]; simp
        have S2 := Lib.hid (And.intro hs2 B1.out.size)
        have hV' : wr.alloc (.cells #[.int .i64 x.z, .int .i64 gen, .int .i64 0, .int .i64 0, .pointer none] 93) = V := by rw [← HV.out, ← hg]
        have HV' := Lib.hid hV'
        have HV2 := Lib.hid hV2
        clear b2 hs2 hV' hV2
        go_wp2_with (at_builtin; refine Hid.out ?_)
        rw [HV'.out, HV2.out]
        refine Lib.hid ?_
        refine wpList_append_own _ rfl _ _ 73 rfl w.heap.size 3 i0 (.int .i64 0) 1 8 Try.underlying73 hi hz0 hz1 hz2 rfl (by omega) u5 (held (cs.take k) gen).length (nums (held (cs.take k) gen)) rfl O2.out ⟨wr.heap.size + 1, 0, none⟩ 1 1 (nums [x.z]) rfl rfl X2.out (ints_one _) (by unfold maxLen; omega) (by omega) (by have := S2.out; omega) ?_
        intro v' w10 hown' hgrow hnil
        have B10 := Lib.hid (B2.out.grown hgrow B2.out.size (fun j ej => (World.ownsRow.lt O2.out j ej).1))
        have O10 : Hid (w10.ownsRow w.heap.size 3 1 v' (held (cs.take (k + 1)) gen).length (nums (held (cs.take (k + 1)) gen))) := Lib.hid (by
          rw [held_snoc _ _ _ _ HX.out, if_pos hg, List.length_append]
          have : nums (held (cs.take k) gen ++ [x.z]) = nums (held (cs.take k) gen) ++ nums [x.z] := by simp [nums]
          rw [this]
          exact hown')
        clear hown' hgrow hnil
        go_wp2
        go_roundw
        case rel => exact ⟨k + 1, by omega, by simp, O10.out, B10.out⟩
        case measure => simp [intOf]; omega
      · have O10 : Hid (V.ownsRow w.heap.size 3 1 u5 (held (cs.take (k + 1)) gen).length (nums (held (cs.take (k + 1)) gen))) := Lib.hid (by
          rw [held_snoc _ _ _ _ HX.out, if_neg hg, List.append_nil]
          exact O1.out)
        go_wp2
        go_roundw
        case rel => exact ⟨k + 1, by omega, by simp, HV.out ▸ O10.out, HV.out ▸ B1.out⟩
        case measure => simp [intOf]; omega
    · obtain rfl : k = n := by omega
      have hfull : cs.take k = cs := List.take_of_length_le (by omega)
      rw [hfull] at HO
      clear hB hown
      go_wp2_with fail
      refine (sort_own wr w.heap.size u5 _ (held cs gen) HO.out rfl (by have := held_length cs gen; omega)).mono ?_
      rintro e w9 ⟨rfl, hown9, hg9⟩
      have O9 := Lib.hid hown9
      have B9 := Lib.hid (HB.out.grown hg9 HB.out.size (fun j ej => (World.ownsRow.lt HO.out j ej).1))
      clear hown9 hg9
      go_wp2
      go_ret
      exact ⟨u5, rfl, O9.out, B9.out⟩
theorem anchor13 (w : World) : Calls Try.prog 49 #[] w fun r w' => r = .returned (.bool true) ∧ Below w.heap.size w w' := by
  obtain ⟨V, hV⟩ : ∃ V, w.alloc (.cells #[.int .i64 1, .int .i64 3, .int .i64 0, .int .i64 0, .pointer none, .int .i64 9, .int .i64 4, .int .i64 0, .int .i64 0, .pointer none] 93) = V := ⟨_, rfl⟩
  have b0 : Below w.heap.size w V := by rw [← hV]; exact below_box _ _
  have k0 : Blk V w.heap.size 93 #[.int .i64 1, .int .i64 3, .int .i64 0, .int .i64 0, .pointer none, .int .i64 9, .int .i64 4, .int .i64 0, .int .i64 0, .pointer none] := by rw [← hV]; exact Blk.newAt rfl
  have hC : CpsAt V (some ⟨w.heap.size, 0, none⟩) 2 2 [⟨1, 3⟩, ⟨9, 4⟩] := by
    refine ⟨rfl, Nat.le_refl _, by unfold maxLen; omega, fun _ => ⟨_, rfl, k0.lt, fun k x hx => ?_⟩⟩
    match k, hx with
    | 0, hx => cases hx; exact ⟨by rw [k0.cell]; rfl, by rw [k0.cell]; rfl, by rw [k0.cell]; rfl, by rw [k0.cell]; rfl, by rw [k0.cell]; rfl⟩
    | 1, hx => cases hx; exact ⟨by rw [k0.cell]; rfl, by rw [k0.cell]; rfl, by rw [k0.cell]; rfl, by rw [k0.cell]; rfl, by rw [k0.cell]; rfl⟩
  have HB := Lib.hid b0
  have HC := Lib.hid hC
  clear b0 k0 hC
  go_enter Try.func49, Try.ntmps49
  go_wp2_with fail
  clear hV
  refine (ckpt_vote V _ _ _ _ HC.out (by omega) (by omega)).mono ?_
  rintro r w1 ⟨⟨m, hm, rfl⟩, hb1⟩
  have hm9 : m = ⟨9, 4⟩ := by
    obtain ⟨⟨j, hj, hjm⟩, hall⟩ := hm
    have h1 := hall 1 ⟨9, 4⟩ (by omega) rfl
    match j, hj, hjm with
    | 0, _, hjm => cases hjm; exact (h1 (by unfold Cp.better; simp)).elim
    | 1, _, hjm => cases hjm; rfl
  subst hm9
  have B1 := Lib.hid (HB.out.trans (hb1.mono HB.out.size))
  clear hb1 hm
  go_wp2
  go_ret
  exact ⟨rfl, B1.out.alloc B1.out.size _⟩
end Go.Proofs.Ytcgafnmpfdkfoaa
/- Law SnapSame: the plain part, and the walk. -/
namespace Go.Proofs.Ytcgafnmpfdkfoaa
open Go.RowKit

theorem xor_i64_nat (a b : Nat) (ha : a < 4611686018427387904) (hb : b < 4611686018427387904) : bits .xor .i64 (a : Int) (b : Int) = ((a ^^^ b : Nat) : Int) := by
  have hx : a ^^^ b < 2 ^ 62 := Nat.xor_lt_two_pow (by omega) (by omega)
  have h1 : (BitVec.ofInt 64 (a : Int)).toNat = a := by
    rw [BitVec.ofInt_natCast, BitVec.toNat_ofNat]; exact Nat.mod_eq_of_lt (by omega)
  have h2 : (BitVec.ofInt 64 (b : Int)).toNat = b := by
    rw [BitVec.ofInt_natCast, BitVec.toNat_ofNat]; exact Nat.mod_eq_of_lt (by omega)
  show IntKind.i64.wrap ((BitVec.ofInt 64 (a : Int) ^^^ BitVec.ofInt 64 (b : Int)).toNat : Int) = _
  rw [BitVec.toNat_xor, h1, h2, IntKind.wrap_i64]
  omega
theorem xor_one_ne (a : Int) (h0 : 1 ≤ a) (h1 : a ≤ 281474976710655) : bits .xor .i64 a 1 ≠ a := by
  obtain ⟨n, rfl⟩ : ∃ n : Nat, a = n := ⟨a.toNat, by omega⟩
  have h := xor_i64_nat n 1 (by omega) (by omega)
  simp only [Int.natCast_one] at h
  rw [h]
  intro hx
  have hx' : n ^^^ 1 = n := by exact_mod_cast hx
  have := congrArg (fun m => n ^^^ m) hx'
  simp [← Nat.xor_assoc] at this
theorem stood_ent : (Try.prog).stoodInHeld 31 = false := by kernel_rfl
theorem ent_eq (e f : E) (W : World) : (Op.equalIn 10000 31 e.v f.v).run Try.prog W = .ok (decide (e = f)) W := by
  have hu : (Try.prog).underlying 31 = some (.struct ((Try.prog).fieldsOf 31)) := by unfold Program.fieldsOf; rw [Try.underlying31]
  rw [run_equalIn_struct W 9999 31 e.arr f.arr hu stood_ent]
  have key0 : ∀ (xs : Array Value) j v, xs[j]? = some v → ∀ w, (part 3 xs j).run Try.prog w = .ok v w := fun xs j v hv w => by
    unfold part
    rw [Sem.run_bind, isAgg_int (k := .i64) Try.underlying3 w]
    simp [Result.andThen, hv]
  have hp : ∀ x : E, (∀ w, (part 3 x.arr 0).run Try.prog w = .ok (.int .i64 x.st) w) ∧ (∀ w, (part 3 x.arr 1).run Try.prog w = .ok (.int .i64 x.zn) w) ∧ (∀ w, (part 3 x.arr 2).run Try.prog w = .ok (.int .i64 x.mt) w) ∧
      (∀ w, (part 3 x.arr 3).run Try.prog w = .ok (.int .i64 x.off) w) ∧ (∀ w, (part 3 x.arr 4).run Try.prog w = .ok (.int .i64 x.sq) w) ∧ (∀ w, (part 3 x.arr 5).run Try.prog w = .ok (.int .i64 x.sm) w) := fun x => by
    exact ⟨key0 _ 0 _ rfl, key0 _ 1 _ rfl, key0 _ 2 _ rfl, key0 _ 3 _ rfl, key0 _ 4 _ rfl, key0 _ 5 _ rfl⟩
  obtain ⟨f0, f1, f2, f3, f4, f5⟩ := hp e
  obtain ⟨h0, h1, h2, h3, h4, h5⟩ := hp f
  have hfl : (((Try.prog).fieldsOf 31).toList) = (((Try.prog).fieldsOf 31).toList) := rfl
  conv at hfl => rhs; unfold Program.fieldsOf; rw [Try.underlying31]
  rw [hfl]
  have i0 := fun (a b : Int) (w : World) => run_equalIn_int (P := Try.prog) w 9998 3 .i64 .i64 a b Try.underlying3
  have key : decide (e = f) = (e.st == f.st && (e.zn == f.zn && (e.mt == f.mt && (e.off == f.off && (e.sq == f.sq && e.sm == f.sm))))) := by
    rw [Bool.eq_iff_iff]
    simp only [decide_eq_true_eq, Bool.and_eq_true, beq_iff_eq]
    constructor
    · rintro rfl; exact ⟨rfl, rfl, rfl, rfl, rfl, rfl⟩
    · rintro ⟨a, b, c, d, e', k⟩; cases e; cases f; simp_all
  rw [key]
  simp only [Op.eqFields, f0, f1, f2, f3, f4, f5, h0, h1, h2, h3, h4, h5, Sem.run_bind, Result.andThen_ok, i0, Sem.run_ite, Sem.run_pure]
  cases e.st == f.st <;> cases e.zn == f.zn <;> cases e.mt == f.mt <;> cases e.off == f.off <;> cases e.sq == f.sq <;> cases e.sm == f.sm <;> simp
/-- The entry of a block tells whether setting it changed the list. -/
theorem getE_set (g : G) (l : List E) (b : Int) (e : E) : getE l b = getE (setL g l b e) b ↔ setL g l b e = l := by
  constructor
  · intro h
    unfold setL at h ⊢
    by_cases hc : setCode g l b e = 0
    · rw [if_pos hc] at h ⊢
      unfold setCode at hc
      by_cases hb : b < 0 ∨ l.length ≤ b
      · rw [if_pos hb] at hc; omega
      · have h0 : 0 ≤ b := by omega
        have hl : b.toNat < l.length := by omega
        unfold getE at h
        rw [if_pos h0, if_pos h0, List.getD_eq_getElem?_getD, List.getD_eq_getElem?_getD, List.getElem?_eq_getElem hl, List.getElem?_set_self hl] at h
        simp only [Option.getD_some] at h
        rw [← h]
        exact List.set_getElem_self hl
    · rw [if_neg hc]
  · intro h; rw [h]
/-- Two snapshots that may be have the same frames just if they are the same. -/
theorem frOpt_iff {s t : Sn} {g : G} {l r : List E} {lv rv : List Int} (hl : MapOk g l lv) (hr : MapOk g r rv) (hs : s.right l = true) (ht : t.right r = true) : frOpt s g l = frOpt t g r ↔ s = t ∧ l = r := by
  unfold frOpt
  rw [if_pos hs, if_pos ht]
  constructor
  · intro h
    have h' : frames s g l 0 ++ [] = frames t g r 0 := by simpa using h
    obtain ⟨a, _, b, _⟩ := frames_inj (hl.sn hs) (hr.sn ht) [] h'
    exact ⟨a, b⟩
  · rintro ⟨rfl, rfl⟩; rfl
theorem snap_same_v (w : World) (p bl bv : Nat) (g : G) (l : List E) (lv : List Int) (s : Sn) (hM : MapAt w p bl bv g l lv) (hO : MapOk g l lv) (p' bl' bv' : Nat) (g' : G) (l' : List E) (lv' : List Int) (s' : Sn) (hM' : MapAt w p' bl' bv' g' l' lv') (hO' : MapOk g' l' lv') (t : Bool)
    (ht : decide (frOpt s g l = frOpt s' g' l') = t) :
    Calls Try.prog 45 #[s.v p, s'.v p'] w fun r w' => r = .returned (.bool t) ∧ Below w.heap.size w w' := ht ▸ snap_same w p bl bv g l lv s hM hO p' bl' bv' g' l' lv' s' hM' hO'
abbrev itemV (b : Int) (e : E) : Value := .agg #[.int .i64 b, .int .i64 e.st, .int .i64 e.zn, .int .i64 e.mt, .int .i64 e.off, .int .i64 e.sq, .int .i64 e.sm]
abbrev itemArr (b : Int) (e : E) : Array Value := #[.int .i64 b, .int .i64 e.st, .int .i64 e.zn, .int .i64 e.mt, .int .i64 e.off, .int .i64 e.sq, .int .i64 e.sm]
abbrev itemBox (b : Int) (e : E) : Obj := .cells (itemArr b e) 66
theorem Blk.icells {w : World} {i : Nat} {t : TypeId} {b : Int} {e : E} (h : Blk w i t (itemArr b e)) : (w.cell? ⟨i, 0, none⟩ = some (.int .i64 b) ∧ w.cell? ⟨i, 1, none⟩ = some (.int .i64 e.st) ∧ w.cell? ⟨i, 2, none⟩ = some (.int .i64 e.zn)) ∧ (w.cell? ⟨i, 3, none⟩ = some (.int .i64 e.mt) ∧ w.cell? ⟨i, 4, none⟩ = some (.int .i64 e.off)) ∧ w.cell? ⟨i, 5, none⟩ = some (.int .i64 e.sq) ∧ w.cell? ⟨i, 6, none⟩ = some (.int .i64 e.sm) :=
  ⟨⟨by rw [h.cell]; rfl, by rw [h.cell]; rfl, by rw [h.cell]; rfl⟩, ⟨by rw [h.cell]; rfl, by rw [h.cell]; rfl⟩, by rw [h.cell]; rfl, by rw [h.cell]; rfl⟩

theorem item_of {cs : Array Value} (hs : cs.size = 7) (h : ∀ i, i < 7 → ∃ n, cs[i]? = some (.int .i64 n) ∧ (Lit.int .i64 n).wf = true) : ∃ o : Op11, Value.agg cs = itemV o.b o.e := by
  obtain ⟨l⟩ := cs
  match l, hs with
  | [c0, c1, c2, c3, c4, c5, c6], _ =>
    obtain ⟨n0, h0, _⟩ := h 0 (by omega)
    obtain ⟨n1, h1, _⟩ := h 1 (by omega)
    obtain ⟨n2, h2, _⟩ := h 2 (by omega)
    obtain ⟨n3, h3, _⟩ := h 3 (by omega)
    obtain ⟨n4, h4, _⟩ := h 4 (by omega)
    obtain ⟨n5, h5, _⟩ := h 5 (by omega)
    obtain ⟨n6, h6, _⟩ := h 6 (by omega)
    simp at h0 h1 h2 h3 h4 h5 h6
    subst h0 h1 h2 h3 h4 h5 h6
    exact ⟨⟨n0, ⟨n1, n2, n3, n4, n5, n6⟩⟩, rfl⟩
/-- What stands of the first snapshot and the item. -/
structure SnA (w : World) (g : G) (l : List E) (lv : List Int) (s : Sn) (p bl bv ab N1 : Nat) (blk : Int) (ent : E) (W : World) : Prop where
  m : MapAt W p bl bv g l lv
  y : Blk W ab 53 (s.arr p)
  i : Blk W N1 66 (itemArr blk ent)
  u : Below w.heap.size w W
theorem SnA.grow {w : World} {g : G} {l : List E} {lv : List Int} {s : Sn} {p bl bv ab N1 : Nat} {blk : Int} {ent : E} {W W' : World} (h : SnA w g l lv s p bl bv ab N1 blk ent W) (k : Below W.heap.size W W') : SnA w g l lv s p bl bv ab N1 blk ent W' :=
  ⟨h.m.grow k, (Keeps.of_below (S := []) k).blk h.y.lt (by simp) h.y, (Keeps.of_below (S := []) k).blk h.i.lt (by simp) h.i, h.u.trans (k.mono h.u.size)⟩
theorem SnA.keeps {w : World} {g : G} {l : List E} {lv : List Int} {s : Sn} {p bl bv ab N1 : Nat} {blk : Int} {ent : E} {W W' : World} {x y B : Nat} (h : SnA w g l lv s p bl bv ab N1 blk ent W) (k : Keeps W.heap.size [x, y] W W') (hw : w.heap.size ≤ B) (hp : p < B ∧ bl < B ∧ bv < B ∧ ab < B ∧ N1 < B) (hx : B ≤ x ∧ B ≤ y) : SnA w g l lv s p bl bv ab N1 blk ent W' := by
  obtain ⟨q1, q2, q3⟩ := h.m.lt
  exact ⟨h.m.keeps k ⟨q1, by simp; omega⟩ ⟨q2, by simp; omega⟩ ⟨q3, by simp; omega⟩, k.blk h.y.lt (by simp; omega) h.y, k.blk h.i.lt (by simp; omega) h.i, h.u.trans (Keeps.below (k.mono h.u.size (fun _ hi => hi)) (by simp; omega))⟩

set_option maxRecDepth 100000 in
set_option maxHeartbeats 2000000 in
theorem snsame_walk (w : World) (g : G) (A : Option Addr) (n c : Nat) (ops : List Op11) (h : OpsAt w A n c ops) (blk : Int) (ent : E) (gen ep nx : Int) :
    Calls Try.prog 7 #[g.v, .slice A n c, itemV blk ent, .int .i64 gen, .int .i64 ep, .int .i64 nx] w fun r w' => r = .returned (.bool true) ∧ Below w.heap.size w w' := by
  obtain ⟨s, hs⟩ : ∃ s : Sn, s = ⟨gen, ep, nx⟩ := ⟨_, rfl⟩
  have hsg : gen = s.gen := by rw [hs]
  have hse : ep = s.ep := by rw [hs]
  have hsn : nx = s.nx := by rw [hs]
  subst hsg hse hsn
  clear hs
  obtain ⟨N1, hN1⟩ : ∃ N1, w.heap.size + 1 = N1 := ⟨_, rfl⟩
  obtain ⟨W0, hW0⟩ : ∃ W0, (w.alloc g.box).alloc (itemBox blk ent) = W0 := ⟨_, rfl⟩
  have k0 : Blk W0 w.heap.size 23 g.arr := by rw [← hW0]; exact (Blk.newAt rfl).alloc _
  have i0 : Blk W0 N1 66 (itemArr blk ent) := by rw [← hW0]; exact Blk.newAt (by simp; omega)
  have U0 : Below w.heap.size w W0 := by rw [← hW0]; exact (below_box _ _).alloc (by simp) _
  have HU := Lib.hid U0
  have K0 := Lib.hid k0
  have I0 := Lib.hid i0
  have HO := Lib.hid h
  clear h U0 k0 i0
  go_enter Try.func7, Try.ntmps7
  go_wp2_with fail
  clear hW0
  refine (anchor12 W0).mono ?_
  rintro r w1 ⟨rfl, hb1⟩
  have K1 := Lib.hid ((Keeps.of_below (S := []) hb1).blk K0.out.lt (by simp) K0.out)
  have I1 := Lib.hid ((Keeps.of_below (S := []) hb1).blk I0.out.lt (by simp) I0.out)
  have U1 : Hid (Below w.heap.size w w1) := Lib.hid (HU.out.trans (hb1.mono HU.out.size))
  obtain ⟨⟨x0, x1⟩, ⟨x2, x3⟩, x4, x5⟩ := K1.out.gcells
  clear hb1
  go_wp2_with fail
  by_cases hbad : g.right = false ∨ 60 < n
  · have hmade : Hid (Calls Try.prog 38 #[g.v, .slice A n c, .int .i64 s.gen, .int .i64 s.ep, .int .i64 s.nx] w1 fun r w' => r = .returned (.tuple #[sn0, ref0, .bool false]) ∧ Below w1.heap.size w1 w') := by
      cases hr : g.right with
      | false => exact Lib.hid (made12_no w1 g A n c _ _ _ hr)
      | true => exact Lib.hid (made12_long w1 g A n c _ _ _ hr (hbad.resolve_left (by rw [hr]; simp)))
    refine hmade.out.mono ?_
    rintro r w2 ⟨rfl, hb2⟩
    have U2 : Hid (Below w.heap.size w w2) := Lib.hid (U1.out.trans (hb2.mono U1.out.size))
    clear hb2 x0 x1 x2 x3 x4 x5 hmade hbad
    go_wp2
    go_ret
    exact ⟨rfl, (U2.out.alloc U2.out.size _).alloc (by have := U2.out.size; simp; omega) _⟩
  · have hr : g.right = true := by cases hr : g.right with | true => rfl | false => exact absurd (.inl hr) hbad
    have hn : n ≤ 60 := by omega
    have hops : OpsAt w1 A n c ops := by
      obtain ⟨h1, h2, h3, h4⟩ := HO.out
      refine ⟨h1, h2, h3, fun hp => ?_⟩
      obtain ⟨b', off, e1, e2, e3⟩ := h4 hp
      have hk : ∀ o, w1.cell? ⟨b', o, none⟩ = w.cell? ⟨b', o, none⟩ := fun o => U1.out.cell (p := ⟨b', o, none⟩) e2
      exact ⟨b', off, e1, Nat.lt_of_lt_of_le e2 U1.out.size, fun k o ho => by simpa only [hk] using e3 k o ho⟩
    refine (made12_yes w1 g A n c ops hops s hr hn).mono ?_
    rintro r w2 ⟨p, bl, bv, lv, rb, rc, rfl, hM, hOk, hown, _, hb2⟩
    obtain ⟨l, hl⟩ : ∃ l, playL g ops = l := ⟨_, rfl⟩
    rw [hl] at hM hOk hown ⊢
    obtain ⟨V2, hV2⟩ : ∃ V2, (w2.alloc (s.box p)).alloc (.cells (refArr s g (.slice (some ⟨rb, 0, none⟩) l.length rc)) 55) = V2 := ⟨_, rfl⟩
    have b3 : Below w2.heap.size w2 V2 := by rw [← hV2]; exact (below_box _ _).alloc (by simp) _
    have y3 : Blk V2 w2.heap.size 53 (s.arr p) := by rw [← hV2]; exact (Blk.newAt rfl).alloc _
    have z3 : Blk V2 (w2.heap.size + 1) 55 (refArr s g (.slice (some ⟨rb, 0, none⟩) l.length rc)) := by rw [← hV2]; exact Blk.newAt (by simp)
    have RL := Lib.hid (own_grow hown b3).1
    have RB := Lib.hid (((own_grow hown b3).1.lt _ rfl).2)
    have M3 := Lib.hid (hM.grow b3)
    have U3 : Hid (Below w.heap.size w V2) := Lib.hid (U1.out.trans ((hb2.trans (b3.mono hb2.size)).mono U1.out.size))
    have I3 := Lib.hid ((Keeps.of_below (S := []) (hb2.trans (b3.mono hb2.size))).blk I1.out.lt (by simp) I1.out)
    have HOk := Lib.hid hOk
    have HY := Lib.hid y3
    obtain ⟨⟨c0, c1⟩, c2, c9⟩ := z3.rcells
    have clt := z3.lt
    obtain ⟨d3, d4, d5, d6, d7, d8⟩ : V2.cell? ⟨w2.heap.size + 1, 3, none⟩ = some (.int .i64 g.D) ∧ V2.cell? ⟨w2.heap.size + 1, 4, none⟩ = some (.int .i64 g.Z) ∧ V2.cell? ⟨w2.heap.size + 1, 5, none⟩ = some (.int .i64 g.S) ∧ V2.cell? ⟨w2.heap.size + 1, 6, none⟩ = some (.int .i64 g.B) ∧ V2.cell? ⟨w2.heap.size + 1, 7, none⟩ = some (.int .i64 g.P) ∧ V2.cell? ⟨w2.heap.size + 1, 8, none⟩ = some (.int .i64 g.O) :=
      ⟨by rw [z3.cell]; rfl, by rw [z3.cell]; rfl, by rw [z3.cell]; rfl, by rw [z3.cell]; rfl, by rw [z3.cell]; rfl, by rw [z3.cell]; rfl⟩
    clear hM hOk hb2 b3 hl hbad hops x0 x1 x2 x3 x4 x5 hr y3 z3 hown HO HU K0 I0 K1
    have hz := HOk.out.len1000
    go_wp2_with fail
    clear hV2
    cases hsr : s.right l with
    | false =>
      refine (ref12_right_v V2 s g rb rc l hz RB.out (fun _ _ he => own_ent RL.out he) _ hsr).mono ?_
      rintro r w3 ⟨rfl, hb3⟩
      go_wp2
      go_ret
      exact ⟨rfl, U3.out.trans (hb3.mono U3.out.size)⟩
    | true =>
      refine (ref12_right_v V2 s g rb rc l hz RB.out (fun _ _ he => own_ent RL.out he) _ hsr).mono ?_
      rintro r w3 ⟨rfl, hb3⟩
      have A4 : Hid (SnA w g l lv s p bl bv w2.heap.size N1 blk ent w3) := Lib.hid (SnA.grow ⟨M3.out, HY.out, I3.out, U3.out⟩ hb3)
      have hrt := HOk.out.right
      have hb1' := (G.small_of_right hrt).B1
      have hall := (G.small_of_right hrt).all_le
      have hS0 := (G.small_of_right hrt).S0
      have hD0 := (G.small_of_right hrt).D0
      have hZ0 := (G.small_of_right hrt).Z0
      have hB0 := (G.small_of_right hrt).B0
      have hgall : 1 ≤ g.all := by have := (G.holds_range (holds00 hrt)).2; omega
      have l1 : 1 ≤ l.length := by have := HOk.out.len; omega
      have lv1 : 1 ≤ lv.length := by have := HOk.out.lvlen; omega
      have lv2 : lv.length ≤ 1000 := by have := HOk.out.lvlen; omega
      have L := Lib.hid (And.intro l1 (And.intro lv1 lv2))
      obtain ⟨⟨y0, y1⟩, y2, y3⟩ := A4.out.y.scells
      have lt4 := Lib.hid (And.intro A4.out.m.lt (And.intro A4.out.y.lt (And.intro A4.out.i.lt A4.out.u.size)))
      clear hb3 c0 c1 c2 c9 clt d3 d4 d5 d6 d7 d8 hrt hb1' hall hS0 hD0 hZ0 hB0 hgall l1 lv1 lv2 RL RB M3 U3 I3 HY I1 U1
      go_wp2_with fail
      refine (map_copy w3 p bl bv g l lv A4.out.m L.out.1 hz L.out.2.1 L.out.2.2).mono ?_
      rintro r w4 ⟨hb4, p', bl', bv', rfl, hM', np, nl, nv⟩
      have A5 := Lib.hid (A4.out.grow (hb4.trans ((below_box w4 (s.box p')).mono hb4.size)))
      have M5 := Lib.hid (hM'.grow (below_box w4 (s.box p')))
      have N5 := Lib.hid (And.intro hM'.lt (And.intro nl nv))
      obtain ⟨V5, hV5⟩ : ∃ V5, w4.alloc (s.box p') = V5 := ⟨_, rfl⟩
      have Z5 : Hid (Blk V5 w4.heap.size 53 (s.arr p')) := Lib.hid (by rw [← hV5]; exact Blk.newAt rfl)
      rw [hV5] at A5 M5
      clear y0 y1 y2 y3 hb4 hM' np nl nv A4
      obtain ⟨⟨y0, y1⟩, y2, y3⟩ := A5.out.y.scells
      obtain ⟨⟨i0, i1, i2⟩, ⟨i3, i4⟩, i5, i6⟩ := A5.out.i.icells
      go_wp2_with fail
      clear hV5
      refine (map_getE V5 p bl bv g l lv A5.out.m blk).mono ?_
      rintro r w5 ⟨rfl, hb5⟩
      obtain ⟨was, hwas⟩ : ∃ x, x = getE l blk := ⟨_, rfl⟩
      rw [← hwas]
      have hb6 : Below V5.heap.size V5 (w5.alloc was.box) := hb5.trans ((below_box w5 was.box).mono hb5.size)
      obtain ⟨V6, hV6⟩ : ∃ V6, w5.alloc was.box = V6 := ⟨_, rfl⟩
      rw [hV6] at hb6
      have A6 := Lib.hid (A5.out.grow hb6)
      have M6 := Lib.hid (M5.out.grow hb6)
      have Z6 := Lib.hid ((Keeps.of_below (S := []) hb6).blk Z5.out.lt (by simp) Z5.out)
      have E6 : Hid (Blk V6 w5.heap.size 31 was.arr) := Lib.hid (by rw [← hV6]; exact Blk.newAt rfl)
      have S6 := Lib.hid (And.intro hb5.size Z5.out.lt)
      have HW := Lib.hid hwas
      clear y0 y1 y2 y3 i0 i1 i2 i3 i4 i5 i6 hb5 hb6 A5 M5 Z5 hwas
      obtain ⟨⟨y0, y1⟩, y2, y3⟩ := Z6.out.scells
      obtain ⟨⟨i0, i1, i2⟩, ⟨i3, i4⟩, i5, i6⟩ := A6.out.i.icells
      go_wp2_with fail
      clear hV6
      refine (map_set V6 p' bl' bv' g l lv M6.out HOk.out blk ent).mono ?_
      rintro r w6 ⟨rfl, hM6, hk6⟩
      obtain ⟨l', hl'⟩ : ∃ x, x = setL g l blk ent := ⟨_, rfl⟩
      obtain ⟨lv', hlv'⟩ : ∃ x, x = setV g l lv blk ent := ⟨_, rfl⟩
      have OK' := Lib.hid (HOk.out.setv blk ent)
      rw [← hl', ← hlv'] at hM6 OK'
      have A7 : Hid (SnA w g l lv s p bl bv w2.heap.size N1 blk ent w6) := Lib.hid (A6.out.keeps hk6 (B := w3.heap.size) lt4.out.2.2.2 ⟨lt4.out.1.1, lt4.out.1.2.1, lt4.out.1.2.2, lt4.out.2.1, lt4.out.2.2.1⟩ N5.out.2)
      have Z7 := Lib.hid (hk6.blk Z6.out.lt (by have := N5.out.1; simp; omega) Z6.out)
      have E7 := Lib.hid (hk6.blk E6.out.lt (by have := N5.out.1; have := S6.out; simp; omega) E6.out)
      have M7 := Lib.hid hM6
      have HL := Lib.hid hl'
      clear y0 y1 y2 y3 i0 i1 i2 i3 i4 i5 i6 hk6 hM6 A6 M6 Z6 E6 hl' hlv'
      obtain ⟨⟨y0, y1⟩, y2, y3⟩ := Z7.out.scells
      obtain ⟨⟨i0, i1, i2⟩, ⟨i3, i4⟩, i5, i6⟩ := A7.out.i.icells
      go_wp2_with fail
      refine (map_getE w6 p' bl' bv' g l' lv' M7.out blk).mono ?_
      rintro r w7 ⟨rfl, hb7⟩
      obtain ⟨now, hnow⟩ : ∃ x, x = getE l' blk := ⟨_, rfl⟩
      rw [← hnow]
      have hb8 : Below w6.heap.size w6 (w7.alloc now.box) := hb7.trans ((below_box w7 now.box).mono hb7.size)
      obtain ⟨V8, hV8⟩ : ∃ V8, w7.alloc now.box = V8 := ⟨_, rfl⟩
      rw [hV8] at hb8
      have A8 := Lib.hid (A7.out.grow hb8)
      have M8 := Lib.hid (M7.out.grow hb8)
      have Z8 := Lib.hid ((Keeps.of_below (S := []) hb8).blk Z7.out.lt (by simp) Z7.out)
      have E8 := Lib.hid ((Keeps.of_below (S := []) hb8).blk E7.out.lt (by simp) E7.out)
      have F8 : Hid (Blk V8 w7.heap.size 31 now.arr) := Lib.hid (by rw [← hV8]; exact Blk.newAt rfl)
      have HN := Lib.hid hnow
      clear y0 y1 y2 y3 i0 i1 i2 i3 i4 i5 i6 hb7 hb8 A7 M7 Z7 E7 hnow
      obtain ⟨⟨y0, y1⟩, y2, y3⟩ := Z8.out.scells
      go_wp2_with fail
      clear hV8
      cases hsr' : s.right l' with
      | false =>
        have hd : decide (frOpt s g l = frOpt s g l') = false := by unfold frOpt; rw [hsr, hsr']; simp
        refine (snap_right_v V8 p' bl' bv' g l' lv' s M8.out OK'.out.len1000 _ hsr').mono ?_
        rintro r w9 ⟨rfl, hb9⟩
        have A9 := Lib.hid (A8.out.grow hb9)
        have M9 := Lib.hid (M8.out.grow hb9)
        have Z9 := Lib.hid ((Keeps.of_below (S := []) hb9).blk Z8.out.lt (by simp) Z8.out)
        clear y0 y1 y2 y3 hb9
        obtain ⟨⟨y0, y1⟩, y2, y3⟩ := A9.out.y.scells
        obtain ⟨⟨z0, z1⟩, z2, z3⟩ := Z9.out.scells
        go_wp2_with fail
        refine (snap_same_v w9 p bl bv g l lv s A9.out.m HOk.out p' bl' bv' g l' lv' s M9.out OK'.out _ hd).mono ?_
        rintro r w10 ⟨rfl, hb10⟩
        go_wp2
        go_ret
        exact ⟨rfl, A9.out.u.trans (hb10.mono A9.out.u.size)⟩
      | true =>
        refine (snap_right_v V8 p' bl' bv' g l' lv' s M8.out OK'.out.len1000 _ hsr').mono ?_
        rintro r w9 ⟨rfl, hb9⟩
        have A9 := Lib.hid (A8.out.grow hb9)
        have M9 := Lib.hid (M8.out.grow hb9)
        have Z9 := Lib.hid ((Keeps.of_below (S := []) hb9).blk Z8.out.lt (by simp) Z8.out)
        have E9 := Lib.hid ((Keeps.of_below (S := []) hb9).blk E8.out.lt (by simp) E8.out)
        have F9 := Lib.hid ((Keeps.of_below (S := []) hb9).blk F8.out.lt (by simp) F8.out)
        have hg := (HOk.out.sn hsr).nums.1
        have hx := xor_one_ne s.gen hg.1 hg.2
        obtain ⟨x, hxx⟩ : ∃ x, bits .xor .i64 s.gen 1 = x := ⟨_, rfl⟩
        obtain ⟨N10, hN10⟩ : ∃ N, w9.heap.size = N := ⟨_, rfl⟩
        obtain ⟨V10, hV10⟩ : ∃ V, w9.alloc (.cells #[.int .i64 x, .int .i64 s.ep, .int .i64 s.nx, .pointer (some ⟨p, 0, none⟩)] 53) = V := ⟨_, rfl⟩
        have hb10 : Below w9.heap.size w9 V10 := by rw [← hV10]; exact below_box _ _
        have A10 := Lib.hid (A9.out.grow hb10)
        have M10 := Lib.hid (M9.out.grow hb10)
        have Z10 := (Keeps.of_below (S := []) hb10).blk Z9.out.lt (by simp) Z9.out
        have E10 := (Keeps.of_below (S := []) hb10).blk E9.out.lt (by simp) E9.out
        have F10 := (Keeps.of_below (S := []) hb10).blk F9.out.lt (by simp) F9.out
        have C10 : Blk V10 N10 53 (Sn.arr ⟨x, s.ep, s.nx⟩ p) := by rw [← hV10, ← hN10]; exact Blk.newAt rfl
        have hxs : x ≠ s.gen := hxx ▸ hx
        -- what the three calls answer
        have hd1 : decide (frOpt s g l = frOpt s g l') = decide (was = now) := by
          rw [decide_eq_decide, frOpt_iff HOk.out OK'.out hsr hsr', HW.out, HN.out, HL.out, getE_set]
          exact ⟨fun h => h.2.symm, fun h => ⟨rfl, h.symm⟩⟩
        have hd3 : decide (frOpt s g l = frOpt ⟨x, s.ep, s.nx⟩ g l) = false := by
          rw [decide_eq_false_iff_not]
          intro h
          cases hc : Sn.right ⟨x, s.ep, s.nx⟩ l with
          | false => unfold frOpt at h; rw [hsr, hc] at h; simp at h
          | true => exact hxs (congrArg Sn.gen ((frOpt_iff HOk.out HOk.out hsr hc).1 h).1).symm
        obtain ⟨t, ht⟩ : ∃ t, decide (was = now) = t := ⟨_, rfl⟩
        have HS1 := Lib.hid (fun W (k : Below V10.heap.size V10 W) => snap_same_v W p bl bv g l lv s (A10.out.m.grow k) HOk.out p' bl' bv' g l' lv' s (M10.out.grow k) OK'.out t (hd1.trans ht))
        have HS2 := Lib.hid (fun W (k : Below V10.heap.size V10 W) => snap_same_v W p bl bv g l lv s (A10.out.m.grow k) HOk.out p bl bv g l lv s (A10.out.m.grow k) HOk.out true (by simp))
        have HS3 := Lib.hid (fun W (k : Below V10.heap.size V10 W) => snap_same_v W p bl bv g l lv s (A10.out.m.grow k) HOk.out p bl bv g l lv ⟨x, s.ep, s.nx⟩ (A10.out.m.grow k) HOk.out false hd3)
        have heq : ∀ W, (Op.equalIn 10000 31 was.v now.v).run Try.prog W = .ok t W := fun W => ht ▸ ent_eq was now W
        have hV10' := Lib.hid hV10
        clear hd1 hd3 hxs hx hV10 y0 y1 y2 y3
        obtain ⟨⟨y0, y1⟩, y2, y3⟩ := A9.out.y.scells
        go_wp2_with fail
        rw [hV10'.out]
        clear y0 y1 y2 y3
        obtain ⟨⟨y0, y1⟩, y2, y3⟩ := A10.out.y.scells
        obtain ⟨⟨z0, z1⟩, z2, z3⟩ := Z10.scells
        obtain ⟨⟨c0, c1⟩, c2, c3⟩ := C10.scells
        obtain ⟨⟨e0, e1, e2⟩, e3, e4, e5⟩ := E10.ent
        obtain ⟨⟨f0, f1, f2⟩, f3, f4, f5⟩ := F10.ent
        have q1 := A10.out.y.lt
        have q2 := Z10.lt
        have q3 := C10.lt
        have q4 := E10.lt
        have q5 := F10.lt
        have hfrom := @From.cell V10
        clear hb10 Z10 E10 F10 C10 hN10 ht
        by_cases hlt : x < 1
        · refine region_from (by kernel_rfl) (by kernel_rfl) ?_
          repeat (go_big_quiet_step (fail))
          go_big_quiet_step ((go_at_call 45; exact from_call (HS1.out _ (From.below _))))
          repeat (go_big_quiet_step (fail))
          go_big_quiet_step ((go_at_call 45; exact from_call (HS2.out _ (From.below _))))
          repeat (go_big_quiet_step (fail))
          refine wpQuiet_nil ?_
          intro W hW
          go_wp2
          go_ret
          exact ⟨rfl, A10.out.u.trans (hW.mono A10.out.u.size)⟩
        · refine region_from (by kernel_rfl) (by kernel_rfl) ?_
          repeat (go_big_quiet_step (fail))
          go_big_quiet_step ((go_at_call 45; exact from_call (HS1.out _ (From.below _))))
          repeat (go_big_quiet_step (fail))
          go_big_quiet_step ((go_at_call 45; exact from_call (HS2.out _ (From.below _))))
          repeat (go_big_quiet_step (fail))
          go_big_quiet_step ((go_at_call 45; exact from_call (HS3.out _ (From.below _))))
          repeat (go_big_quiet_step (fail))
          refine wpQuiet_nil ?_
          intro W hW
          go_wp2
          go_ret
          exact ⟨rfl, A10.out.u.trans (hW.mono A10.out.u.size)⟩
end Go.Proofs.Ytcgafnmpfdkfoaa
/- Law CkptUnlike: what the walk leans on. -/
namespace Go.Proofs.Ytcgafnmpfdkfoaa
open Go.RowKit

theorem frB_inj {f h : Fr} (hf : f.right = true) (hh : h.right = true) (he : frB f = frB h) : f = h := by
  have rf : ∀ x : Fr, x.right = true → (((1 ≤ x.kd ∧ x.kd ≤ 5) ∧ (0 ≤ x.zn ∧ x.zn ≤ 65535)) ∧ (0 ≤ x.off ∧ x.off ≤ 65535)) ∧ (1 ≤ x.ep ∧ x.ep ≤ 4294967295) ∧ (0 ≤ x.sq ∧ x.sq ≤ 281474976710655) := by
    intro x hx
    unfold Fr.right at hx
    simp only [Bool.and_eq_true, wi_true] at hx
    omega
  have af := rf f hf
  have ah := rf h hh
  unfold frB at he
  obtain ⟨h1, e6⟩ := List.append_inj he (by simp [le_length])
  obtain ⟨h2, e5⟩ := List.append_inj h1 (by simp [le_length])
  obtain ⟨h3, e4⟩ := List.append_inj h2 (by simp [le_length])
  obtain ⟨h4, e3⟩ := List.append_inj h3 (by simp [le_length])
  obtain ⟨h5, e2⟩ := List.append_inj h4 (by simp [le_length])
  obtain ⟨e0, _⟩ := List.append_inj h5 (by simp [le_length])
  have a0 := le_inj 1 _ _ (by omega) (by omega) (by omega) (by omega) e0
  have a1 := le_inj 2 _ _ (by omega) (by omega) (by omega) (by omega) e2
  have a2 := le_inj 2 _ _ (by omega) (by omega) (by omega) (by omega) e3
  have a3 := le_inj 4 _ _ (by omega) (by omega) (by omega) (by omega) e4
  have a4 := le_inj 6 _ _ (by omega) (by omega) (by omega) (by omega) e5
  cases f; cases h
  simp_all
theorem sect_inj {f h : Fr} (hf : f.right = true) (hh : h.right = true) (kf : f.Ok) (kh : h.Ok) (he : sect f = sect h) : f = h := by
  unfold sect at he
  exact frB_inj hf hh (List.append_inj he (by rw [frB_length kf, frB_length kh])).1
theorem sector_eq (f h : Fr) (hf : f.Ok) (hh : h.Ok) (W : World) : (Op.equalIn 10000 89 (.agg (secV f)) (.agg (secV h))).run Try.prog W = .ok (decide (sect f = sect h)) W :=
  run_equalIn_bytes (P := Try.prog) W 9999 Try.underlying89 Try.underlying5 size_byte (fun a b w => run_equalIn_int w 9998 5 .u8 .u8 a b Try.underlying5) (sect f) (sect h) (sect_length hf) (sect_length hh)
theorem flatS_get {fs : List Fr} (hk : ∀ f ∈ fs, f.Ok) (k : Nat) (f : Fr) (h : fs[k]? = some f) (j : Nat) (hj : j < 64) : (flatS fs)[k * 64 + j]? = (bys (sect f))[j]? := by
  induction fs generalizing k with
  | nil => simp at h
  | cons y r ih =>
    have l64 : (bys (sect y)).length = 64 := by rw [bys_length, sect_length (hk y (by simp))]
    rw [show flatS (y :: r) = bys (sect y) ++ flatS r from rfl]
    cases k with
    | zero =>
      simp at h; subst h
      rw [List.getElem?_append_left (by omega)]
      congr 1; omega
    | succ k =>
      rw [List.getElem?_cons_succ] at h
      rw [List.getElem?_append_right (by omega), l64, show (k + 1) * 64 + j - 64 = k * 64 + j by omega]
      exact ih (fun f hf => hk f (List.mem_cons_of_mem _ hf)) k h
/-- Sectors, as they lie. -/
def SecsAt (w : World) (A : Option Addr) (n c : Nat) (fs : List Fr) : Prop :=
  fs.length = n ∧ n ≤ c ∧ c ≤ maxLen ∧ (0 < n → ∃ b, A = some ⟨b, 0, none⟩ ∧ b < w.heap.size ∧ ∀ k f, fs[k]? = some f → w.rangeAt b (k * 64) (secV f).toList)
theorem SecsAt.grow {w w1 : World} {A : Option Addr} {n c : Nat} {fs : List Fr} (h : SecsAt w A n c fs) (k : Below w.heap.size w w1) : SecsAt w1 A n c fs := by
  obtain ⟨h1, h2, h3, h4⟩ := h
  refine ⟨h1, h2, h3, fun hp => ?_⟩
  obtain ⟨b, e1, e2, e3⟩ := h4 hp
  exact ⟨b, e1, Nat.lt_of_lt_of_le e2 k.size, fun i f hf => rangeAt_below (e3 i f hf) e2 k⟩
theorem secs_of_own {W : World} {base n : Nat} {v : Value} {fs : List Fr} (h : W.ownsRow base 89 64 v n (flatS fs)) (hn : fs.length = n) (hk : ∀ f ∈ fs, f.Ok) : ∃ A c, v = .slice A n c ∧ SecsAt W A n c fs := by
  have hlen := flatS_length hk
  rcases h.2 with ⟨rfl, rfl⟩ | ⟨g, c, cs, rfl, _, hg, hnc, hcm, _, _⟩
  · exact ⟨none, 0, rfl, hn, Nat.le_refl _, Nat.zero_le _, fun h => absurd h (by omega)⟩
  · refine ⟨_, c, rfl, hn, hnc, hcm, fun _ => ⟨g, rfl, (h.lt _ rfl).2, fun k f hf j v hv => ?_⟩⟩
    have hkk := (List.getElem?_eq_some_iff.1 hf).1
    have hj := (List.getElem?_eq_some_iff.1 hv).1
    rw [Array.length_toList, secV_size (hk f (List.mem_of_getElem? hf))] at hj
    rw [h.cellAt (k * 64 + j) (by omega), flatS_get hk k f hf j hj]
    simpa [secV] using hv
theorem store_table : ∀ W : World, (storeCells ⟨W.heap.size, 0, none⟩ tabV.toList 0).run Try.prog (W.alloc (.cells Try.zeroCells83 83)) = .ok () (W.alloc (.cells tabV 83)) := fun W =>
  run_storeCells_new W 83 _ tabV (by rw [tabV_size]; exact size_table) (by rw [ptab_zero, ptab_size, tabV_size]) (by
    rw [Array.all_eq_true_iff_forall_mem]
    intro v hv
    simp only [tabV, List.mem_toArray, List.mem_map] at hv
    obtain ⟨i, _, rfl⟩ := hv
    rfl)
theorem made13_bad (w : World) (g : G) (A : Option Addr) (n c : Nat) (gen ep nx : Int) (h : g.right = false ∨ 60 < n) :
    Calls Try.prog 50 #[g.v, .slice A n c, .int .i64 gen, .int .i64 ep, .int .i64 nx] w fun r w' => r = .returned (.tuple #[sn0, ref0, .bool false]) ∧ Below w.heap.size w w' := by
  cases hr : g.right with
  | false => exact made13_no w g A n c _ _ _ hr
  | true => exact made13_long w g A n c _ _ _ hr (h.resolve_left (by rw [hr]; simp))
/-- What stands of one of the two. -/
structure UnAt (w : World) (g : G) (l : List E) (lv : List Int) (s : Sn) (p bl bv st : Nat) (W : World) : Prop where
  m : MapAt W p bl bv g l lv
  y : Blk W st 53 (s.arr p)
  x : Blk W w.heap.size 23 g.arr
  u : Below w.heap.size w W
theorem UnAt.grow {w : World} {g : G} {l : List E} {lv : List Int} {s : Sn} {p bl bv st : Nat} {W W' : World} (h : UnAt w g l lv s p bl bv st W) (k : Below W.heap.size W W') : UnAt w g l lv s p bl bv st W' :=
  ⟨h.m.grow k, (Keeps.of_below (S := []) k).blk h.y.lt (by simp) h.y, (Keeps.of_below (S := []) k).blk h.x.lt (by simp) h.x, h.u.trans (k.mono h.u.size)⟩
theorem OpsAt.up {w w1 : World} {A : Option Addr} {n c : Nat} {ops : List Op11} (h : OpsAt w A n c ops) (k : Below w.heap.size w w1) : OpsAt w1 A n c ops := by
  obtain ⟨h1, h2, h3, h4⟩ := h
  refine ⟨h1, h2, h3, fun hp => ?_⟩
  obtain ⟨b', off, e1, e2, e3⟩ := h4 hp
  have hk : ∀ o, w1.cell? ⟨b', o, none⟩ = w.cell? ⟨b', o, none⟩ := fun o => k.cell (p := ⟨b', o, none⟩) e2
  exact ⟨b', off, e1, Nat.lt_of_lt_of_le e2 k.size, fun i o ho => by simpa only [hk] using e3 i o ho⟩
def Alike (fx fy : List Fr) (k : Nat) : Prop := ∀ (i : Nat) (f h : Fr), i < k → fx[i]? = some f → fy[i]? = some h → sect f = sect h
theorem Alike.step {fx fy : List Fr} {k : Nat} {f h : Fr} (hf : fx[k]? = some f) (hh : fy[k]? = some h) : Alike fx fy (k + 1) ↔ Alike fx fy k ∧ sect f = sect h := by
  constructor
  · intro H
    exact ⟨fun i a b hi ha hb => H i a b (by omega) ha hb, H k f h (by omega) hf hh⟩
  · rintro ⟨H, e⟩ i a b hi ha hb
    by_cases hik : i = k
    · subst hik; rw [hf] at ha; rw [hh] at hb; cases ha; cases hb; exact e
    · exact H i a b (by omega) ha hb
theorem Alike.all {fx fy : List Fr} (hx : FsOk fx) (hy : FsOk fy) (hl : fx.length = fy.length) : Alike fx fy fx.length ↔ fx = fy := by
  constructor
  · intro H
    apply List.ext_getElem? 
    intro i
    by_cases hi : i < fx.length
    · obtain ⟨f, hf⟩ : ∃ f, fx[i]? = some f := ⟨_, List.getElem?_eq_getElem hi⟩
      obtain ⟨h, hh⟩ : ∃ h, fy[i]? = some h := ⟨_, List.getElem?_eq_getElem (by omega)⟩
      rw [hf, hh]
      obtain ⟨a1, a2, _⟩ := hx f (List.mem_of_getElem? hf)
      obtain ⟨b1, b2, _⟩ := hy h (List.mem_of_getElem? hh)
      rw [sect_inj a1 b1 a2 b2 (H i f h hi hf hh)]
    · rw [List.getElem?_eq_none (by omega), List.getElem?_eq_none (by omega)]
  · rintro rfl i f h _ hf hh
    rw [hf] at hh; cases hh; rfl
end Go.Proofs.Ytcgafnmpfdkfoaa
/- Layer 3: a sector's frame: frame.Decode. -/
namespace Go.Proofs.Ytcgafnmpfdkfoaa
open Go.RowKit

theorem crc_open_yes (w : World) (b : Nat) (xs : List Int) (h : BysAt w (some ⟨b, 0, none⟩) 64 64 xs) (hs : sealedB xs) :
    Calls Try.prog 132 #[.agg tabV, .slice (some ⟨b, 0, none⟩) 64 64] w fun r w' => ∃ g c, r = .returned (.tuple #[.slice (some ⟨g, 0, none⟩) 60 c, .int .i64 0]) ∧ w'.ownsRow w.heap.size 5 1 (.slice (some ⟨g, 0, none⟩) 60 c) 60 (bys (xs.take 60)) ∧ Below w.heap.size w w' :=
  (crc_open w b xs h).mono fun r w' hp => by
    obtain ⟨hb, ⟨_, g, c, h1, h2⟩ | ⟨hn, _⟩⟩ := hp
    · exact ⟨g, c, h1, h2, hb⟩
    · exact absurd hs hn
theorem crc_open_no (w : World) (b : Nat) (xs : List Int) (h : BysAt w (some ⟨b, 0, none⟩) 64 64 xs) (hs : ¬ sealedB xs) :
    Calls Try.prog 132 #[.agg tabV, .slice (some ⟨b, 0, none⟩) 64 64] w fun r w' => r = .returned (.tuple #[.slice none 0 0, .int .i64 11]) ∧ Below w.heap.size w w' :=
  (crc_open w b xs h).mono fun r w' hp => by
    obtain ⟨hb, ⟨hn, _⟩ | ⟨_, h1⟩⟩ := hp
    · exact absurd hn hs
    · exact ⟨h1, hb⟩
theorem sealed_sect {f : Fr} (h : f.Ok) : sealedB (sect f) := by
  unfold sealedB sect
  rw [List.drop_left' (frB_length h), List.take_left' (frB_length h)]
def DecPost (w : World) (xs : List Int) (r : Ending) (w' : World) : Prop :=
  Below w.heap.size w w' ∧ ((∃ f : Fr, (f.right = true ∧ f.Ok ∧ Byt f.bd) ∧ xs = sect f ∧ r = .returned (.tuple #[.agg f.arr, .int .i64 0])) ∨
    (∃ e : Int, (e = 10 ∨ e = 11) ∧ (∀ f : Fr, f.right = true → f.Ok → xs ≠ sect f) ∧ r = .returned (.tuple #[.agg Z49, .int .i64 e])))
set_option maxRecDepth 100000 in
set_option maxHeartbeats 1000000 in
theorem decode_no (w : World) (xs : List Int) (hl : xs.length = 64) (hy : Byt xs) (hs : ¬ sealedB xs) :
    Calls Try.prog 99 #[.agg tabV, .agg (bys xs).toArray] w (DecPost w xs) := by
  obtain ⟨T, hT⟩ : ∃ T : Array Value, Hid (tabV = T) := ⟨_, Lib.hid rfl⟩
  have hTs : T.size = 256 := by rw [← hT.out]; exact tabV_size
  obtain ⟨D, hD⟩ : ∃ D : Array Value, Hid ((bys xs).toArray = D) := ⟨_, Lib.hid rfl⟩
  rw [hD.out, hT.out]
  have hDs : D.size = 64 := by rw [← hD.out, List.size_toArray, bys_length, hl]
  obtain ⟨V, hV⟩ : ∃ V, ((w.alloc (.cells T 83)).alloc (.cells D 89)).alloc (.cells Z49 64) = V := ⟨_, rfl⟩
  have b0 : Below w.heap.size w V := by rw [← hV]; exact ((below_box _ _).alloc (by simp) _).alloc (by simp; omega) _
  have k0 : Blk V w.heap.size 83 T := by rw [← hV]; exact ((Blk.newAt rfl).alloc _).alloc _
  have k1 : Blk V (w.heap.size + 1) 89 D := by rw [← hV]; exact (Blk.newAt (by simp)).alloc _
  have k2 : Blk V (w.heap.size + 2) 64 Z49 := by rw [← hV]; exact Blk.newAt (by simp)
  have HB := Lib.hid b0
  have K2 := Lib.hid k2
  have hba : BysAt V (some ⟨w.heap.size + 1, 0, none⟩) 64 64 xs := by
    refine ⟨hl, Nat.le_refl _, by unfold maxLen; omega, hy, fun _ => ⟨_, 0, rfl, k1.lt, fun k x hx => ?_⟩⟩
    rw [Nat.zero_add, k1.cell, ← hD.out]
    simp [bys, hx]
  have HOPEN : Hid (∀ W, Below V.heap.size V W → Calls Try.prog 132 #[.agg T, .slice (some ⟨w.heap.size + 1, 0, none⟩) 64 64] W fun r w' => r = .returned (.tuple #[.slice none 0 0, .int .i64 11]) ∧ Below W.heap.size W w') := Lib.hid (fun W k => by rw [← hT.out]; exact crc_open_no W _ xs (hba.grow k) hs)
  have hu := Try.underlying83
  have hi : (Try.prog.info? 83).map (·.size) = some T.toList.length := by rw [Array.length_toList, hTs]; exact size_table
  have h256 : T.toList.length = 256 := by rw [Array.length_toList, hTs]
  have HR : Hid (∀ W, Below V.heap.size V W → W.rangeAt w.heap.size 0 T.toList) := Lib.hid fun W k j v hv => by
    rw [Nat.zero_add, k.cell (p := ⟨w.heap.size, j, none⟩) k0.lt, k0.cell]
    simpa using hv
  have hr0 := HR.out V (Below.refl _ _)
  clear b0 k0 k1 k2 hba
  go_enter Try.func99, Try.ntmps99
  go_wp2_with fail
  clear hV
  go_region_held3 (fun w' => w'.rangeAt w.heap.size 0 T.toList) (first | (go_keep_ranges; done) | exact HR.out _ hb4 | exact HR.out _ (below_drew (Below.refl _ _)))
    ((go_at_call 132; refine (HOPEN.out _ (below_drew (Below.refl _ _))).mono ?_; rintro e w4 ⟨rfl, hb4'⟩; have hb4 : Below V.heap.size V w4 := (below_drew (Below.refl _ _)).trans hb4'))
  have K4 := Lib.hid ((Keeps.of_below (S := []) hb4).blk K2.out.lt (by simp) K2.out)
  have B4 := Lib.hid (HB.out.trans (hb4.mono HB.out.size))
  clear hb4 hb4' hr0 HOPEN
  go_wp2_with (refine wpList_store_blk rfl 64 (.tmp 4) (.tmp 19) rfl (w.heap.size + 2) 0 Z49 rfl rfl K4.out (Nat.le_refl 49) size_frame (by simp [Value.oneCell']) ?_; intro W8 hG8 hK8 hs8)
  have hG := hG8.out
  rw [over_all rfl] at hG
  have r1 : (loadVar 64 ⟨w.heap.size + 2, 0, none⟩).run Try.prog W8 = .ok (.agg Z49) W8 := run_loadVar_row _ _ _ _ _ _ _ hG Try.underlying64 rfl size_frame
  refine bodyPost_ret (v := .tuple #[.agg Z49, .int .i64 11]) ?_ rfl ⟨?_, .inr ⟨11, .inr rfl, fun f _ hk e => hs (e ▸ sealed_sect hk), rfl⟩⟩
  · simp [results, Try.results99, asAddr, r1]
  · exact B4.out.trans (Keeps.below (hK8.out.mono B4.out.size (fun _ h => h)) (by simp))
end Go.Proofs.Ytcgafnmpfdkfoaa
/- Layer 3: a frame out of bytes, in plain Lean. -/
namespace Go.Proofs.Ytcgafnmpfdkfoaa
def frOf (b : List Int) : Fr := ⟨unle (b.take 1), unle ((b.drop 2).take 2), unle ((b.drop 4).take 2), unle ((b.drop 6).take 4), unle ((b.drop 10).take 6), b.drop 16⟩
def verOf (b : List Int) : Int := unle ((b.drop 1).take 1)
theorem Byt.drop' {xs : List Int} (h : Byt xs) (k : Nat) : Byt (xs.drop k) := fun b hb => h b (List.mem_of_mem_drop hb)
theorem Byt.take' {xs : List Int} (h : Byt xs) (k : Nat) : Byt (xs.take k) := fun b hb => h b (List.mem_of_mem_take hb)
theorem frB_frOf {b : List Int} (hl : b.length = 60) (hy : Byt b) (hv : verOf b = 1) : frB (frOf b) = b := by
  have key : ∀ (k n : Nat), k + n ≤ 60 → le n (unle ((b.drop k).take n)) = (b.drop k).take n := fun k n hk => by
    have h := le_unle ((b.drop k).take n) ((hy.drop' k).take' n)
    rwa [List.length_take, List.length_drop, Nat.min_eq_left (by omega)] at h
  have e0 := key 0 1 (by omega)
  have e1 := key 1 1 (by omega)
  have e2 := key 2 2 (by omega)
  have e3 := key 4 2 (by omega)
  have e4 := key 6 4 (by omega)
  have e5 := key 10 6 (by omega)
  unfold verOf at hv
  rw [hv] at e1
  unfold frB frOf
  simp only
  rw [show b.take 1 = (b.drop 0).take 1 by rw [List.drop_zero], e0, e1, e2, e3, e4, e5]
  have j : ∀ (k n m : Nat), m = k + n → b.take k ++ (b.drop k).take n = b.take m := fun k n m h => by subst h; rw [List.take_add]
  rw [show (b.drop 0).take 1 = b.take 1 by rw [List.drop_zero], j 1 1 2 rfl, j 2 2 4 rfl, j 4 2 6 rfl, j 6 4 10 rfl, j 10 6 16 rfl, List.take_append_drop]
theorem frB_at (f : Fr) : frB f = le 1 f.kd ++ (le 1 1 ++ (le 2 f.zn ++ (le 2 f.off ++ (le 4 f.ep ++ (le 6 f.sq ++ f.bd))))) := by simp [frB]
theorem frOf_frB {f : Fr} (hf : f.right = true) : frOf (frB f) = f ∧ verOf (frB f) = 1 := by
  have hr : (((1 ≤ f.kd ∧ f.kd ≤ 5) ∧ (0 ≤ f.zn ∧ f.zn ≤ 65535)) ∧ (0 ≤ f.off ∧ f.off ≤ 65535)) ∧ (1 ≤ f.ep ∧ f.ep ≤ 4294967295) ∧ (0 ≤ f.sq ∧ f.sq ≤ 281474976710655) := by
    unfold Fr.right at hf
    simp only [Bool.and_eq_true, wi_true] at hf
    omega
  have d1 : ∀ (n m k : Nat) (v : Int) (R : List Int), n + k = m → (le n v ++ R).drop m = R.drop k := fun n m k v R h => by
    subst h; rw [← List.drop_drop, List.drop_left' (le_length n v)]
  have t1 : ∀ (n : Nat) (v : Int) (R : List Int), (le n v ++ R).take n = le n v := fun n v R => List.take_left' (le_length n v)
  have a1 : (frB f).drop 1 = le 1 1 ++ (le 2 f.zn ++ (le 2 f.off ++ (le 4 f.ep ++ (le 6 f.sq ++ f.bd)))) := by rw [frB_at, d1 1 1 0 _ _ rfl, List.drop_zero]
  have a2 : (frB f).drop 2 = le 2 f.zn ++ (le 2 f.off ++ (le 4 f.ep ++ (le 6 f.sq ++ f.bd))) := by rw [frB_at, d1 1 2 1 _ _ rfl, d1 1 1 0 _ _ rfl, List.drop_zero]
  have a4 : (frB f).drop 4 = le 2 f.off ++ (le 4 f.ep ++ (le 6 f.sq ++ f.bd)) := by rw [show (4 : Nat) = 2 + 2 by rfl, ← List.drop_drop, a2, d1 2 2 0 _ _ rfl, List.drop_zero]
  have a6 : (frB f).drop 6 = le 4 f.ep ++ (le 6 f.sq ++ f.bd) := by rw [show (6 : Nat) = 4 + 2 by rfl, ← List.drop_drop, a4, d1 2 2 0 _ _ rfl, List.drop_zero]
  have a10 : (frB f).drop 10 = le 6 f.sq ++ f.bd := by rw [show (10 : Nat) = 6 + 4 by rfl, ← List.drop_drop, a6, d1 4 4 0 _ _ rfl, List.drop_zero]
  have a16 : (frB f).drop 16 = f.bd := by rw [show (16 : Nat) = 10 + 6 by rfl, ← List.drop_drop, a10, d1 6 6 0 _ _ rfl, List.drop_zero]
  constructor
  · unfold frOf
    rw [a2, a4, a6, a10, a16, t1, t1, t1, t1, frB_at, t1, unle_le 1 _ (by omega) (by omega), unle_le 2 _ (by omega) (by omega), unle_le 2 _ (by omega) (by omega), unle_le 4 _ (by omega) (by omega), unle_le 6 _ (by omega) (by omega)]
  · unfold verOf
    rw [a1, t1]; rfl
end Go.Proofs.Ytcgafnmpfdkfoaa
/- What another frame tells: snap.fill. -/
namespace Go.Proofs.Ytcgafnmpfdkfoaa
open Go.RowKit

/-- Entries set one behind the other, from a block on, up to the last block. -/
def fillGo (g : G) : Int → List E → List E → List E × Int
  | _, [], l => (l, 0)
  | b, e :: es, l => if g.B ≤ b then (l, 0) else if setCode g l b e = 0 then fillGo g (b + 1) es (setL g l b e) else (l, setCode g l b e)
/-- The entries that a frame's bytes tell. -/
def unPart (ys : List Int) : List E := [unEnt (ys.drop 1), unEnt (ys.drop 17)]
def fillB (f : Fr) : Int := 2 * (f.off - 1)
/-- What 'fill' leaves: the map behind the play. -/
def FillPost (w : World) (p bl bv : Nat) (g : G) (l : List E) (f : Fr) (e : Ending) (w' : World) : Prop :=
  e = .returned (.int .i64 (fillGo g (fillB f) (unPart f.bd) l).2) ∧ (∃ lv', MapAt w' p bl bv g (fillGo g (fillB f) (unPart f.bd) l).1 lv' ∧ MapOk g (fillGo g (fillB f) (unPart f.bd) l).1 lv') ∧ Keeps w.heap.size [bl, bv] w w'
/-- What stands while 'fill' reads. -/
structure FgAt (w : World) (N1 r N0 : Nat) (s : Sn) (p bl bv : Nat) (f : Fr) (ys : List Int) (W : World) : Prop where
  u : Keeps w.heap.size [bl, bv] w W
  y : Blk W w.heap.size 53 (s.arr p)
  f : Blk W N1 64 f.arr
  r : RdAt N0 W r ys
def CutT (N0 : Nat) (W : World) (r : Nat) (ys : List Int) (e : E) (b : Int) (v u : Value) (wx : World) : Prop :=
  ∃ be, v = .pointer (some ⟨be, 0, none⟩) ∧ u = .int .i64 b ∧ W.heap.size ≤ be ∧ Keeps W.heap.size [r] W wx ∧ RdAt N0 wx r ys ∧ Blk wx be 31 e.arr

theorem geo_blocks (g : G) (w : World) : (Instr.field 23 (.agg #[.int .i64 g.D, .int .i64 g.Z, .int .i64 g.S, .int .i64 g.B, .int .i64 g.P, .int .i64 g.O]) 3).run Try.prog w = .ok (.int .i64 g.B) w := by kernel_rfl
set_option maxRecDepth 100000 in
set_option maxHeartbeats 2000000 in
theorem snap_fill (w : World) (p bl bv : Nat) (g : G) (l : List E) (lv : List Int) (s : Sn) (hM : MapAt w p bl bv g l lv) (hO : MapOk g l lv) (f : Fr) (hk : f.Ok) (hb : Byt f.bd) (o1 : 1 ≤ f.off) (o2 : f.off ≤ 1000) :
    Calls Try.prog 86 #[s.v p, f.v] w (FillPost w p bl bv g l f) := by
  obtain ⟨V0, hV0⟩ : ∃ V0, (w.alloc (s.box p)).alloc (.cells f.arr 64) = V0 := ⟨_, rfl⟩
  obtain ⟨N1, hN1⟩ : ∃ N1, w.heap.size + 1 = N1 := ⟨_, rfl⟩
  have b0 : Below w.heap.size w V0 := by rw [← hV0]; exact (below_box _ _).alloc (by simp) _
  have k0 : Blk V0 w.heap.size 53 (s.arr p) := by rw [← hV0]; exact (Blk.newAt rfl).alloc _
  have k1 : Blk V0 N1 64 f.arr := by rw [← hV0]; exact Blk.newAt (by simp; omega)
  have B0 := Lib.hid b0
  have K0 := Lib.hid k0
  have K1 := Lib.hid k1
  have HK := Lib.hid hk
  have HB := Lib.hid hb
  have M0 := Lib.hid (hM.grow b0)
  have Mlt := Lib.hid hM.lt
  have O0 := Lib.hid hO
  clear b0 k0 k1 hb hM hO
  go_enter Try.func86, Try.ntmps86
  go_wp2_with fail
  have HN1 := Lib.hid hN1
  clear hV0 hN1
  have hk44 : f.bd.length = 44 := hk
  refine (codec_new_n V0 N1 6 43 43 (f.bd.drop 1) K1.out.lt (fun j v hj => by rw [K1.out.cell, show 6 + j = 5 + (1 + j) by omega]; exact Fr.byte (by rw [List.getElem?_drop] at hj; exact hj)) (by simp; omega) (by omega) (by omega)).mono ?_
  rintro e W1 ⟨r, rfl, hR1, hb1⟩
  obtain ⟨N0, hN0⟩ : ∃ N, V0.heap.size = N := ⟨_, rfl⟩
  rw [hN0] at hR1
  have F1 : Hid (FgAt w N1 r N0 s p bl bv f (f.bd.drop 1) W1) := Lib.hid ⟨(Keeps.of_below B0.out).trans (((Keeps.of_below (S := [bl, bv]) hb1)).mono B0.out.size (fun _ h => h)), (Keeps.of_below (S := []) hb1).blk K0.out.lt (by simp) K0.out, (Keeps.of_below (S := []) hb1).blk K1.out.lt (by simp) K1.out, hR1⟩
  have M1 := Lib.hid (M0.out.grow hb1)
  have hr := hR1.lt
  have hl0 := K0.out.lt
  have hl1 := K1.out.lt
  have hml := Mlt.out
  clear hb1 hR1 M0 hk44 hk
  go_wp2_with fail
  go_loopw [13] (fun i wr => ∃ (k : Nat) (l' : List E) (lv' : List Int), k ≤ 2 ∧ i = .int .i64 k ∧ fillGo g (fillB f) (unPart f.bd) l = fillGo g (fillB f + k) ((unPart f.bd).drop k) l' ∧ MapAt wr p bl bv g l' lv' ∧ MapOk g l' lv' ∧ FgAt w N1 r N0 s p bl bv f ((f.bd.drop 1).drop (16 * k)) wr) (fun i _ => 2 - (intOf i).toNat)
  case atStart => exact ⟨0, l, lv, by omega, rfl, by simp, M1.out, O0.out, by simpa using F1.out⟩
  case round =>
    obtain ⟨k, l', lv', hk2, rfl, hgo, hM, hO, hF⟩ := hrel
    have HG := Lib.hid hgo
    have HM := Lib.hid hM
    have HO := Lib.hid hO
    have HF := Lib.hid hF
    clear hgo hM hO hF
    by_cases hlt : k < 2
    · obtain ⟨ys, hys⟩ : ∃ ys, Hid ((f.bd.drop 1).drop (16 * k) = ys) := ⟨_, Lib.hid rfl⟩
      rw [hys.out] at HF
      have hbl : f.bd.length = 44 := HK.out
      have hyl : 16 < ys.length ∧ ys.length ≤ 1000 := by rw [← hys.out]; simp; omega
      have hyb : Byt ys := by rw [← hys.out]; exact (HB.out.drop _).drop _
      have hdr : (unPart f.bd).drop k = unEnt ys :: (unPart f.bd).drop (k + 1) := by
        rw [← hys.out]
        have : k = 0 ∨ k = 1 := by omega
        rcases this with rfl | rfl <;> simp [unPart]
      have HD := Lib.hid hdr
      have hrf : ¬ N1 = r := by omega
      have hnl : N1 < wr.heap.size := HF.out.f.lt
      have hbc : wr.cell? ⟨N1, 2, none⟩ = some (.int .i64 f.off) := HF.out.f.fcells.2.1.1
      have HT : Hid (∀ w', Keeps wr.heap.size [r] wr w' → w'.cell? ⟨N1, 2, none⟩ = some (.int .i64 f.off)) := Lib.hid fun w' k' => (k'.blk HF.out.f.lt (by simpa using hrf) HF.out.f).fcells.2.1.1
      have htk : Hid (∀ W, Keeps wr.heap.size [] wr W → Calls Try.prog 122 #[.pointer (some ⟨r, 0, none⟩)] W (EntPost N0 W r ys)) :=
        Lib.hid fun W k' => snap_take N0 W r ys (HF.out.r.keeps k' (by simp)) hyb hyl.1 hyl.2
      obtain ⟨en, hen⟩ : ∃ en, Hid (unEnt ys = en) := ⟨_, Lib.hid rfl⟩
      rw [hen.out] at HD
      have hrl := HF.out.r.lt.2
      clear hdr hyb hyl
      have hw1 : IntKind.i64.wrap (f.off - 1) = f.off - 1 := by rw [IntKind.wrap_i64]; omega
      have hw2 : IntKind.i64.wrap (2 * (f.off - 1)) = 2 * (f.off - 1) := by rw [IntKind.wrap_i64]; omega
      have hw3 : IntKind.i64.wrap (2 * (f.off - 1) + k) = 2 * (f.off - 1) + k := by rw [IntKind.wrap_i64]; omega
      go_wp2_with fail
      go_cut [7, 8] (fun a b wx => CutT N0 wr r (ys.drop 16) en (2 * (f.off - 1) + k) a b wx)
      case first =>
        go_region_held3 (fun w' => w'.cell? ⟨N1, 2, none⟩ = some (.int .i64 f.off)) (first | (rw [hSs]; done) | (rw [hSa]; done) | (rw [hS0]; done) | (go_keep; done) | (trace_state; fail))
          (first | (go_at_call 122; refine (htk.out _ ((Keeps.refl _ _ wr).drew)).mono ?_; rintro e w' ⟨rfl, hR2, hK2⟩; rw [hen.out]; have hk2' : Keeps wr.heap.size [r] wr w' := (Keeps.refl _ _ wr).drew.trans hK2; have hS0 := HT.out _ hk2'; have hSa := fun o => HT.out _ (hk2'.trans ((Keeps.of_below (S := [r]) (below_box w' o)).mono hk2'.size (fun _ hi => hi)))) | (go_at_call 122; refine (htk.out _ ((Keeps.of_below (below_box wr _)).drew)).mono ?_; rintro e w' ⟨rfl, hR2, hK2⟩; rw [hen.out]; have hk2' : Keeps wr.heap.size [r] wr w' := (Keeps.of_below (S := [r]) (below_box wr _)).drew.trans (hK2.mono (by simp [World.drew]) (by simp)); have e2 : Blk w' wr.heap.size 31 zeroE := hK2.blk (by simp [World.drew]) (by simp; omega) (Blk.newAt rfl); obtain ⟨⟨v0, v1, v2⟩, v3, v4, v5⟩ := Blk.ent (e := E0) e2; have uf := e2.frozen; have ul := e2.lt; have hS0 := HT.out _ hk2'; have hSs := fun a0 a1 a2 a3 a4 a5 => HT.out _ ((((((hk2'.setCell ⟨wr.heap.size, 0, none⟩ a0 (.inr (Nat.le_refl _))).setCell ⟨wr.heap.size, 1, none⟩ a1 (.inr (Nat.le_refl _))).setCell ⟨wr.heap.size, 2, none⟩ a2 (.inr (Nat.le_refl _))).setCell ⟨wr.heap.size, 3, none⟩ a3 (.inr (Nat.le_refl _))).setCell ⟨wr.heap.size, 4, none⟩ a4 (.inr (Nat.le_refl _))).setCell ⟨wr.heap.size, 5, none⟩ a5 (.inr (Nat.le_refl _)))))
        · go_wp2_with fail
          go_meet
          case rel => exact ⟨_, rfl, rfl, hk2'.size, hk2'.trans ((Keeps.of_below (S := [r]) (below_box _ _)).mono hk2'.size (fun _ hi => hi)), hR2.grow (below_box _ _), Blk.newAt rfl⟩
        · go_wp2_with fail
          go_meet
          case rel =>
            refine ⟨_, rfl, rfl, Nat.le_refl _, ((((((hk2'.setCell _ _ (.inr (Nat.le_refl _))).setCell _ _ (.inr (Nat.le_refl _))).setCell _ _ (.inr (Nat.le_refl _))).setCell _ _ (.inr (Nat.le_refl _))).setCell _ _ (.inr (Nat.le_refl _))).setCell _ _ (.inr (Nat.le_refl _))), ?_, (((((e2.set_ 0 _).set_ 1 _).set_ 2 _).set_ 3 _).set_ 4 _).set_ 5 _⟩
            exact hR2.other ((((((((Keeps.refl _ [wr.heap.size] w').setCell _ _ (.inl (by simp))).setCell _ _ (.inl (by simp))).setCell _ _ (.inl (by simp))).setCell _ _ (.inl (by simp))).setCell _ _ (.inl (by simp))).setCell _ _ (.inl (by simp)))) e2 (by decide)
      case rest =>
        obtain ⟨be, rfl, rfl, nb, K2, R2, E2⟩ := hcut
        obtain ⟨W2, rfl⟩ : ∃ W2 : World, W2 = wc := ⟨_, rfl⟩
        have rn : r ≠ w.heap.size ∧ r ≠ N1 ∧ r ≠ p ∧ r ≠ bl ∧ r ≠ bv := by omega
        have hG2 : FgAt w N1 r N0 s p bl bv f (ys.drop 16) W2 := ⟨HF.out.u.trans (Keeps.drop (K2.mono HF.out.u.size (fun _ h => h)) (by simp; omega)), K2.blk HF.out.y.lt (by simp; omega) HF.out.y, K2.blk HF.out.f.lt (by simp; omega) HF.out.f, R2⟩
        have hM2 : MapAt W2 p bl bv g l' lv' := by
          have := HM.out.lt
          exact HM.out.keeps K2 (by simp; omega) (by simp; omega) (by simp; omega)
        have G2 := Lib.hid hG2
        have M2 := Lib.hid hM2
        have E2' := Lib.hid E2
        obtain ⟨⟨y0, y1⟩, y2, y3⟩ := hG2.y.scells
        have hgo' : Hid (fillGo g (fillB f) (unPart f.bd) l = fillGo g (2 * (f.off - 1) + k) (en :: (unPart f.bd).drop (k + 1)) l') := Lib.hid (by rw [HG.out, HD.out]; rfl)
        clear HG HD K2 R2 E2 hG2 hM2 HT htk hbc HF HM
        go_wp2_with fail
        refine Calls.mono (R := fun r w' => r = .returned (.agg #[.int .i64 g.D, .int .i64 g.Z, .int .i64 g.S, .int .i64 g.B, .int .i64 g.P, .int .i64 g.O]) ∧ Below W2.heap.size W2 w') (map_geom W2 p bl bv g l' lv' M2.out) ?_
        rintro e w3 ⟨rfl, hb3⟩
        have hgk : Hid (fillGo g (2 * (f.off - 1) + k) (en :: (unPart f.bd).drop (k + 1)) l' = if g.B ≤ 2 * (f.off - 1) + k then (l', 0) else if setCode g l' (2 * (f.off - 1) + k) en = 0 then fillGo g (2 * (f.off - 1) + k + 1) ((unPart f.bd).drop (k + 1)) (setL g l' (2 * (f.off - 1) + k) en) else (l', setCode g l' (2 * (f.off - 1) + k) en)) := Lib.hid rfl
        obtain ⟨b, hb⟩ : ∃ b, Hid (2 * (f.off - 1) + (k : Int) = b) := ⟨_, Lib.hid rfl⟩
        rw [hb.out] at hgk hgo' ⊢
        have hG3 : FgAt w N1 r N0 s p bl bv f (ys.drop 16) w3 := ⟨G2.out.u.trans ((Keeps.of_below (S := [bl, bv]) hb3).mono G2.out.u.size (fun _ h => h)), (Keeps.of_below (S := []) hb3).blk G2.out.y.lt (by simp) G2.out.y, (Keeps.of_below (S := []) hb3).blk G2.out.f.lt (by simp) G2.out.f, G2.out.r.grow hb3⟩
        have G3 := Lib.hid hG3
        have M3 := Lib.hid (M2.out.grow hb3)
        have E3 := (Keeps.of_below (S := []) hb3).blk E2'.out.lt (by simp) E2'.out
        clear y0 y1 y2 y3 hb3 G2 M2
        obtain ⟨⟨y0, y1⟩, y2, y3⟩ := hG3.y.scells
        obtain ⟨⟨e0, e1, e2⟩, e3, e4, e5⟩ := E3.ent
        clear hG3
        have hfb := geo_blocks g w3
        by_cases hbB : g.B ≤ b
        · have hfin : fillGo g (fillB f) (unPart f.bd) l = (l', 0) := by rw [hgo'.out, hgk.out, if_pos hbB]
          have HFin := Lib.hid hfin
          clear hfin
          go_wp2
          go_ret
          exact ⟨by rw [HFin.out]; rfl, ⟨lv', by rw [HFin.out]; exact M3.out, by rw [HFin.out]; exact HO.out⟩, G3.out.u⟩
        · have HbB := Lib.hid hbB
          go_wp2_with fail
          refine (map_set w3 p bl bv g l' lv' M3.out HO.out b en).mono ?_
          rintro e w4 ⟨rfl, hM4, hk4⟩
          have hO4 := Lib.hid (HO.out.setv b en)
          have M4 := Lib.hid hM4
          have nn : N0 ≤ w3.heap.size := by have := G3.out.r.lt; omega
          have hG4 : FgAt w N1 r N0 s p bl bv f (ys.drop 16) w4 := by
            exact ⟨G3.out.u.trans (hk4.mono G3.out.u.size (fun _ h => h)), hk4.blk G3.out.y.lt (by simp; omega) G3.out.y, hk4.blk G3.out.f.lt (by have h1 := HN1.out; simp; omega) G3.out.f, G3.out.r.keeps hk4 (by simp; omega)⟩
          have G4 := Lib.hid hG4
          clear hM4 hk4 hG4 y0 y1 y2 y3 e0 e1 e2 e3 e4 e5
          by_cases hcd : setCode g l' b en = 0
          · have hgk' : Hid (fillGo g (fillB f) (unPart f.bd) l = fillGo g (b + 1) ((unPart f.bd).drop (k + 1)) (setL g l' b en)) := Lib.hid (by rw [hgo'.out, hgk.out, if_neg (Int.not_le.2 HbB.out), if_pos hcd])
            clear hgk hgo'
            rw [hcd]
            go_wp2
            go_roundw
            case rel =>
              refine ⟨k + 1, _, _, by omega, by simp, ?_, M4.out, hO4.out, ?_⟩
              · rw [hgk'.out, ← hb.out]
                congr 1
                unfold fillB
                simp
                omega
              · have : ((f.bd.drop 1).drop (16 * (k + 1))) = ys.drop 16 := by rw [← hys.out, List.drop_drop, List.drop_drop, List.drop_drop]; congr 1
                rw [this]
                exact G4.out
            case measure => simp [intOf]; omega
          · have hfin : fillGo g (fillB f) (unPart f.bd) l = (l', setCode g l' b en) := by rw [hgo'.out, hgk.out, if_neg (Int.not_le.2 HbB.out), if_neg hcd]
            have hsame : setL g l' b en = l' ∧ setV g l' lv' b en = lv' := by unfold setL setV; rw [if_neg hcd, if_neg hcd]; exact ⟨rfl, rfl⟩
            have HFin := Lib.hid hfin
            have HSm := Lib.hid hsame
            clear hfin hgk hgo' hsame
            obtain ⟨cd, hcc⟩ : ∃ cd, Hid (setCode g l' b en = cd) := ⟨_, Lib.hid rfl⟩
            rw [hcc.out] at hcd ⊢
            go_wp2
            go_ret
            refine ⟨by rw [HFin.out, hcc.out]; rfl, ⟨lv', ?_, ?_⟩, G4.out.u⟩
            · have := M4.out
              rw [HSm.out.1, HSm.out.2] at this
              rw [HFin.out]
              exact this
            · rw [HFin.out]
              exact HO.out
    · obtain rfl : k = 2 := by omega
      have hfin : fillGo g (fillB f) (unPart f.bd) l = (l', 0) := by
        rw [HG.out]
        simp [unPart, fillGo]
      have HFin := Lib.hid hfin
      clear hfin
      go_wp2
      go_ret
      exact ⟨by rw [HFin.out]; rfl, ⟨lv', by rw [HFin.out]; exact HM.out, by rw [HFin.out]; exact HO.out⟩, HF.out.u⟩
end Go.Proofs.Ytcgafnmpfdkfoaa
/- The snapshot that frames tell (plain), and frames as they lie. -/
namespace Go.Proofs.Ytcgafnmpfdkfoaa
open Go.RowKit

/-- The parts' play, one frame behind the other. -/
def readGo (g : G) : Nat → List Fr → List E → Option (List E)
  | _, [], l => some l
  | i, f :: fs, l => if f.off = i ∧ (fillGo g (fillB f) (unPart f.bd) l).2 = 0 then readGo g (i + 1) fs (fillGo g (fillB f) (unPart f.bd) l).1 else none
def npG (g : G) : Nat := 1 + (g.B.toNat + 1) / 2
def sn1 (f : Fr) : Sn := ⟨f.sq, f.ep, unNx f.bd⟩
/-- The entries that frames tell. -/
def readL (f : Fr) (fs : List Fr) : Option (List E) :=
  if (unGeo f.bd).right = true ∧ npG (unGeo f.bd) ≤ fs.length then readGo (unGeo f.bd) 1 ((fs.take (npG (unGeo f.bd))).drop 1) (nones (unGeo f.bd)) else none
/-- Are frames those of the snapshot that they tell? -/
def readOk (f : Fr) (fs : List Fr) (l : List E) : Bool :=
  decide ((sn1 f).right l = true ∧ (unGeo f.bd).holds f.zn 0 = true ∧ frames (sn1 f) (unGeo f.bd) l f.zn = fs.take (npG (unGeo f.bd)))
/-- The snapshot that frames tell. -/
def readR : List Fr → Option (Sn × G × List E)
  | [] => none
  | f :: fs => match readL f (f :: fs) with
    | none => none
    | some l => if readOk f (f :: fs) l = true then some (sn1 f, unGeo f.bd, l) else none
theorem npG_parts {g : G} (h : g.right = true) : (npG g : Int) = g.parts ∧ 2 ≤ npG g ∧ npG g ≤ 200 := by
  have hs := G.small_of_right h
  have h0 := hs.B0
  have h1 := hs.B1
  unfold npG G.parts
  omega
theorem npG_len {g : G} {l : List E} {lv : List Int} (h : MapOk g l lv) : nparts l = npG g := by
  have := h.len
  unfold nparts npG
  congr 3
  omega
/-- Frames, as they lie: any. -/
def FrsAt (w : World) (A : Option Addr) (n c : Nat) (fs : List Fr) : Prop :=
  fs.length = n ∧ n ≤ c ∧ c ≤ maxLen ∧ (∀ f ∈ fs, f.Ok ∧ Byt f.bd) ∧ (0 < n → ∃ b off, A = some ⟨b, off, none⟩ ∧ b < w.heap.size ∧ ∀ k f, fs[k]? = some f → w.rangeAt b (off + k * 49) f.arr.toList)
theorem FrsAt.grow {w w1 : World} {A : Option Addr} {n c : Nat} {fs : List Fr} (h : FrsAt w A n c fs) (k : Below w.heap.size w w1) : FrsAt w1 A n c fs := by
  obtain ⟨h1, h2, h3, h4, h5⟩ := h
  refine ⟨h1, h2, h3, h4, fun hn => ?_⟩
  obtain ⟨b, off, e1, e2, e3⟩ := h5 hn
  exact ⟨b, off, e1, Nat.lt_of_lt_of_le e2 k.size, fun i f hf => rangeAt_below (e3 i f hf) e2 k⟩
def ReadPost (w : World) (fs : List Fr) (r : Ending) (w' : World) : Prop :=
  Below w.heap.size w w' ∧ ((readR fs = none ∧ r = .returned (.tuple #[sn0, .int .i64 10])) ∨
    ∃ s g l p bl bv lv, readR fs = some (s, g, l) ∧ r = .returned (.tuple #[s.v p, .int .i64 0]) ∧ MapAt w' p bl bv g l lv ∧ MapOk g l lv ∧ w.heap.size ≤ p ∧ w.heap.size ≤ bl ∧ w.heap.size ≤ bv)
theorem readGo_bad (g : G) (i : Nat) (f : Fr) (fs : List Fr) (l : List E) (h : ¬ (f.off = i ∧ (fillGo g (fillB f) (unPart f.bd) l).2 = 0)) : readGo g i (f :: fs) l = none := by
  rw [readGo, if_neg h]
theorem readGo_good (g : G) (i : Nat) (f : Fr) (fs : List Fr) (l : List E) (h : f.off = i ∧ (fillGo g (fillB f) (unPart f.bd) l).2 = 0) : readGo g i (f :: fs) l = readGo g (i + 1) fs (fillGo g (fillB f) (unPart f.bd) l).1 := by
  rw [readGo, if_pos h]
end Go.Proofs.Ytcgafnmpfdkfoaa
/- snap.Read: any frames. -/
namespace Go.Proofs.Ytcgafnmpfdkfoaa
open Go.RowKit

set_option maxRecDepth 100000 in
theorem read_nil (w : World) (A : Option Addr) (c : Nat) : Calls Try.prog 46 #[.slice A 0 c] w (ReadPost w []) := by
  obtain ⟨V0, hV0⟩ : ∃ V0, w.alloc (.cells #[.int .i64 0, .int .i64 0, .int .i64 0, .pointer none] 53) = V0 := ⟨_, rfl⟩
  have k0 : Blk V0 w.heap.size 53 #[.int .i64 0, .int .i64 0, .int .i64 0, .pointer none] := by rw [← hV0]; exact Blk.newAt rfl
  have b0 : Below w.heap.size w V0 := by rw [← hV0]; exact below_box _ _
  have K0 := Lib.hid k0
  have B0 := Lib.hid b0
  clear b0 k0
  go_enter Try.func46, Try.ntmps46
  go_wp2_with (refine wpList_store_blk rfl 53 (.tmp 2) (.tmp 15) rfl w.heap.size 0 #[.int .i64 0, .int .i64 0, .int .i64 0, .pointer none] rfl rfl K0.out (Nat.le_refl 4) size_snap (by simp [Value.oneCell']) ?_; intro w2 hG2 hK2 hs2)
  have e2 : Blk w2 w.heap.size 53 #[.int .i64 0, .int .i64 0, .int .i64 0, .pointer none] := by have := hG2.out; rwa [over_all rfl] at this
  have r1 : (loadVar 53 ⟨w.heap.size, 0, none⟩).run Try.prog w2 = .ok sn0 w2 := run_loadVar_row _ _ _ _ _ _ _ e2 Try.underlying53 rfl size_snap
  refine bodyPost_ret (v := .tuple #[sn0, .int .i64 10]) ?_ rfl ⟨?_, .inl ⟨rfl, rfl⟩⟩
  · simp [results, Try.results46, asAddr, r1]
  · exact B0.out.trans (Keeps.below (hK2.out.mono B0.out.size (fun _ h => h)) (by simp))
/-- A guarded read of a block that is known whole, where the guard holds. -/
theorem wpList_load_blk_g {P : Program} {ops : Array Oper} {rest : List Oper} {op : Oper} {a : Act} {w : World} {Q : Exit → Act → World → Prop} (ty : TypeId) (x : Operand) (ho : op.op = .load ty x)
    (b o : Nat) (hx : a.eval x = .pointer (some ⟨b, o, none⟩)) {t : TypeId} {cs : Array Value} (hB : Blk w b t cs) (D : Array Value) (hD : (cs.toList.drop o).take D.size = D.toList) (d : TypeDesc)
    (hu : P.underlying ty = some d) (hd : d.isRow = true) (hi : (P.info? ty).map (·.size) = some D.size) (hw : Region.wanted op (yielded ops a.tmps) = true)
    (h : wpList P ops Q rest (a.put op.dst (.agg D)) w) : wpList P ops Q (op :: rest) a w := by
  simp only [wpList, hw, if_true]
  refine .inl (wp_load_mid ty x ho b o hx D.toList d ?_ hu hd (by simpa using hi) (by simpa using h))
  intro j v hv
  rw [hB.cell]
  rw [← hD, List.getElem?_take] at hv
  split at hv
  · rw [List.getElem?_drop] at hv; simpa using hv
  · cases hv
/-- What stands while frames are read. -/
structure RgAt (w : World) (st : Nat) (s : Sn) (p : Nat) (W : World) : Prop where
  u : Below w.heap.size w W
  o : Blk W w.heap.size 53 #[.int .i64 0, .int .i64 0, .int .i64 0, .pointer none]
  y : Blk W st 53 (s.arr p)
theorem RgAt.grow {w : World} {st : Nat} {s : Sn} {p : Nat} {W W' : World} (h : RgAt w st s p W) (k : Below W.heap.size W W') : RgAt w st s p W' :=
  ⟨h.u.trans (k.mono h.u.size), (Keeps.of_below (S := []) k).blk h.o.lt (by simp) h.o, (Keeps.of_below (S := []) k).blk h.y.lt (by simp) h.y⟩
theorem RgAt.keeps {w : World} {st bl bv : Nat} {s : Sn} {p : Nat} {W W' : World} (h : RgAt w st s p W) (k : Keeps W.heap.size [bl, bv] W W') (h1 : w.heap.size < bl ∧ w.heap.size < bv) (h2 : bl < st ∧ bv < st) : RgAt w st s p W' :=
  ⟨h.u.trans (Keeps.below (k.mono h.u.size (fun _ hi => hi)) (by simp; omega)), k.blk h.o.lt (by simp; omega) h.o, k.blk h.y.lt (by simp; omega) h.y⟩
theorem geom_parts_n (g : G) (w : World) (np : Nat) (hn : (np : Int) = g.parts) (h0 : 0 ≤ g.B) (h1 : g.B ≤ 1000000) : Calls Try.prog 43 #[g.v] w fun e w' => e = .returned (.int .i64 np) ∧ Below w.heap.size w w' :=
  (geom_parts g w h0 h1).mono fun e w' ⟨h2, h3⟩ => ⟨by rw [hn]; exact h2, by rw [← h3]; exact below_box _ _⟩

set_option maxRecDepth 100000 in
set_option maxHeartbeats 2000000 in
theorem read_some (w : World) (b off c : Nat) (f0 : Fr) (fs : List Fr) (h : FrsAt w (some ⟨b, off, none⟩) (fs.length + 1) c (f0 :: fs)) : Calls Try.prog 46 #[.slice (some ⟨b, off, none⟩) (fs.length + 1) c] w (ReadPost w (f0 :: fs)) := by
  obtain ⟨n, hn⟩ : ∃ n, fs.length + 1 = n := ⟨_, rfl⟩
  rw [hn] at h ⊢
  obtain ⟨V0, hV0⟩ : ∃ V0, w.alloc (.cells #[.int .i64 0, .int .i64 0, .int .i64 0, .pointer none] 53) = V0 := ⟨_, rfl⟩
  have k0 : Blk V0 w.heap.size 53 #[.int .i64 0, .int .i64 0, .int .i64 0, .pointer none] := by rw [← hV0]; exact Blk.newAt rfl
  have b0 : Below w.heap.size w V0 := by rw [← hV0]; exact below_box _ _
  have HF := Lib.hid (h.grow b0)
  obtain ⟨l1, hnc, hcm, l4, l5⟩ := h
  obtain ⟨b', off', e1, e2, e3⟩ := l5 (by omega)
  obtain ⟨rfl, rfl⟩ : b = b' ∧ off = off' := by simpa using e1
  have hn1 : 1 ≤ n := by omega
  have hcm2 : c ≤ 9223372036854775807 := by unfold maxLen at hcm; omega
  have r0 : V0.rangeAt b off f0.arr.toList := rangeAt_below (by simpa using e3 0 f0 rfl) e2 b0
  have ok0 := l4 f0 (by simp)
  have hi0 : (Try.prog.info? 64).map (·.size) = some f0.arr.toList.length := by rw [Array.length_toList, Fr.size ok0.1]; exact size_frame
  have K0 := Lib.hid k0
  have B0 := Lib.hid b0
  have R0 := Lib.hid r0
  have HI0 := Lib.hid hi0
  have HL5 := Lib.hid e3
  have HL4 := Lib.hid l4
  clear b0 k0 r0 hi0 e3 l4 l5 e1
  go_enter Try.func46, Try.ntmps46
  go_wp2_with (refine wpList_load_mid rfl 64 (.tmp 18) rfl b off rfl f0.arr.toList _ R0.out Try.underlying64 rfl HI0.out ?_)
  clear hV0
  refine (snap_begin V0 f0 ok0.1 ok0.2).mono ?_
  rintro e w1 ⟨hb1, hpost⟩
  cases hr : (unGeo f0.bd).right with
  | false =>
    rw [if_neg (by rw [hr]; simp)] at hpost
    subst hpost
    have hnone : Hid (readR (f0 :: fs) = none) := Lib.hid (by simp [readR, readL, hr])
    have K1 := Lib.hid (((Keeps.of_below (S := []) hb1).blk K0.out.lt (by simp) K0.out).alloc (.cells #[.int .i64 f0.sq, .int .i64 f0.ep, .int .i64 (unNx f0.bd), .pointer none] 53))
    have U1 : Hid (Below w.heap.size w (w1.alloc (.cells #[.int .i64 f0.sq, .int .i64 f0.ep, .int .i64 (unNx f0.bd), .pointer none] 53))) := Lib.hid ((B0.out.trans (hb1.mono B0.out.size)).alloc (by have := B0.out.size; have := hb1.size; omega) _)
    clear hb1
    go_wp2_with (refine wpList_store_blk rfl 53 (.tmp 2) (.tmp 34) rfl w.heap.size 0 #[.int .i64 0, .int .i64 0, .int .i64 0, .pointer none] rfl rfl K1.out (Nat.le_refl 4) size_snap (by simp [Value.oneCell']) ?_; intro w2 hG2 hK2 hs2)
    have e2 : Blk w2 w.heap.size 53 #[.int .i64 0, .int .i64 0, .int .i64 0, .pointer none] := by have := hG2.out; rwa [over_all rfl] at this
    have r1 : (loadVar 53 ⟨w.heap.size, 0, none⟩).run Try.prog w2 = .ok sn0 w2 := run_loadVar_row _ _ _ _ _ _ _ e2 Try.underlying53 rfl size_snap
    refine bodyPost_ret (v := .tuple #[sn0, .int .i64 10]) ?_ rfl ⟨?_, .inl ⟨hnone.out, rfl⟩⟩
    · simp [results, Try.results46, asAddr, r1]
    · exact U1.out.trans (Keeps.below (hK2.out.mono U1.out.size (fun _ h => h)) (by simp))
  | true =>
    rw [if_pos hr] at hpost
    obtain ⟨p, bl, bv, rfl, hM, np, nl, nv⟩ := hpost
    obtain ⟨g, hg⟩ : ∃ g, Hid (unGeo f0.bd = g) := ⟨_, Lib.hid rfl⟩
    obtain ⟨s, hs⟩ : ∃ s, Hid (sn1 f0 = s) := ⟨_, Lib.hid rfl⟩
    have hsv : (Sn.v ⟨f0.sq, f0.ep, unNx f0.bd⟩ p) = s.v p := by rw [← hs.out]; rfl
    rw [hsv]
    rw [hg.out] at hr hM
    obtain ⟨q, hq⟩ : ∃ q, Hid (npG g = q) := ⟨_, Lib.hid rfl⟩
    have hpp := npG_parts hr
    rw [hq.out] at hpp
    obtain ⟨V1, hV1⟩ : ∃ V, w1.alloc (s.box p) = V := ⟨_, rfl⟩
    have b1 : Below w1.heap.size w1 V1 := by rw [← hV1]; exact below_box _ _
    have G1 : Hid (RgAt w w1.heap.size s p V1) := Lib.hid ⟨B0.out.trans ((hb1.trans (b1.mono hb1.size)).mono B0.out.size), (Keeps.of_below (S := []) (hb1.trans (b1.mono hb1.size))).blk K0.out.lt (by simp) K0.out, by rw [← hV1]; exact Blk.newAt rfl⟩
    have M1 := Lib.hid (hM.grow b1)
    have HP := Lib.hid hpp
    have HS := Lib.hid (G.small_of_right hr)
    have NN : Hid ((w.heap.size < bl ∧ w.heap.size < bv ∧ w.heap.size < p) ∧ bl < w1.heap.size ∧ bv < w1.heap.size ∧ p < w1.heap.size) := by
      have h1 := hM.lt
      have h2 := K0.out.lt
      exact Lib.hid ⟨⟨by omega, by omega, by omega⟩, by omega, by omega, by omega⟩
    have HR := Lib.hid hr
    obtain ⟨⟨y0, y1⟩, y2, y3⟩ := G1.out.y.scells
    clear hb1 hM b1 hpp np nl nv hr hsv
    go_wp2_with fail
    clear hV1
    refine (map_geom V1 p bl bv g _ _ M1.out).mono ?_
    rintro e w2 ⟨rfl, hb2⟩
    have G2 := Lib.hid (G1.out.grow hb2)
    have M2 := Lib.hid (M1.out.grow hb2)
    clear hb2 y0 y1 y2 y3
    go_wp2_with fail
    refine (geom_parts_n g w2 q HP.out.1 (by have := HS.out.B0; omega) (by have := HS.out.B1; omega)).mono ?_
    rintro e w3 ⟨rfl, hb3⟩
    have G3 := Lib.hid (G2.out.grow hb3)
    have M3 := Lib.hid (M2.out.grow hb3)
    clear hb3
    by_cases hlen : n < q
    · have hnone : Hid (readR (f0 :: fs) = none) := Lib.hid (by
        have : ¬ ((unGeo f0.bd).right = true ∧ npG (unGeo f0.bd) ≤ (f0 :: fs).length) := by rw [hg.out, hq.out, l1]; omega
        simp only [readR, readL, if_neg this])
      go_wp2_with (refine wpList_store_blk rfl 53 (.tmp 2) (.tmp 34) rfl w.heap.size 0 #[.int .i64 0, .int .i64 0, .int .i64 0, .pointer none] rfl rfl G3.out.o (Nat.le_refl 4) size_snap (by simp [Value.oneCell']) ?_; intro w2 hG2 hK2 hs2)
      have e2 : Blk w2 w.heap.size 53 #[.int .i64 0, .int .i64 0, .int .i64 0, .pointer none] := by have := hG2.out; rwa [over_all rfl] at this
      have r1 : (loadVar 53 ⟨w.heap.size, 0, none⟩).run Try.prog w2 = .ok sn0 w2 := run_loadVar_row _ _ _ _ _ _ _ e2 Try.underlying53 rfl size_snap
      refine bodyPost_ret (v := .tuple #[sn0, .int .i64 10]) ?_ rfl ⟨?_, .inl ⟨hnone.out, rfl⟩⟩
      · simp [results, Try.results46, asAddr, r1]
      · exact G3.out.u.trans (Keeps.below (hK2.out.mono G3.out.u.size (fun _ h => h)) (by simp))
    · have hle : q ≤ n := by omega
      have hq2 : 2 ≤ q := HP.out.2.1
      obtain ⟨⟨y0, y1⟩, y2, y3⟩ := G3.out.y.scells
      go_wp2_with fail
      refine (map_geom w3 p bl bv g _ _ M3.out).mono ?_
      rintro e w4 ⟨rfl, hb4⟩
      have G4 := Lib.hid (G3.out.grow hb4)
      have M4 := Lib.hid (M3.out.grow hb4)
      clear hb4 y0 y1 y2 y3
      go_wp2_with fail
      refine (geom_parts_n g w4 q HP.out.1 (by have := HS.out.B0; omega) (by have := HS.out.B1; omega)).mono ?_
      rintro e w5 ⟨rfl, hb5⟩
      have G5 := Lib.hid (G4.out.grow hb5)
      have M5 := Lib.hid (M4.out.grow hb5)
      clear hb5
      go_wp2_with fail
      obtain ⟨RL, hRL⟩ : ∃ RL, Hid (readGo g 1 (((f0 :: fs).take q).drop 1) (nones g) = RL) := ⟨_, Lib.hid rfl⟩
      have hRR : Hid (RL = none → readR (f0 :: fs) = none) := Lib.hid fun h => by
        have h1 : (unGeo f0.bd).right = true ∧ npG (unGeo f0.bd) ≤ (f0 :: fs).length := by rw [hg.out, hq.out, l1]; exact ⟨HR.out, hle⟩
        have h2 : readL f0 (f0 :: fs) = none := by
          unfold readL
          rw [if_pos h1, hg.out, hq.out, hRL.out]
          exact h
        simp only [readR, h2]
      go_loopw [43] (fun i wr => ∃ (k : Nat) (l' : List E) (lv' : List Int), k ≤ q - 1 ∧ i = .int .i64 k ∧ RL = readGo g (k + 1) (((f0 :: fs).take q).drop (k + 1)) l' ∧ MapAt wr p bl bv g l' lv' ∧ MapOk g l' lv' ∧ RgAt w w1.heap.size s p wr) (fun i _ => q - (intOf i).toNat)
      case atStart => exact ⟨0, nones g, noLive g, Nat.zero_le _, rfl, hRL.out.symm, M5.out, MapOk.new HR.out, G5.out⟩
      case round =>
        obtain ⟨k, l', lv', hk, rfl, hgo, hM, hO, hG⟩ := hrel
        have HGo := Lib.hid hgo
        have HM := Lib.hid hM
        have HO := Lib.hid hO
        have HG := Lib.hid hG
        clear hgo hM hO hG
        by_cases hlt : k < q - 1
        · obtain ⟨fk, hfk⟩ : ∃ fk, (f0 :: fs)[k + 1]? = some fk := ⟨_, List.getElem?_eq_getElem (by omega)⟩
          have okk := HL4.out fk (List.mem_of_getElem? hfk)
          have hszk := Fr.size okk.1
          have rk : wr.rangeAt b (off + 49 + k * 49) fk.arr.toList := by
            have := rangeAt_below (HL5.out (k + 1) fk hfk) e2 HG.out.u
            rwa [show off + (k + 1) * 49 = off + 49 + k * 49 by omega] at this
          have hik : (Try.prog.info? 64).map (·.size) = some fk.arr.toList.length := by rw [Array.length_toList, Fr.size okk.1]; exact size_frame
          have hib : (Try.prog.info? 64).map (·.size) = some fk.arr.size := by rw [Fr.size okk.1]; exact size_frame
          have hst1 : ∀ W : World, (storeCells ⟨W.heap.size, 0, none⟩ fk.arr.toList 0).run Try.prog (W.alloc (.cells Z49 64)) = .ok () (W.alloc (.cells fk.arr 64)) := fun W => run_storeCells_new W 64 Z49 fk.arr hib (by rw [Fr.size okk.1]; rfl) (Fr.one fk)
          have hdr : Hid (((f0 :: fs).take q).drop (k + 1) = fk :: ((f0 :: fs).take q).drop (k + 1 + 1)) := Lib.hid (by
            have h1 : ((f0 :: fs).take q)[k + 1]? = some fk := by rw [List.getElem?_take, if_pos (by omega)]; exact hfk
            obtain ⟨h2, h3⟩ := List.getElem?_eq_some_iff.1 h1
            rw [List.drop_eq_getElem_cons h2, h3])
          obtain ⟨V6, hV6⟩ : ∃ V, wr.alloc (.cells fk.arr 64) = V := ⟨_, rfl⟩
          have b6 : Below wr.heap.size wr V6 := by rw [← hV6]; exact below_box _ _
          have F6 : Blk V6 wr.heap.size 64 fk.arr := by rw [← hV6]; exact Blk.newAt rfl
          have G6 := Lib.hid (HG.out.grow b6)
          have M6 := Lib.hid (HM.out.grow b6)
          have H6 := Lib.hid F6
          have x2 := F6.fcells.2.1.1
          have RK := Lib.hid rk
          have IK := Lib.hid hik
          have IB := Lib.hid hib
          have OK' := Lib.hid okk
          obtain ⟨⟨y0, y1⟩, y2, y3⟩ := G6.out.y.scells
          clear hfk okk rk hik hib b6 F6
          by_cases hoff : fk.off = k + 1
          · have hne : (fk.off != ((k : Int) + 1)) = false := by simp [hoff]
            have ho1 : Hid (1 ≤ fk.off ∧ fk.off ≤ 1000) := Lib.hid (by have := HP.out; omega)
            have Hoff := Lib.hid hoff
            clear hoff
            go_wp2_with (first | (refine wpList_load_mid rfl 64 (.tmp 46) rfl b (off + 49 + k * 49) rfl fk.arr.toList _ RK.out Try.underlying64 rfl IK.out ?_) | (refine wpList_load_blk_g 64 (.tmp 8) rfl wr.heap.size 0 rfl H6.out fk.arr (row_whole fk.arr) _ Try.underlying64 rfl IB.out rfl ?_))
            clear hV6 y0 y1 y2 y3 x2 hst1 hszk hne
            obtain ⟨L', hL'⟩ : ∃ L', Hid ((fillGo g (fillB fk) (unPart fk.bd) l').1 = L') := ⟨_, Lib.hid rfl⟩
            refine (snap_fill V6 p bl bv g l' lv' s M6.out HO.out fk OK'.out.1 OK'.out.2 ho1.out.1 ho1.out.2).mono ?_
            rintro e w7 ⟨rfl, ⟨lv7, hM7, hO7⟩, hK7⟩
            rw [hL'.out] at hM7 hO7
            have G7 := Lib.hid (G6.out.keeps hK7 ⟨NN.out.1.1, NN.out.1.2.1⟩ ⟨NN.out.2.1, NN.out.2.2.1⟩)
            have M7 := Lib.hid hM7
            have O7 := Lib.hid hO7
            clear hM7 hO7 hK7
            by_cases hcd : (fillGo g (fillB fk) (unPart fk.bd) l').2 = 0
            · rw [hcd]
              have hnx : Hid (RL = readGo g (k + 1 + 1) (((f0 :: fs).take q).drop (k + 1 + 1)) L') := Lib.hid (by rw [HGo.out, hdr.out, readGo_good _ _ _ _ _ ⟨by rw [Hoff.out]; simp, hcd⟩, hL'.out])
              clear hcd
              go_wp2
              go_roundw
              case rel => exact ⟨k + 1, L', lv7, by omega, by simp, hnx.out, M7.out, O7.out, G7.out⟩
              case measure => simp [intOf]; omega
            · have hnone : Hid (readR (f0 :: fs) = none) := Lib.hid (hRR.out (by rw [HGo.out, hdr.out]; exact readGo_bad _ _ _ _ _ (fun h => hcd h.2)))
              generalize (fillGo g (fillB fk) (unPart fk.bd) l').2 = cd at hcd
              go_wp2_with (refine wpList_store_blk rfl 53 (.tmp 2) (.tmp 59) rfl w.heap.size 0 #[.int .i64 0, .int .i64 0, .int .i64 0, .pointer none] rfl rfl G7.out.o (Nat.le_refl 4) size_snap (by simp [Value.oneCell']) ?_; intro w2 hG2 hK2 hs2)
              have e2 : Blk w2 w.heap.size 53 #[.int .i64 0, .int .i64 0, .int .i64 0, .pointer none] := by have := hG2.out; rwa [over_all rfl] at this
              have r1 : (loadVar 53 ⟨w.heap.size, 0, none⟩).run Try.prog w2 = .ok sn0 w2 := run_loadVar_row _ _ _ _ _ _ _ e2 Try.underlying53 rfl size_snap
              refine bodyPost_ret (v := .tuple #[sn0, .int .i64 10]) ?_ rfl ⟨?_, .inl ⟨hnone.out, rfl⟩⟩
              · simp [results, Try.results46, asAddr, r1]
              · exact G7.out.u.trans (Keeps.below (hK2.out.mono G7.out.u.size (fun _ h => h)) (by simp))
          · have hne : (fk.off != ((k : Int) + 1)) = true := by simpa using hoff
            have hnone : Hid (readR (f0 :: fs) = none) := Lib.hid (hRR.out (by rw [HGo.out, hdr.out]; exact readGo_bad _ _ _ _ _ (fun h => hoff (by have := h.1; omega))))
            clear hoff
            go_wp2_with (first | (refine wpList_load_mid rfl 64 (.tmp 46) rfl b (off + 49 + k * 49) rfl fk.arr.toList _ RK.out Try.underlying64 rfl IK.out ?_) | (refine wpList_store_blk rfl 53 (.tmp 2) (.tmp 59) rfl w.heap.size 0 #[.int .i64 0, .int .i64 0, .int .i64 0, .pointer none] rfl rfl G6.out.o (Nat.le_refl 4) size_snap (by simp [Value.oneCell']) ?_; intro w2 hG2 hK2 hs2))
            have e2 : Blk w2 w.heap.size 53 #[.int .i64 0, .int .i64 0, .int .i64 0, .pointer none] := by have := hG2.out; rwa [over_all rfl] at this
            have r1 : (loadVar 53 ⟨w.heap.size, 0, none⟩).run Try.prog w2 = .ok sn0 w2 := run_loadVar_row _ _ _ _ _ _ _ e2 Try.underlying53 rfl size_snap
            refine bodyPost_ret (v := .tuple #[sn0, .int .i64 10]) ?_ rfl ⟨?_, .inl ⟨hnone.out, rfl⟩⟩
            · simp [results, Try.results46, asAddr, r1]
            · exact G6.out.u.trans (Keeps.below (hK2.out.mono G6.out.u.size (fun _ h => h)) (by simp))
        · obtain rfl : k = q - 1 := by omega
          have hrl : Hid (readL f0 (f0 :: fs) = some l') := Lib.hid (by
            have h1 : (unGeo f0.bd).right = true ∧ npG (unGeo f0.bd) ≤ (f0 :: fs).length := by rw [hg.out, hq.out, l1]; exact ⟨HR.out, hle⟩
            unfold readL
            rw [if_pos h1, hg.out, hq.out, hRL.out, HGo.out, List.drop_of_length_le (by rw [List.length_take]; omega)]
            rfl)
          have hxn : Hid (readOk f0 (f0 :: fs) l' = false → readR (f0 :: fs) = none) := Lib.hid fun h => by
            simp only [readR, hrl.out, h]
            rfl
          obtain ⟨⟨y0, y1⟩, y2, y3⟩ := HG.out.y.scells
          have hzn : wr.cell? ⟨b, off + 1, none⟩ = some (.int .i64 f0.zn) := by
            have := rangeAt_below (HL5.out 0 f0 rfl) e2 HG.out.u 1 (.int .i64 f0.zn) (by unfold Fr.arr; simp)
            simpa using this
          have HT : Hid (∀ w', Below wr.heap.size wr w' → (w'.cell? ⟨w1.heap.size, 0, none⟩ = some (.int .i64 s.gen) ∧ w'.cell? ⟨w1.heap.size, 1, none⟩ = some (.int .i64 s.ep) ∧ w'.cell? ⟨w1.heap.size, 2, none⟩ = some (.int .i64 s.nx) ∧ w'.cell? ⟨w1.heap.size, 3, none⟩ = some (.pointer (some ⟨p, 0, none⟩))) ∧ w'.cell? ⟨b, off + 1, none⟩ = some (.int .i64 f0.zn)) :=
            Lib.hid fun w' hb => by
              have h1 := (HG.out.grow hb).y.scells
              exact ⟨⟨h1.1.1, h1.1.2, h1.2.1, h1.2.2⟩, (hb.cell (p := ⟨b, off + 1, none⟩) (Nat.lt_of_lt_of_le e2 HG.out.u.size)).trans hzn⟩
          have hbl : b < wr.heap.size := Nat.lt_of_lt_of_le e2 HG.out.u.size
          have hyl := HG.out.y.lt
          have hz1000 := HO.out.len1000
          by_cases hbad : s.right l' = false ∨ g.holds f0.zn 0 = false
          · have hnone : Hid (readR (f0 :: fs) = none) := Lib.hid (hxn.out (by
              unfold readOk
              rw [decide_eq_false_iff_not, hg.out, hs.out]
              rintro ⟨h1, h2, _⟩
              rcases hbad with h | h
              · rw [h] at h1; cases h1
              · rw [h] at h2; cases h2))
            have hfr := Lib.hid (fun W (hb : Below wr.heap.size wr W) => frames_err W p bl bv g l' lv' s (HM.out.grow hb) hz1000 f0.zn hbad)
            clear hbad
            have hfrom := @From.cell wr
            go_wp2_with fail
            refine region_from (by kernel_rfl) (by kernel_rfl) ?_
            repeat (go_big_quiet_step ((go_at_call 39; exact from_call (hfr.out _ (From.below _)))))
            refine wpQuiet_nil ?_
            intro W hW
            have G8 := Lib.hid (HG.out.grow hW)
            clear hW hfrom y0 y1 y2 y3 hzn
            go_wp2_with (refine wpList_store_blk rfl 53 (.tmp 2) (.tmp 72) rfl w.heap.size 0 #[.int .i64 0, .int .i64 0, .int .i64 0, .pointer none] rfl rfl G8.out.o (Nat.le_refl 4) size_snap (by simp [Value.oneCell']) ?_; intro w2 hG2 hK2 hs2)
            have e2 : Blk w2 w.heap.size 53 #[.int .i64 0, .int .i64 0, .int .i64 0, .pointer none] := by have := hG2.out; rwa [over_all rfl] at this
            have r1 : (loadVar 53 ⟨w.heap.size, 0, none⟩).run Try.prog w2 = .ok sn0 w2 := run_loadVar_row _ _ _ _ _ _ _ e2 Try.underlying53 rfl size_snap
            refine bodyPost_ret (v := .tuple #[sn0, .int .i64 10]) ?_ rfl ⟨?_, .inl ⟨hnone.out, rfl⟩⟩
            · simp [results, Try.results46, asAddr, r1]
            · exact G8.out.u.trans (Keeps.below (hK2.out.mono G8.out.u.size (fun _ h => h)) (by simp))
          · have hsr : s.right l' = true := by cases h : s.right l' with | true => rfl | false => exact absurd (.inl h) hbad
            have hho : g.holds f0.zn 0 = true := by cases h : g.holds f0.zn 0 with | true => rfl | false => exact absurd (.inr h) hbad
            have hfr := Lib.hid (fun W (hb : Below wr.heap.size wr W) => frames_yes W p bl bv g l' lv' s (HM.out.grow hb) (HO.out.sn hsr) f0.zn hho)
            have HSR := Lib.hid (And.intro hsr hho)
            clear hbad hsr hho
            have h0n : (0 : Int) < (n : Int) := by omega
            have h0N : 0 < n := by omega
            have h0NN : ¬ (n = 0) := by omega
            have h00 : (0 : Int) ≤ 0 := by omega
            go_wp2_with fail
            go_region_held3 (fun w' => (w'.cell? ⟨w1.heap.size, 0, none⟩ = some (.int .i64 s.gen) ∧ w'.cell? ⟨w1.heap.size, 1, none⟩ = some (.int .i64 s.ep) ∧ w'.cell? ⟨w1.heap.size, 2, none⟩ = some (.int .i64 s.nx) ∧ w'.cell? ⟨w1.heap.size, 3, none⟩ = some (.pointer (some ⟨p, 0, none⟩))) ∧ w'.cell? ⟨b, off + 1, none⟩ = some (.int .i64 f0.zn)) (first | (go_keep; done) | exact HT.out _ hb8 | (trace_state; fail))
              ((go_at_call 39; refine (hfr.out _ (below_drew (Below.refl _ _))).mono ?_; rintro e w8 ⟨b1, c1, rfl, _, hL1, hb8'⟩; have hb8 : Below wr.heap.size wr w8 := (below_drew (Below.refl _ _)).trans hb8'))
            have G8 := Lib.hid (HG.out.grow hb8)
            have M8 := Lib.hid (HM.out.grow hb8)
            have L8 := Lib.hid hL1
            obtain ⟨fx, hfx⟩ : ∃ fx, Hid (frames s g l' f0.zn = fx) := ⟨_, Lib.hid rfl⟩
            have okX : Hid (∀ f ∈ fx, f.Ok) := Lib.hid (by rw [← hfx.out]; exact frames_ok s g l' f0.zn)
            have hlx : Hid (fx.length = q) := Lib.hid (by rw [← hfx.out, frames_length, npG_len HO.out, hq.out])
            rw [hfx.out] at L8 ⊢
            have hx1000 : fx.length ≤ 1000 := by have := HP.out; have := hlx.out; omega
            clear hb8 hb8' hL1 hfr HT y0 y1 y2 y3 hzn h0n h00
            go_wp2
            go_loopw [75] (fun i wr => ∃ k : Nat, k ≤ fx.length ∧ i = .int .i64 k ∧ fx.take k = (f0 :: fs).take k ∧ Below w8.heap.size w8 wr) (fun i _ => fx.length - (intOf i).toNat)
            case atStart => exact ⟨0, Nat.zero_le _, rfl, rfl, Below.refl _ _⟩
            case round =>
              obtain ⟨k, hk, rfl, ht, hB⟩ := hrel
              by_cases hlt2 : k < fx.length
              · obtain ⟨f, hf⟩ : ∃ f, fx[k]? = some f := ⟨_, List.getElem?_eq_getElem hlt2⟩
                have hkn : k < n := by have := hlx.out; omega
                obtain ⟨h, hh⟩ : ∃ h, (f0 :: fs)[k]? = some h := ⟨_, List.getElem?_eq_getElem (by omega)⟩
                have o5 := (own_grow L8.out hB).1
                have rX := rangeAt_row o5 okX.out hf
                have ltX := FrL.lt o5
                have fok := okX.out f (List.mem_of_getElem? hf)
                have hok := (HL4.out h (List.mem_of_getElem? hh)).1
                have hszX := Fr.size fok
                have hszY := Fr.size hok
                have heq := fun W => frame_eq f h fok hok W
                have hfx1 : fx.take (k + 1) = fx.take k ++ [f] := by rw [List.take_add_one, hf]; rfl
                have hfy1 : (f0 :: fs).take (k + 1) = (f0 :: fs).take k ++ [h] := by rw [List.take_add_one, hh]; rfl
                have hiX : (Try.prog.info? 64).map (·.size) = some f.arr.size := by rw [hszX]; exact size_frame
                have hiX' : (Try.prog.info? 64).map (·.size) = some f.arr.toList.length := by rw [Array.length_toList, hszX]; exact size_frame
                have hiY : (Try.prog.info? 64).map (·.size) = some h.arr.size := by rw [hszY]; exact size_frame
                have hst1 : ∀ W : World, (storeCells ⟨W.heap.size, 0, none⟩ f.arr.toList 0).run Try.prog (W.alloc (.cells Z49 64)) = .ok () (W.alloc (.cells f.arr 64)) := fun W => run_storeCells_new W 64 Z49 f.arr hiX (by rw [hszX]; rfl) (Fr.one f)
                obtain ⟨V9, hV9⟩ : ∃ V, wr.alloc (.cells f.arr 64) = V := ⟨_, rfl⟩
                have b9 : Below wr.heap.size wr V9 := by rw [← hV9]; exact below_box _ _
                have F9 : Blk V9 wr.heap.size 64 f.arr := by rw [← hV9]; exact Blk.newAt rfl
                have rY : V9.rangeAt b (off + k * 49) h.arr.toList := rangeAt_below (HL5.out k h hh) e2 (((G8.out.grow hB).grow b9).u)
                have bY : b < V9.heap.size := Nat.lt_of_lt_of_le e2 (((G8.out.grow hB).grow b9).u.size)
                have hl1 : ∀ W, (∃ x : From V9, W = x.val) → W.rangeAt wr.heap.size 0 f.arr.toList := by
                  rintro _ ⟨x, rfl⟩ j v hv
                  rw [Nat.zero_add, x.cell wr.heap.size _ F9.lt, F9.cell]
                  simpa using hv
                have hl2 : ∀ W, (∃ x : From V9, W = x.val) → W.rangeAt b (off + k * 49) h.arr.toList := by
                  rintro _ ⟨x, rfl⟩; exact rangeAt_below rY bY x.below
                have q9 := F9.lt
                have HF := Lib.hid hf
                have HH := Lib.hid hh
                generalize f.arr = X at *
                generalize h.arr = Y at *
                have HL1 := Lib.hid hl1
                have HL2 := Lib.hid hl2
                have HIX := Lib.hid hiX
                have HIX' := Lib.hid hiX'
                have HIY := Lib.hid hiY
                have HT := Lib.hid ht
                have HFX := Lib.hid hfx1
                have HFY := Lib.hid hfy1
                have HB := Lib.hid hB
                have B9 := Lib.hid b9
                have RX := Lib.hid rX
                clear hl1 hl2 hiX hiX' hiY ht hfx1 hfy1 o5 rX rY fok hok hf hh hB b9 F9
                have hfrom := @From.cell V9
                cases hfh : decide (f = h) with
                | true =>
                  have heq' : ∀ W, (Op.equalIn 10000 64 (.agg X) (.agg Y)).run Try.prog W = .ok true W := fun W => by rw [heq W, hfh]
                  have HFH := Lib.hid (of_decide_eq_true hfh)
                  clear heq hfh
                  go_wp2_with (refine wpList_load_mid rfl 64 (.tmp 78) rfl b1 (k * 49) rfl X.toList _ RX.out Try.underlying64 rfl HIX'.out ?_)
                  clear hV9 hst1
                  refine region_from (by kernel_rfl) (by kernel_rfl) ?_
                  repeat (first
                    | (go_big_quiet_want; refine quiet_load 64 (.tmp 11) rfl wr.heap.size 0 rfl X HL1.out _ Try.underlying64 rfl HIX.out ?_; go_simp; go_big_quiet_on)
                    | (go_big_quiet_want; refine quiet_load 64 (.tmp 83) rfl b (off + k * 49) rfl Y HL2.out _ Try.underlying64 rfl HIY.out ?_; go_simp; go_big_quiet_on)
                    | (go_big_quiet_step (fail)))
                  refine wpQuiet_nil ?_
                  intro W hW
                  have HW : Hid (Below w8.heap.size w8 W) := Lib.hid ((HB.out.trans (B9.out.mono HB.out.size)).trans (hW.mono (by have := HB.out.size; have := B9.out.size; omega)))
                  clear hW hfrom heq'
                  go_wp2
                  go_roundw
                  case rel => exact ⟨k + 1, by omega, by simp, by rw [HFX.out, HFY.out, HT.out, HFH.out], HW.out⟩
                  case measure => simp [intOf]; omega
                | false =>
                  have heq' : ∀ W, (Op.equalIn 10000 64 (.agg X) (.agg Y)).run Try.prog W = .ok false W := fun W => by rw [heq W, hfh]
                  have hnone : Hid (readR (f0 :: fs) = none) := Lib.hid (hxn.out (by
                    unfold readOk
                    rw [decide_eq_false_iff_not, hg.out, hs.out, hq.out, hfx.out]
                    rintro ⟨_, _, h3⟩
                    have h4 : fx[k]? = ((f0 :: fs).take q)[k]? := congrArg (·[k]?) h3
                    rw [HF.out, List.getElem?_take, if_pos (by have := hlx.out; omega), HH.out] at h4
                    injection h4 with h4
                    exact of_decide_eq_false hfh h4))
                  clear heq hfh
                  go_wp2_with (refine wpList_load_mid rfl 64 (.tmp 78) rfl b1 (k * 49) rfl X.toList _ RX.out Try.underlying64 rfl HIX'.out ?_)
                  clear hV9 hst1
                  refine region_from (by kernel_rfl) (by kernel_rfl) ?_
                  repeat (first
                    | (go_big_quiet_want; refine quiet_load 64 (.tmp 11) rfl wr.heap.size 0 rfl X HL1.out _ Try.underlying64 rfl HIX.out ?_; go_simp; go_big_quiet_on)
                    | (go_big_quiet_want; refine quiet_load 64 (.tmp 83) rfl b (off + k * 49) rfl Y HL2.out _ Try.underlying64 rfl HIY.out ?_; go_simp; go_big_quiet_on)
                    | (go_big_quiet_step (fail)))
                  refine wpQuiet_nil ?_
                  intro W hW
                  have HW : Hid (Below w8.heap.size w8 W) := Lib.hid ((HB.out.trans (B9.out.mono HB.out.size)).trans (hW.mono (by have := HB.out.size; have := B9.out.size; omega)))
                  clear hW hfrom heq'
                  have G10 := Lib.hid (G8.out.grow HW.out)
                  go_wp2_with (refine wpList_store_blk rfl 53 (.tmp 2) (.tmp 86) rfl w.heap.size 0 #[.int .i64 0, .int .i64 0, .int .i64 0, .pointer none] rfl rfl G10.out.o (Nat.le_refl 4) size_snap (by simp [Value.oneCell']) ?_; intro w2 hG2 hK2 hs2)
                  have e2 : Blk w2 w.heap.size 53 #[.int .i64 0, .int .i64 0, .int .i64 0, .pointer none] := by have := hG2.out; rwa [over_all rfl] at this
                  have r1 : (loadVar 53 ⟨w.heap.size, 0, none⟩).run Try.prog w2 = .ok sn0 w2 := run_loadVar_row _ _ _ _ _ _ _ e2 Try.underlying53 rfl size_snap
                  refine bodyPost_ret (v := .tuple #[sn0, .int .i64 10]) ?_ rfl ⟨?_, .inl ⟨hnone.out, rfl⟩⟩
                  · simp [results, Try.results46, asAddr, r1]
                  · exact G10.out.u.trans (Keeps.below (hK2.out.mono G10.out.u.size (fun _ h => h)) (by simp))
              · obtain rfl : k = fx.length := by omega
                have hok : readOk f0 (f0 :: fs) l' = true := by
                  unfold readOk
                  rw [decide_eq_true_eq, hg.out, hs.out, hq.out, hfx.out]
                  refine ⟨HSR.out.1, HSR.out.2, ?_⟩
                  rw [List.take_of_length_le (Nat.le_refl _), hlx.out] at ht
                  exact ht
                have hsome : Hid (readR (f0 :: fs) = some (s, g, l')) := Lib.hid (by simp only [readR, hrl.out, hok, if_true, hs.out, hg.out])
                have G10 := Lib.hid (G8.out.grow hB)
                have M10 := Lib.hid (M8.out.grow hB)
                obtain ⟨⟨y0, y1⟩, y2, y3⟩ := G10.out.y.scells
                clear hok ht hB
                go_wp2_with (refine wpList_store_blk rfl 53 (.tmp 2) (.tmp 88) rfl w.heap.size 0 (s.arr p) rfl rfl G10.out.o (Nat.le_refl 4) size_snap (by simp [Value.oneCell']) ?_; intro w2 hG2 hK2 hs2)
                have e2' : Blk w2 w.heap.size 53 (s.arr p) := by have := hG2.out; rwa [over_all (cs := #[.int .i64 0, .int .i64 0, .int .i64 0, .pointer none]) (D := s.arr p) rfl] at this
                have r1 : (loadVar 53 ⟨w.heap.size, 0, none⟩).run Try.prog w2 = .ok (s.v p) w2 := run_loadVar_row _ _ _ _ _ _ _ e2' Try.underlying53 rfl size_snap
                have mlt := M10.out.lt
                have nn := NN.out
                refine bodyPost_ret (v := .tuple #[s.v p, .int .i64 0]) ?_ rfl ⟨?_, .inr ⟨s, g, l', p, bl, bv, lv', hsome.out, rfl, M10.out.keeps hK2.out (by simp; omega) (by simp; omega) (by simp; omega), HO.out, by omega, by omega, by omega⟩⟩
                · simp [results, Try.results46, asAddr, r1]
                · exact G10.out.u.trans (Keeps.below (hK2.out.mono G10.out.u.size (fun _ h => h)) (by simp))
theorem snap_read (w : World) (A : Option Addr) (n c : Nat) (fs : List Fr) (h : FrsAt w A n c fs) : Calls Try.prog 46 #[.slice A n c] w (ReadPost w fs) := by
  obtain ⟨h1, h2⟩ := h
  subst h1
  cases fs with
  | nil => exact read_nil w A c
  | cons f fs =>
    obtain ⟨b, off, rfl, _⟩ := h2.2.2.2 (by simp)
    exact read_some w b off c f fs ⟨rfl, h2⟩
end Go.Proofs.Ytcgafnmpfdkfoaa
/- Layer 3: a sector's frame, where the sum is right. -/
namespace Go.Proofs.Ytcgafnmpfdkfoaa
open Go.RowKit
set_option maxRecDepth 100000 in
set_option maxHeartbeats 1000000 in
theorem decode_yes (w : World) (xs : List Int) (hl : xs.length = 64) (hy : Byt xs) (hs : sealedB xs) :
    Calls Try.prog 99 #[.agg tabV, .agg (bys xs).toArray] w (DecPost w xs) := by
  obtain ⟨T, hT⟩ : ∃ T : Array Value, Hid (tabV = T) := ⟨_, Lib.hid rfl⟩
  have hTs : T.size = 256 := by rw [← hT.out]; exact tabV_size
  obtain ⟨D, hD⟩ : ∃ D : Array Value, Hid ((bys xs).toArray = D) := ⟨_, Lib.hid rfl⟩
  rw [hD.out, hT.out]
  have hDs : D.size = 64 := by rw [← hD.out, List.size_toArray, bys_length, hl]
  obtain ⟨V, hV⟩ : ∃ V, ((w.alloc (.cells T 83)).alloc (.cells D 89)).alloc (.cells Z49 64) = V := ⟨_, rfl⟩
  have b0 : Below w.heap.size w V := by rw [← hV]; exact ((below_box _ _).alloc (by simp) _).alloc (by simp; omega) _
  have k0 : Blk V w.heap.size 83 T := by rw [← hV]; exact ((Blk.newAt rfl).alloc _).alloc _
  have k1 : Blk V (w.heap.size + 1) 89 D := by rw [← hV]; exact (Blk.newAt (by simp)).alloc _
  have k2 : Blk V (w.heap.size + 2) 64 Z49 := by rw [← hV]; exact Blk.newAt (by simp)
  have HB := Lib.hid b0
  have K2 := Lib.hid k2
  have hba : BysAt V (some ⟨w.heap.size + 1, 0, none⟩) 64 64 xs := by
    refine ⟨hl, Nat.le_refl _, by unfold maxLen; omega, hy, fun _ => ⟨_, 0, rfl, k1.lt, fun k x hx => ?_⟩⟩
    rw [Nat.zero_add, k1.cell, ← hD.out]
    simp [bys, hx]
  have HOPEN : Hid (∀ W, Below V.heap.size V W → Calls Try.prog 132 #[.agg T, .slice (some ⟨w.heap.size + 1, 0, none⟩) 64 64] W fun r w' => ∃ g c, r = .returned (.tuple #[.slice (some ⟨g, 0, none⟩) 60 c, .int .i64 0]) ∧ w'.ownsRow W.heap.size 5 1 (.slice (some ⟨g, 0, none⟩) 60 c) 60 (bys (xs.take 60)) ∧ Below W.heap.size W w') := Lib.hid (fun W k => by rw [← hT.out]; exact crc_open_yes W _ xs (hba.grow k) hs)
  have hu := Try.underlying83
  have hi : (Try.prog.info? 83).map (·.size) = some T.toList.length := by rw [Array.length_toList, hTs]; exact size_table
  have h256 : T.toList.length = 256 := by rw [Array.length_toList, hTs]
  have HR : Hid (∀ W, Below V.heap.size V W → W.rangeAt w.heap.size 0 T.toList) := Lib.hid fun W k j v hv => by
    rw [Nat.zero_add, k.cell (p := ⟨w.heap.size, j, none⟩) k0.lt, k0.cell]
    simpa using hv
  have hr0 := HR.out V (Below.refl _ _)
  clear b0 k0 k1 k2 hba
  go_enter Try.func99, Try.ntmps99
  go_wp2_with fail
  clear hV
  go_region_held3 (fun w' => w'.rangeAt w.heap.size 0 T.toList) (first | (go_keep_ranges; done) | exact HR.out _ hb4 | exact HR.out _ (below_drew (Below.refl _ _)))
    ((go_at_call 132; refine (HOPEN.out _ (below_drew (Below.refl _ _))).mono ?_; rintro e w4 ⟨g4, c4, rfl, hL4, hb4'⟩; have hb4 : Below V.heap.size V w4 := (below_drew (Below.refl _ _)).trans hb4'))
  have K4 := Lib.hid ((Keeps.of_below (S := []) hb4).blk K2.out.lt (by simp) K2.out)
  have B4 := Lib.hid (HB.out.trans (hb4.mono HB.out.size))
  obtain ⟨b, hb⟩ : ∃ b, Hid (xs.take 60 = b) := ⟨_, Lib.hid rfl⟩
  rw [hb.out] at hL4
  have hbl : b.length = 60 := by rw [← hb.out, List.length_take, hl]; rfl
  have hby : Byt b := by rw [← hb.out]; exact hy.take 60
  have HBL := Lib.hid hbl
  have hg4 := (World.ownsRow.lt hL4 _ rfl).2
  have hx4 : ∀ j v, b[j]? = some v → w4.cell? ⟨g4, 0 + j, none⟩ = some (.int .u8 v) := fun j v hv => by
    have hj := (List.getElem?_eq_some_iff.1 hv).1
    rw [Nat.zero_add, hL4.cellAt j (by omega)]
    simp [bys, hv]
  have HNEW := Lib.hid (codec_new_n w4 g4 0 c4 60 b hg4 hx4 hbl (by omega) (by omega))
  have HY := Lib.hid hby
  clear hb4 hb4' hr0 HOPEN hL4 hx4 hg4 hbl hby
  go_wp2_with fail
  refine HNEW.out.mono ?_
  rintro r w5 ⟨p, rfl, hR5, hb5⟩
  have R5 := Lib.hid hR5
  have hp5 := hR5.lt
  have K5 := Lib.hid ((Keeps.of_below (S := []) hb5).blk K4.out.lt (by simp) K4.out)
  have B5 := Lib.hid (B4.out.trans (hb5.mono B4.out.size))
  have HP : Hid (w.heap.size + 2 < p) := Lib.hid (by have := K4.out.lt; omega)
  clear hb5 hR5 HNEW
  go_wp2_with fail
  refine (rd_num w4.heap.size w5 p b 1 R5.out HY.out (by omega) (by omega) (by rw [HBL.out]; omega) (by rw [HBL.out]; omega)).mono ?_
  rintro r w6 ⟨rfl, q6, k6⟩
  obtain ⟨kd, hkd⟩ : ∃ kd, Hid (unle (b.take 1) = kd) := ⟨_, Lib.hid rfl⟩
  rw [hkd.out]
  have R6 := Lib.hid q6
  have K6 := Lib.hid (k6.blk K5.out.lt (by have := HP.out; simp; omega) K5.out)
  have B6 := Lib.hid (B5.out.trans (Keeps.below (k6.mono B5.out.size (fun _ h => h)) (by have := HP.out; simp; omega)))
  obtain ⟨F1, hF1⟩ : ∃ F1 : Array Value, (#[.int .i64 kd, .int .i64 0, .int .i64 0, .int .i64 0, .int .i64 0, .int .u8 0, .int .u8 0, .int .u8 0, .int .u8 0, .int .u8 0, .int .u8 0, .int .u8 0, .int .u8 0, .int .u8 0, .int .u8 0, .int .u8 0, .int .u8 0, .int .u8 0, .int .u8 0, .int .u8 0, .int .u8 0, .int .u8 0, .int .u8 0, .int .u8 0, .int .u8 0, .int .u8 0, .int .u8 0, .int .u8 0, .int .u8 0, .int .u8 0, .int .u8 0, .int .u8 0, .int .u8 0, .int .u8 0, .int .u8 0, .int .u8 0, .int .u8 0, .int .u8 0, .int .u8 0, .int .u8 0, .int .u8 0, .int .u8 0, .int .u8 0, .int .u8 0, .int .u8 0, .int .u8 0, .int .u8 0, .int .u8 0, .int .u8 0] : Array Value) = F1 := ⟨_, rfl⟩
  have hF1s : F1.size = 49 := by rw [← hF1]; rfl
  have HF1 := Lib.hid hF1
  clear k6 q6
  obtain ⟨V6, hV6⟩ : ∃ V, w6.alloc (.cells F1 64) = V := ⟨_, rfl⟩
  obtain ⟨N9, hN9⟩ : ∃ N, w6.heap.size = N := ⟨_, rfl⟩
  have hst1 : (storeCells ⟨N9, 0, none⟩ F1.toList 0).run Try.prog (w6.alloc (.cells Z49 64)) = .ok () (w6.alloc (.cells F1 64)) := by rw [← hN9]; exact run_storeCells_new w6 64 Z49 F1 (by rw [hF1s]; exact size_frame) (by rw [hF1s]; rfl) (by rw [← hF1]; simp [Value.oneCell'])
  have b7 : Below w6.heap.size w6 V6 := by rw [← hV6]; exact below_box _ _
  have F7 : Hid (Blk V6 N9 64 F1) := Lib.hid (by rw [← hV6]; exact Blk.newAt hN9.symm)
  have R7 := Lib.hid (R6.out.grow b7)
  have K7 := Lib.hid ((Keeps.of_below (S := []) b7).blk K6.out.lt (by simp) K6.out)
  have B7 := Lib.hid (B6.out.trans (b7.mono B6.out.size))
  have HNP : Hid (p < N9) := Lib.hid (by rw [← hN9]; exact R6.out.lt.2)
  clear b7
  go_wp2_with fail
  clear hV6 hN9 hst1 hF1 hF1s
  refine (rd_num w4.heap.size V6 p (b.drop 1) 1 R7.out (HY.out.drop' 1) (by omega) (by omega) (by simp [HBL.out]) (by simp [HBL.out])).mono ?_
  rintro r w8 ⟨rfl, q8, k8⟩
  obtain ⟨ver, hver⟩ : ∃ v, Hid (unle ((b.drop 1).take 1) = v) := ⟨_, Lib.hid rfl⟩
  rw [hver.out]
  have R8 := Lib.hid q8
  have K8 := Lib.hid (k8.blk K7.out.lt (by have := HP.out; simp; omega) K7.out)
  have F8 := Lib.hid (k8.blk F7.out.lt (by have := HNP.out; simp; omega) F7.out)
  have B8 := Lib.hid (B7.out.trans (Keeps.below (k8.mono B7.out.size (fun _ h => h)) (by have := HP.out; simp; omega)))
  clear k8 q8
  have e9 : Hid ((((b.drop 1).drop 1)) = b.drop 2) := Lib.hid (by simp)
  rw [e9.out] at R8
  go_wp2_with fail
  refine (rd_num w4.heap.size w8 p (b.drop 2) 2 R8.out (HY.out.drop' 2) (by omega) (by omega) (by simp [HBL.out]) (by simp [HBL.out])).mono ?_
  rintro r w9 ⟨rfl, q8, k8⟩
  obtain ⟨zn, hzn⟩ : ∃ v, Hid (unle ((b.drop 2).take 2) = v) := ⟨_, Lib.hid rfl⟩
  rw [hzn.out]
  have R9 := Lib.hid q8
  have K9 := Lib.hid (k8.blk K8.out.lt (by have := HP.out; simp; omega) K8.out)
  have F9 := Lib.hid (k8.blk F8.out.lt (by have := HNP.out; simp; omega) F8.out)
  have B9 := Lib.hid (B8.out.trans (Keeps.below (k8.mono B8.out.size (fun _ h => h)) (by have := HP.out; simp; omega)))
  clear k8 q8
  have e10 : Hid (((b.drop 2).drop 2) = b.drop 4) := Lib.hid (by simp [List.drop_drop])
  rw [e10.out] at R9
  go_wp2_with fail
  refine (rd_num w4.heap.size w9 p (b.drop 4) 2 R9.out (HY.out.drop' 4) (by omega) (by omega) (by simp [HBL.out]) (by simp [HBL.out])).mono ?_
  rintro r w10 ⟨rfl, q8, k8⟩
  obtain ⟨off, hoff⟩ : ∃ v, Hid (unle ((b.drop 4).take 2) = v) := ⟨_, Lib.hid rfl⟩
  rw [hoff.out]
  have R10 := Lib.hid q8
  have K10 := Lib.hid (k8.blk K9.out.lt (by have := HP.out; simp; omega) K9.out)
  have F10 := Lib.hid (k8.blk F9.out.lt (by have := HNP.out; simp; omega) F9.out)
  have B10 := Lib.hid (B9.out.trans (Keeps.below (k8.mono B9.out.size (fun _ h => h)) (by have := HP.out; simp; omega)))
  clear k8 q8
  have e11 : Hid (((b.drop 4).drop 2) = b.drop 6) := Lib.hid (by simp [List.drop_drop])
  rw [e11.out] at R10
  go_wp2_with fail
  refine (rd_num w4.heap.size w10 p (b.drop 6) 4 R10.out (HY.out.drop' 6) (by omega) (by omega) (by simp [HBL.out]) (by simp [HBL.out])).mono ?_
  rintro r w11 ⟨rfl, q8, k8⟩
  obtain ⟨ep, hep⟩ : ∃ v, Hid (unle ((b.drop 6).take 4) = v) := ⟨_, Lib.hid rfl⟩
  rw [hep.out]
  have R11 := Lib.hid q8
  have K11 := Lib.hid (k8.blk K10.out.lt (by have := HP.out; simp; omega) K10.out)
  have F11 := Lib.hid (k8.blk F10.out.lt (by have := HNP.out; simp; omega) F10.out)
  have B11 := Lib.hid (B10.out.trans (Keeps.below (k8.mono B10.out.size (fun _ h => h)) (by have := HP.out; simp; omega)))
  clear k8 q8
  have e12 : Hid (((b.drop 6).drop 4) = b.drop 10) := Lib.hid (by simp [List.drop_drop])
  rw [e12.out] at R11
  go_wp2_with fail
  refine (rd_num w4.heap.size w11 p (b.drop 10) 6 R11.out (HY.out.drop' 10) (by omega) (by omega) (by simp [HBL.out]) (by simp [HBL.out])).mono ?_
  rintro r w12 ⟨rfl, q8, k8⟩
  obtain ⟨sq, hsq⟩ : ∃ v, Hid (unle ((b.drop 10).take 6) = v) := ⟨_, Lib.hid rfl⟩
  rw [hsq.out]
  have R12 := Lib.hid q8
  have K12 := Lib.hid (k8.blk K11.out.lt (by have := HP.out; simp; omega) K11.out)
  have F12 := Lib.hid (k8.blk F11.out.lt (by have := HNP.out; simp; omega) F11.out)
  have B12 := Lib.hid (B11.out.trans (Keeps.below (k8.mono B11.out.size (fun _ h => h)) (by have := HP.out; simp; omega)))
  clear k8 q8
  have e13 : Hid (((b.drop 10).drop 6) = b.drop 16) := Lib.hid (by simp [List.drop_drop])
  rw [e13.out] at R12
  have f0 := F12.out.frozen 1
  have f1 := F12.out.frozen 2
  have f2 := F12.out.frozen 3
  have f3 := F12.out.frozen 4
  have c0 : w12.cell? ⟨N9, 1, none⟩ = some (.int .i64 0) := by rw [F12.out.cell, ← HF1.out]; rfl
  have c1 : w12.cell? ⟨N9, 2, none⟩ = some (.int .i64 0) := by rw [F12.out.cell, ← HF1.out]; rfl
  have c2 : w12.cell? ⟨N9, 3, none⟩ = some (.int .i64 0) := by rw [F12.out.cell, ← HF1.out]; rfl
  have c3 : w12.cell? ⟨N9, 4, none⟩ = some (.int .i64 0) := by rw [F12.out.cell, ← HF1.out]; rfl
  have fl := F12.out.lt
  obtain ⟨W13, hW13⟩ : ∃ V : World, (((w12.setCell ⟨N9, 1, none⟩ (.int .i64 zn)).setCell ⟨N9, 2, none⟩ (.int .i64 off)).setCell ⟨N9, 3, none⟩ (.int .i64 ep)).setCell ⟨N9, 4, none⟩ (.int .i64 sq) = V := ⟨_, rfl⟩
  have F13 : Hid (Blk W13 N9 64 (Fr5 kd zn off ep sq ++ Z44)) := Lib.hid (by
    rw [← hW13]
    have h := (((F12.out.set_ 1 (.int .i64 zn)).set_ 2 (.int .i64 off)).set_ 3 (.int .i64 ep)).set_ 4 (.int .i64 sq)
    have e : ((((F1.setIfInBounds 1 (.int .i64 zn)).setIfInBounds 2 (.int .i64 off)).setIfInBounds 3 (.int .i64 ep)).setIfInBounds 4 (.int .i64 sq)) = Fr5 kd zn off ep sq ++ Z44 := by
      rw [← HF1.out]; apply Array.ext'; simp
    rw [e] at h
    exact h)
  have k13 : Keeps w12.heap.size [N9] w12 W13 := by rw [← hW13]; exact ((((Keeps.refl _ _ _).setCell _ _ (.inl (by simp))).setCell _ _ (.inl (by simp))).setCell _ _ (.inl (by simp))).setCell _ _ (.inl (by simp))
  have R13 := Lib.hid (R12.out.other k13 F12.out (by decide))
  have K13 := Lib.hid (k13.blk K12.out.lt (by have := HP.out; have := HNP.out; simp; omega) K12.out)
  have B13 := Lib.hid (B12.out.trans (Keeps.below (k13.mono B12.out.size (fun _ h => h)) (by have := HP.out; have := HNP.out; simp; omega)))
  have hbd : (b.drop 16).length = 44 := by simp [HBL.out]
  have HBYTES := Lib.hid (rd_bytes_all w4.heap.size W13.drew p (b.drop 16) 44 (R13.out.grow (below_drew (Below.refl _ _))) (by omega) hbd (by omega))
  have HBD := Lib.hid hbd
  clear k13 hbd
  go_wp2_with fail
  clear hW13
  have hcel0 : W13.cell? ⟨N9, 0, none⟩ = some (.int .i64 kd) := by rw [F13.out.cell]; simp
  obtain ⟨cur, hcur⟩ : ∃ cur : List Value, Hid ((Fr5 kd zn off ep sq ++ Z44).toList = cur) := ⟨_, Lib.hid rfl⟩
  have hcl : cur.length = 49 := by rw [← hcur.out]; simp
  obtain ⟨cs, hcs⟩ : ∃ cs : List Value, Hid (bys (b.drop 16) = cs) := ⟨_, Lib.hid rfl⟩
  have hcsl : cs.length = 44 := by rw [← hcs.out, bys_length, HBD.out]
  have hcs1 : ∀ v ∈ cs, v.oneCell' = true := by rw [← hcs.out]; exact bys_one _
  have F13c : Hid (Blk W13 N9 64 cur.toArray) := Lib.hid (by rw [← hcur.out, Array.toArray_toList]; exact F13.out)
  obtain ⟨f, hf⟩ : ∃ f, Hid (frOf b = f) := ⟨_, Lib.hid rfl⟩
  have hfa : f.arr = Fr5 kd zn off ep sq ++ (bys (b.drop 16)).toArray := by rw [← hf.out, ← hkd.out, ← hzn.out, ← hoff.out, ← hep.out, ← hsq.out]; rfl
  have hspl : Hid ((splice cur 5 cs).toArray = f.arr) := Lib.hid (by
    rw [hfa, ← hcur.out]
    unfold splice
    rw [hcsl, ← hcs.out]
    apply Array.ext'
    simp)
  have hf0 : f.arr[0]? = some (.int .i64 kd) := by rw [hfa]; simp
  have HF0 := Lib.hid hf0
  clear hfa hf0
  go_region_held3 (fun w' => w'.cell? ⟨N9, 0, none⟩ = some (.int .i64 kd)) (first | (go_keep; done) | exact hcel14 | exact hcel15)
    (first
      | (go_at_call 133; refine HBYTES.out.mono ?_; rintro e w14 ⟨gb, ob, rfl, hend, hk14, hgb, hcb⟩; have F14 := Lib.hid (hk14.blk F13c.out.lt (by have := HNP.out; simp; omega) F13c.out); have hcel14 : w14.cell? ⟨N9, 0, none⟩ = some (.int .i64 kd) := (by rw [F14.out.cell, ← hcur.out]; simp); have hcs0 : ∀ j v, cs[j]? = some v → w14.cell? ((⟨gb, ob, none⟩ : Addr).add j) = some v := (by rw [← hcs.out]; intro j v hv; simp only [bys, List.getElem?_map, Option.map_eq_some_iff] at hv; obtain ⟨x, hx, rfl⟩ := hv; rw [add_at]; exact hcb j x hx))
      | (refine step_copy_splice rfl (.tmp 41) (.tmp 43) 106 106 rfl 5 Try.underlying106 size_byte (some ⟨N9, 5, none⟩) (some ⟨gb, ob, none⟩) 44 44 44 44 rfl rfl N9 5 cur 64 F14.out cs (by rw [hcsl]; rfl) (fun _ => ⟨rfl, _, rfl, hcs0⟩) (by rw [hcsl, hcl]; omega) hcs1 N9 w14 (Below.refl _ _) (Nat.le_refl _) ?_; intro w15 hG15 hb15; have F15 : Hid (Blk w15 N9 64 f.arr) := Lib.hid (by rw [← hspl.out]; exact hG15.out); have hcel15 : w15.cell? ⟨N9, 0, none⟩ = some (.int .i64 kd) := (by rw [F15.out.cell]; exact HF0.out)))
  have E14 := Lib.hid hend
  have hbp : Blk w14 p 234 _ := hend.2.choose_spec.choose_spec
  have E15 : Hid (RdEnd w4.heap.size w15 p) := Lib.hid ⟨hend.1, hend.2.choose, hend.2.choose_spec.choose, (Keeps.of_below (S := []) hb15).blk HNP.out (by simp) hbp⟩
  have K14 := Lib.hid (hk14.blk K13.out.lt (by have := HP.out; simp; omega) K13.out)
  have K15 := Lib.hid ((Keeps.of_below (S := []) hb15).blk (by have := HP.out; have := HNP.out; omega) (by simp) K14.out)
  have B14 : Hid (Below w.heap.size w w14) := Lib.hid ((below_drew B13.out).trans (Keeps.below (S := [p]) (hk14.mono B13.out.size (fun _ h => h)) (by have := HP.out; simp; omega)))
  have B15 := Lib.hid (B14.out.trans (hb15.mono (by have := HP.out; have := HNP.out; omega)))
  have hfk : f.Ok := by rw [← hf.out]; unfold Fr.Ok frOf; exact HBD.out
  have hfb : Byt f.bd := by rw [← hf.out]; exact HY.out.drop' 16
  have HFK := Lib.hid hfk
  have HFB := Lib.hid hfb
  have HERR : Hid (¬ (ver = 1 ∧ f.right = true) → ∀ h : Fr, h.right = true → h.Ok → xs ≠ sect h) := Lib.hid (fun hn h hr ho e => hn (by
    have e1 : b = frB h := by rw [← hb.out, e]; unfold sect; exact List.take_left' (frB_length ho)
    obtain ⟨h1, h2⟩ := frOf_frB hr
    rw [← e1] at h1 h2
    exact ⟨hver.out.symm.trans h2, by rw [← hf.out, h1]; exact hr⟩))
  have HGOOD : Hid (ver = 1 → xs = sect f) := Lib.hid (fun hv => by
    have h1 := frB_frOf HBL.out HY.out (hver.out.trans hv)
    rw [hf.out] at h1
    unfold sect
    rw [h1, ← hb.out]
    have h2 := hs
    unfold sealedB at h2
    rw [← h2, List.take_append_drop])
  have hsz : (Try.prog.info? 64).map (·.size) = some f.arr.size := by rw [Fr.size hfk]; exact size_frame
  have HSZ := Lib.hid hsz
  have HRI := Lib.hid (fun W => frame_right f W)
  clear hsz hfk hfb hend hbp hb15 hk14 hcb hgb hG15 hcel14 hcs0 hcel0
  by_cases hv1 : ver = 1
  · subst hv1
    go_wp2_with (refine wpList_load_blk_g 64 (.tmp 9) rfl N9 0 rfl F15.out f.arr (row_whole f.arr) _ Try.underlying64 rfl HSZ.out rfl ?_)
    refine (HRI.out w15).mono ?_
    rintro r w16 ⟨rfl, hb16⟩
    have K16 := Lib.hid ((Keeps.of_below (S := []) hb16).blk K15.out.lt (by simp) K15.out)
    have F16 := Lib.hid ((Keeps.of_below (S := []) hb16).blk F15.out.lt (by simp) F15.out)
    have B16 := Lib.hid (B15.out.trans (hb16.mono B15.out.size))
    have E16 : Hid (RdEnd w4.heap.size w16 p) := Lib.hid ⟨E15.out.1, E15.out.2.choose, E15.out.2.choose_spec.choose, (Keeps.of_below (S := []) hb16).blk (E15.out.2.choose_spec.choose_spec).lt (by simp) E15.out.2.choose_spec.choose_spec⟩
    clear hb16
    obtain ⟨rt, hrt⟩ : ∃ t, f.right = t := ⟨_, rfl⟩
    have HRT := Lib.hid hrt
    rw [hrt]
    clear hrt
    cases rt
    · go_wp2_with (refine wpList_store_blk rfl 64 (.tmp 4) (.tmp 57) rfl (w.heap.size + 2) 0 Z49 rfl rfl K16.out (Nat.le_refl 49) size_frame (by simp [Value.oneCell']) ?_; intro W8 hG8 hK8 hs8)
      have hG := hG8.out
      rw [over_all rfl] at hG
      have r1 : (loadVar 64 ⟨w.heap.size + 2, 0, none⟩).run Try.prog W8 = .ok (.agg Z49) W8 := run_loadVar_row _ _ _ _ _ _ _ hG Try.underlying64 rfl size_frame
      refine bodyPost_ret (v := .tuple #[.agg Z49, .int .i64 10]) ?_ rfl ⟨?_, .inr ⟨10, .inl rfl, HERR.out (fun h => by have := HRT.out; rw [h.2] at this; cases this), rfl⟩⟩
      · simp [results, Try.results99, asAddr, r1]
      · exact B16.out.trans (Keeps.below (hK8.out.mono B16.out.size (fun _ h => h)) (by simp))
    · have hone : f.arr.all (·.oneCell') = true := Fr.one f
      have HONE := Lib.hid hone
      clear hone
      go_wp2_with (first
        | (go_at_call 134; refine (rd_done _ _ _ E16.out).mono ?_; rintro e w' ⟨rfl, rfl⟩)
        | (refine wpList_load_blk rfl 64 (.tmp 9) rfl N9 0 rfl F16.out f.arr (row_whole f.arr) _ Try.underlying64 rfl HSZ.out ?_)
        | (refine wpList_store_blk rfl 64 (.tmp 4) (.tmp 58) rfl (w.heap.size + 2) 0 f.arr rfl rfl K16.out (by rw [Fr.size HFK.out]; exact Nat.le_refl 49) HSZ.out HONE.out ?_; intro W8 hG8 hK8 hs8))
      have hG := hG8.out
      rw [over_all (by rw [Fr.size HFK.out]; rfl)] at hG
      have r1 : (loadVar 64 ⟨w.heap.size + 2, 0, none⟩).run Try.prog W8 = .ok (.agg f.arr) W8 := run_loadVar_row _ _ _ _ _ _ _ hG Try.underlying64 rfl HSZ.out
      refine bodyPost_ret (v := .tuple #[.agg f.arr, .int .i64 0]) ?_ rfl ⟨?_, .inl ⟨f, ⟨HRT.out, HFK.out, HFB.out⟩, HGOOD.out (by first | trivial | rfl), rfl⟩⟩
      · simp [results, Try.results99, asAddr, r1]
      · exact B16.out.trans (Keeps.below (hK8.out.mono B16.out.size (fun _ h => h)) (by simp))
  · go_wp2_with (refine wpList_store_blk rfl 64 (.tmp 4) (.tmp 57) rfl (w.heap.size + 2) 0 Z49 rfl rfl K15.out (Nat.le_refl 49) size_frame (by simp [Value.oneCell']) ?_; intro W8 hG8 hK8 hs8)
    have hG := hG8.out
    rw [over_all rfl] at hG
    have r1 : (loadVar 64 ⟨w.heap.size + 2, 0, none⟩).run Try.prog W8 = .ok (.agg Z49) W8 := run_loadVar_row _ _ _ _ _ _ _ hG Try.underlying64 rfl size_frame
    refine bodyPost_ret (v := .tuple #[.agg Z49, .int .i64 10]) ?_ rfl ⟨?_, .inr ⟨10, .inl rfl, HERR.out (fun h => hv1 h.1), rfl⟩⟩
    · simp [results, Try.results99, asAddr, r1]
    · exact B15.out.trans (Keeps.below (hK8.out.mono B15.out.size (fun _ h => h)) (by simp))
theorem frame_decode (w : World) (xs : List Int) (hl : xs.length = 64) (hy : Byt xs) :
    Calls Try.prog 99 #[.agg tabV, .agg (bys xs).toArray] w (DecPost w xs) := by
  by_cases hs : sealedB xs
  · exact decode_yes w xs hl hy hs
  · exact decode_no w xs hl hy hs
end Go.Proofs.Ytcgafnmpfdkfoaa
