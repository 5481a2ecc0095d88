/- The reader of layer 2 (codec): the numbers that it reads off bytes. -/
import Derived.Test.YtcgafnmpfdkfoaaCodec
namespace Go.Proofs.Ytcgafnmpfdkfoaa
open Go.RowKit

/-- A reader before bytes: its own block, and where the bytes lie. -/
def RdAt (B : Nat) (w : World) (r : Nat) (ys : List Int) : Prop :=
  ∃ bb o c cs, Blk w r 234 #[.slice (some ⟨bb, o, none⟩) ys.length c, .bool false] ∧ (B ≤ r ∧ B ≤ bb) ∧ (ys.length ≤ c ∧ c ≤ maxLen) ∧ Blk w bb 5 cs ∧ ∀ j v, ys[j]? = some v → cs[o + j]? = some (.int .u8 v)
theorem RdAt.keeps {B : Nat} {S : List Nat} {w w1 : World} {r : Nat} {ys : List Int} (h : RdAt B w r ys) (k : Keeps w.heap.size S w w1) (hS : ∀ i ∈ S, i < B) : RdAt B w1 r ys := by
  obtain ⟨bb, o, c, cs, h0, ⟨h1, h2⟩, h5, h4, h6⟩ := h
  have n1 : r ∉ S := fun h => by have := hS r h; omega
  have n2 : bb ∉ S := fun h => by have := hS bb h; omega
  exact ⟨bb, o, c, cs, k.blk h0.lt n1 h0, ⟨h1, h2⟩, h5, k.blk h4.lt n2 h4, h6⟩
/-- Another block may change. -/
theorem RdAt.other {B n : Nat} {w w1 : World} {r : Nat} {ys : List Int} {t : TypeId} {cs : Array Value} (h : RdAt B w r ys) (k : Keeps w.heap.size [n] w w1) (e : Blk w n t cs) (ht : t ≠ 234 ∧ t ≠ 5) : RdAt B w1 r ys := by
  obtain ⟨bb, o, c, cs, h0, h2, h5, h4, h6⟩ := h
  have n1 : n ≠ r := e.ne_ h0 ht.1
  have n2 : n ≠ bb := e.ne_ h4 ht.2
  exact ⟨bb, o, c, cs, k.blk h0.lt (by simp; omega) h0, h2, h5, k.blk h4.lt (by simp; omega) h4, h6⟩
theorem RdAt.grow {B : Nat} {w w1 : World} {r : Nat} {ys : List Int} (h : RdAt B w r ys) (k : Below w.heap.size w w1) : RdAt B w1 r ys := h.keeps (S := []) (Keeps.of_below k) (by simp)
theorem RdAt.lt {B : Nat} {w : World} {r : Nat} {ys : List Int} (h : RdAt B w r ys) : B ≤ r ∧ r < w.heap.size := by
  obtain ⟨bb, o, c, cs, h0, ⟨h1, _⟩, _⟩ := h
  exact ⟨h1, h0.lt⟩
def ReaderPost (w : World) (xs : List Int) (r : Ending) (w' : World) : Prop := ∃ p, r = .returned (.pointer (some ⟨p, 0, none⟩)) ∧ RdAt w.heap.size w' p xs ∧ Below w.heap.size w w'
set_option maxRecDepth 100000 in
theorem codec_new (w : World) (g o c : Nat) (xs : List Int) (hg : g < w.heap.size) (hx0 : ∀ j v, xs[j]? = some v → w.cell? ⟨g, o + j, none⟩ = some (.int .u8 v)) (h1 : 1 ≤ xs.length) (h2 : xs.length ≤ 1000) :
    Calls Try.prog 120 #[.slice (some ⟨g, o, none⟩) xs.length c] w (ReaderPost w xs) := by
  obtain ⟨i0, hi, hz0, hz1, hz2⟩ := info_parts info_byte
  have hx : ∀ j u, (bys xs)[j]? = some u → (w.alloc (.cells #[] 5)).cell? ((⟨g, o, none⟩ : Addr).add j) = some u := by
    intro j u hu
    simp only [bys, List.getElem?_map, Option.map_eq_some_iff] at hu
    obtain ⟨v, hv, rfl⟩ := hu
    have := hx0 j v hv
    rw [show ((⟨g, o, none⟩ : Addr).add j) = ⟨g, o + j, none⟩ by simp [Addr.add], (below_box w _).cell (p := ⟨g, o + j, none⟩) hg]
    exact this
  have hn := own_nil (size := 1) (Blk.new_ w #[] 5) w.heap.size (Nat.le_refl _)
  have one := bys_one xs
  have len := bys_length xs
  clear hx0
  go_enter Try.func120, Try.ntmps120
  go_wp2_with (at_builtin; refine wpList_append_own _ rfl _ _ 106 rfl w.heap.size 5 i0 (.int .u8 0) 1 1 Try.underlying106 hi hz0 hz1 hz2 rfl (by omega) _ 0 [] rfl hn ⟨g, o, none⟩ xs.length c (bys xs) rfl len hx one (by unfold maxLen; omega) (by omega) (by simp) ?_; intro v' w1 hown' hgrow hnil; obtain ⟨hb1, g', c', rfl, hL⟩ := appended_bys h1 hown' hgrow; clear hown' hgrow hnil)
  go_ret
  obtain ⟨cs, e0, e1, e2, e3, e4, e5⟩ := own_is hL
  refine ⟨_, rfl, ⟨g', 0, c', cs, Blk.newAt rfl, ⟨hb1.size, e1⟩, ⟨e2, e3⟩, e0.alloc _, fun j v hv => ?_⟩, hb1.trans ((below_box w1 _).mono hb1.size)⟩
  have hj := (List.getElem?_eq_some_iff.1 hv).1
  have hc := hL.cellAt j (by omega)
  rw [e0.cell] at hc
  rw [Nat.zero_add, hc]
  simp [bys, hv]

/-- Taking the next bytes. -/
def TakePost (B : Nat) (w : World) (r : Nat) (ys : List Int) (k : Nat) (e : Ending) (w' : World) : Prop :=
  ∃ g o, e = .returned (.slice (some ⟨g, o, none⟩) k k) ∧ RdAt B w' r (ys.drop k) ∧ Keeps w.heap.size [r] w w' ∧ (B ≤ g ∧ g < w'.heap.size) ∧ ∀ j v, j < k → ys[j]? = some v → w'.cell? ⟨g, o + j, none⟩ = some (.int .u8 v)
set_option maxRecDepth 100000 in
set_option maxHeartbeats 1000000 in
theorem rd_take (B : Nat) (w : World) (r : Nat) (ys : List Int) (k : Nat) (h : RdAt B w r ys) (h1 : 1 ≤ k) (h2 : k < ys.length) (_ : ys.length ≤ 1000) :
    Calls Try.prog 144 #[.pointer (some ⟨r, 0, none⟩), .int .i64 k] w (TakePost B w r ys k) := by
  obtain ⟨bb, o, c, cs, p0, ⟨p1, p2⟩, ⟨p5, p6⟩, p8, p7⟩ := h
  have p3 : r ≠ bb := p0.ne_ p8 (by decide)
  have q0 : w.cell? ⟨r, 0, none⟩ = some (.slice (some ⟨bb, o, none⟩) ys.length c) := by rw [p0.cell]; rfl
  have q1 : w.cell? ⟨r, 1, none⟩ = some (.bool false) := by rw [p0.cell]; rfl
  have qf : w.frozen? ⟨r, 0, none⟩ = false := p0.frozen 0
  have ql := p0.lt
  have H0 := Lib.hid p0
  have H7 := Lib.hid p7
  have hc : c ≤ 9223372036854775807 := by unfold maxLen at p6; omega
  have H8 := Lib.hid p8
  clear p0 p7 p8
  go_enter Try.func144, Try.ntmps144
  go_wp2
  go_ret
  have hk : Keeps w.heap.size [r] w (w.setCell ⟨r, 0, none⟩ (.slice (some ⟨bb, o + k, none⟩) (ys.length - k) (c - k))) := (Keeps.refl _ _ w).setCell _ _ (.inl (by simp))
  have hB := H0.out.set_ 0 (.slice (some ⟨bb, o + k, none⟩) (ys.length - k) (c - k))
  have hC := hk.blk H8.out.lt (by simp; omega) H8.out
  refine ⟨bb, o, rfl, ⟨bb, o + k, c - k, cs, ?_, ⟨p1, p2⟩, ⟨by simp; omega, by omega⟩, hC, fun j v hv => ?_⟩, hk, ⟨p2, hC.lt⟩, fun j v _ hv => by rw [hC.cell]; exact H7.out j v hv⟩
  · rw [List.length_drop]
    simpa using hB
  · rw [List.getElem?_drop] at hv
    rw [Nat.add_assoc]
    exact H7.out _ _ hv

theorem unle_snoc (xs : List Int) (b : Int) : unle (xs ++ [b]) = unle xs + b * 256 ^ xs.length := by
  induction xs with
  | nil => simp [unle]
  | cons x xs ih =>
    simp only [List.cons_append, unle, ih, List.length_cons, Int.pow_succ]
    rw [Int.mul_add]
    have : 256 * (b * 256 ^ xs.length) = b * (256 ^ xs.length * 256) := by rw [Int.mul_comm, Int.mul_assoc]
    omega
theorem or_join (v b : Int) (j : Nat) (hj : j ≤ 6) (h0 : 0 ≤ v) (h1 : v < 256 ^ j) (b0 : 0 ≤ b) (b1 : b < 256) : bits .or .i64 v (wrap64 (b * 2 ^ (8 * j))) = v + b * 256 ^ j := by
  have hp : (2 : Int) ^ (8 * j) = 256 ^ j := by rw [Int.pow_mul]; rfl
  have hq : (256 : Int) ^ j ≤ 281474976710656 := by
    have : j = 0 ∨ j = 1 ∨ j = 2 ∨ j = 3 ∨ j = 4 ∨ j = 5 ∨ j = 6 := by omega
    rcases this with rfl | rfl | rfl | rfl | rfl | rfl | rfl <;> decide
  have hq0 : (0 : Int) < 256 ^ j := Int.pow_pos (by omega)
  have hx : 0 ≤ b * 256 ^ j ∧ b * 256 ^ j ≤ 255 * 281474976710656 := ⟨Int.mul_nonneg b0 (by omega), Int.mul_le_mul (by omega) hq (by omega) (by omega)⟩
  have hw : wrap64 (b * 2 ^ (8 * j)) = b * 256 ^ j := by rw [hp]; unfold wrap64; omega
  have hc : ∀ x y : Int, bits .or .i64 x y = bits .or .i64 y x := fun x y => by simp only [bits]; rw [BitVec.or_comm]
  rw [hw, hc, bits_join .i64 62 (by decide) (fun n n0 n1 => by rw [IntKind.wrap_i64]; omega) (8 * j) (b * 256 ^ j) v hx.1 (by rw [hp]; exact Int.mul_emod_left _ _) (by omega) h0 (by rw [hp]; exact h1) (by omega)]
  omega
def NumPost (B : Nat) (w : World) (r : Nat) (ys : List Int) (k : Nat) (e : Ending) (w' : World) : Prop :=
  e = .returned (.int .i64 (unle (ys.take k))) ∧ RdAt B w' r (ys.drop k) ∧ Keeps w.heap.size [r] w w'
set_option maxRecDepth 100000 in
set_option maxHeartbeats 1000000 in
theorem rd_num (B : Nat) (w : World) (r : Nat) (ys : List Int) (k : Nat) (h : RdAt B w r ys) (hy : Byt ys) (h1 : 1 ≤ k) (h7 : k ≤ 7) (h2 : k < ys.length) (h3 : ys.length ≤ 1000) :
    Calls Try.prog 121 #[.pointer (some ⟨r, 0, none⟩), .int .i64 k] w (NumPost B w r ys k) := by
  have hw : wi k 1 7 = true := by rw [wi_true]; omega
  have HT := Lib.hid (rd_take B w r ys k h h1 h2 h3)
  go_enter Try.func121, Try.ntmps121
  go_wp2_with (first | (go_at_call 142; refine (codec_within_b _ _ _ hw).mono ?_; rintro r w' ⟨rfl, rfl⟩) | (go_at_call 144; refine HT.out.mono ?_; rintro e w1 ⟨g, o, rfl, hR, hK, ⟨hg0, hg1⟩, hc⟩))
  go_loopw [5, 17] (fun u i wr => ∃ j : Nat, j ≤ k ∧ u = .int .i64 (unle (ys.take j)) ∧ i = .int .i64 j ∧ Below w1.heap.size w1 wr) (fun _ i _ => k - (intOf i).toNat)
  case atStart => exact ⟨0, Nat.zero_le _, by simp [unle], rfl, Below.refl _ _⟩
  case round =>
    obtain ⟨j, hj, rfl, rfl, hB⟩ := hrel
    by_cases hlt : j < k
    · obtain ⟨b, hb⟩ : ∃ b, ys[j]? = some b := ⟨_, List.getElem?_eq_getElem (by omega)⟩
      have hcb : wr.cell? ⟨g, o + j, none⟩ = some (.int .u8 b) := (hB.cell (p := ⟨g, o + j, none⟩) hg1).trans (hc j b hlt hb)
      have hbr := hy b (List.mem_of_getElem? hb)
      obtain ⟨hb0, hb1⟩ := hbr
      have hu : bits .or .i64 (unle (ys.take j)) (wrap64 (b * 2 ^ (8 * j))) = unle (ys.take (j + 1)) := by
        have hr := unle_range (ys.take j) (fun x hx => hy x (List.mem_of_mem_take hx))
        rw [List.length_take, Nat.min_eq_left (by omega)] at hr
        rw [or_join _ _ _ (by omega) hr.1 hr.2 hb0 hb1, List.take_add_one, hb, Option.toList_some, unle_snoc, List.length_take, Nat.min_eq_left (by omega)]
      have HU := Lib.hid hu
      have HB := Lib.hid hB
      clear hu hB hb
      go_wp2
      go_roundw
      case rel => exact ⟨j + 1, by omega, by rw [HU.out], by simp, HB.out⟩
      case measure => simp [intOf]; omega
    · obtain rfl : j = k := by omega
      go_wp2
      go_ret
      exact ⟨rfl, hR.grow hB, hK.trans ((Keeps.of_below hB).mono hK.size (fun _ hi => hi))⟩
end Go.Proofs.Ytcgafnmpfdkfoaa
