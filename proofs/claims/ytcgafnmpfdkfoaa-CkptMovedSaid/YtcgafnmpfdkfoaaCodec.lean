/- The pen of layer 2 (codec): what it writes are a number's bytes. -/
import Derived.Test.YtcgafnmpfdkfoaaClone
import Derived.Test.YtcgafnmpfdkfoaaOver1
import Derived.Test.YtcgafnmpfdkfoaaPure12
import Derived.LoopTactic
import Derived.Maps.AppendAt
namespace Go.Proofs.Ytcgafnmpfdkfoaa
open Go.RowKit

theorem codec_within (n : Int) (w : World) : Calls Try.prog 142 #[.int .i64 n] w fun e w' => e = .returned (.bool (wi n 1 7)) ∧ w = w' := by
  by_cases h1 : 1 ≤ n
  · by_cases h2 : n ≤ 7
    · go_enter Try.func142, Try.ntmps142
      go_wp2
      go_ret
      exact ⟨by simp [wi, h1, h2], rfl⟩
    · go_enter Try.func142, Try.ntmps142
      go_wp2
      go_ret
      exact ⟨by simp [wi]; omega, rfl⟩
  · go_enter Try.func142, Try.ntmps142
    go_wp2
    go_ret
    exact ⟨by simp [wi]; omega, rfl⟩

theorem codec_within_b (n : Int) (w : World) (b : Bool) (h : wi n 1 7 = b) : Calls Try.prog 142 #[.int .i64 n] w fun e w' => e = .returned (.bool b) ∧ w = w' := h ▸ codec_within n w
theorem codec_width (v : Int) (w : World) (h0 : 0 ≤ v) (h1 : v < 72057594037927936) : Calls Try.prog 143 #[.int .i64 v] w fun e w' => e = .returned (.int .i64 (wid v)) ∧ w = w' := by
  have H1 := Lib.hid h1
  clear h1
  go_enter Try.func143, Try.ntmps143
  go_wp2
  go_loop [0, 3] (fun x n => ∃ (u : Int) (m : Nat), 0 ≤ u ∧ m ≤ 6 ∧ x = .int .i64 u ∧ n = .int .i64 (7 - m) ∧ u < 256 ^ (m + 1) ∧ 6 - m + widA (m + 1) u = widA 7 v) (fun x _ => (intOf x).toNat)
  case atStart => exact ⟨v, 6, h0, by omega, rfl, rfl, H1.out, by simp⟩
  case round =>
    obtain ⟨u, m, hu, hm, rfl, rfl, hp, hw⟩ := hrel
    by_cases hlt : 256 ≤ u
    · have hlt' : 0 < u / 256 := by omega
      obtain ⟨k, rfl⟩ : ∃ k, m = k + 1 := by
        cases m with
        | zero => simp at hp; omega
        | succ k => exact ⟨k, rfl⟩
      have hp' : u / 256 < 256 ^ (k + 1) := by rw [Int.pow_succ] at hp; omega
      rw [widA_great _ (by omega)] at hw
      have HW := Lib.hid hw
      have HP := Lib.hid hp'
      clear hp hw hp'
      go_wp2
      go_round
      case rel => exact ⟨u / 256, k, by omega, by omega, rfl, by simp; omega, HP.out, by have := HW.out; omega⟩
      case measure => simp [intOf]; omega
    · have hlt' : ¬ 0 < u / 256 := by omega
      rw [widA_small _ (by omega)] at hw
      have HW := Lib.hid hw
      clear hp hw
      go_wp2
      go_ret
      exact ⟨ret_int (by have := HW.out; unfold wid; omega), rfl⟩

/-- Bytes, as they lie. -/
def bys (xs : List Int) : List Value := xs.map fun x => .int .u8 x
theorem bys_length (xs : List Int) : (bys xs).length = xs.length * 1 := by simp [bys]
theorem bys_one (xs : List Int) : ∀ u ∈ bys xs, u.oneCell' = true := by
  intro u hu
  obtain ⟨e, _, rfl⟩ := List.mem_map.1 hu
  rfl
/-- A pen that has written bytes: its own block, and that of the bytes. -/
def PenAt (B : Nat) (w : World) (p : Nat) (xs : List Int) : Prop :=
  ∃ v, Blk w p 208 #[v, .bool false] ∧ B ≤ p ∧ w.ownsRow B 5 1 v xs.length (bys xs)
theorem info_byte : (Try.prog.info? 5).map (fun i => (i.zero, i.size, i.bytes)) = some (some (.int .u8 0), 1, 1) := by kernel_rfl
theorem PenAt.lt {B : Nat} {w : World} {p : Nat} {xs : List Int} (h : PenAt B w p xs) : B ≤ p ∧ p < w.heap.size := by
  obtain ⟨v, h0, h1, _⟩ := h
  exact ⟨h1, h0.lt⟩
theorem own_grow' {w w1 : World} {base n : Nat} {e : TypeId} {size : Nat} {v : Value} {xs : List Value} (h : w.ownsRow base e size v n xs) (hb : Below w.heap.size w w1) : w1.ownsRow base e size v n xs := by
  refine ⟨h.1, ?_⟩
  rcases h.2 with h' | ⟨g, c, cur, h1, h2, h3, h4⟩
  · exact .inl h'
  · exact .inr ⟨g, c, cur, h1, h2, (hb.block g (Blk.lt (t := e) (cs := cur) h3)).trans h3, h4⟩
theorem PenAt.grow {B : Nat} {w w1 : World} {p : Nat} {xs : List Int} (h : PenAt B w p xs) (hb : Below w.heap.size w w1) : PenAt B w1 p xs := by
  obtain ⟨v, h0, h1, h2⟩ := h
  exact ⟨v, (Keeps.of_below (S := []) hb).blk h0.lt (by simp) h0, h1, own_grow' h2 hb⟩
/-- The pen takes what an append has made. -/
theorem PenAt.put {B : Nat} {w w1 : World} {p : Nat} {v v' : Value} {ys : List Int} {row : Option Nat} (h0 : Blk w p 208 #[v, .bool false]) (hB : B ≤ p) (hrow : row ≠ some p) (hg : w.grownBy w1 row) (h2 : w1.ownsRow B 5 1 v' ys.length (bys ys)) :
    PenAt B (w1.setCell ⟨p, 0, none⟩ v') p ys := by
  have h1 : Blk w1 p 208 #[v, .bool false] := (hg.block p h0.lt (fun e => hrow e.symm)).trans h0
  refine ⟨v', by simpa using h1.set_ 0 v', hB, h2.1, ?_⟩
  rcases h2.2 with h' | ⟨g, c, cur, e1, e2, e3, e4⟩
  · exact .inl h'
  · exact .inr ⟨g, c, cur, e1, e2, (Below.heap_setCell w1 ⟨p, 0, none⟩ v' g (Blk.ne_ (t := 5) (t' := 208) e3 h1 (by decide))).trans e3, e4⟩
/-- All blocks but rows of some types lie as they lay. -/
structure TKeeps (T : List TypeId) (w w' : World) : Prop where
  os : w'.os = w.os
  tape : w'.tape = w.tape
  output : w'.output = w.output
  size : w.heap.size ≤ w'.heap.size
  block : ∀ (i : Nat) (o : Obj), w.heap[i]? = some o → (∀ cs t fr, o = Obj.cells cs t fr → t ∉ T) → w'.heap[i]? = some o
theorem TKeeps.refl (T : List TypeId) (w : World) : TKeeps T w w := ⟨rfl, rfl, rfl, Nat.le_refl _, fun _ _ h _ => h⟩
theorem TKeeps.trans {T : List TypeId} {w w1 w2 : World} (h : TKeeps T w w1) (k : TKeeps T w1 w2) : TKeeps T w w2 :=
  ⟨k.os.trans h.os, k.tape.trans h.tape, k.output.trans h.output, Nat.le_trans h.size k.size, fun i o hi hn => k.block i o (h.block i o hi hn) hn⟩
theorem TKeeps.mono {T T' : List TypeId} {w w1 : World} (h : TKeeps T w w1) (hT : ∀ t ∈ T, t ∈ T') : TKeeps T' w w1 :=
  ⟨h.os, h.tape, h.output, h.size, fun i o hi hn => h.block i o hi fun cs t fr e hm => hn cs t fr e (hT t hm)⟩
theorem TKeeps.of_below {T : List TypeId} {w w1 : World} (h : Below w.heap.size w w1) : TKeeps T w w1 :=
  ⟨h.os, h.tape, h.output, h.size, fun i _ hi _ => (h.block i (Array.getElem?_eq_some_iff.1 hi).1).trans hi⟩
theorem TKeeps.blk {T : List TypeId} {w w1 : World} (h : TKeeps T w w1) {b : Nat} {t : TypeId} {cs : Array Value} (k : Blk w b t cs) (ht : t ∉ T) : Blk w1 b t cs :=
  h.block b _ k fun cs' t' fr e => by injection e with _ e; exact e ▸ ht
theorem TKeeps.setCell {T : List TypeId} {w w1 : World} (h : TKeeps T w w1) {b : Nat} {t : TypeId} {cs : Array Value} (k : Blk w1 b t cs) (ht : t ∈ T) (i : Nat) (v : Value) : TKeeps T w (w1.setCell ⟨b, i, none⟩ v) :=
  h.trans ⟨rfl, rfl, rfl, by simp [World.setCell], fun j o hj hn => (Below.heap_setCell w1 ⟨b, i, none⟩ v j (by
    rintro rfl
    rw [k] at hj
    injection hj with hj
    exact hn _ _ _ hj.symm ht)).trans hj⟩
theorem TKeeps.grown {T : List TypeId} {w w1 w2 : World} (h : TKeeps T w w1) {base n size : Nat} {e : TypeId} {v : Value} {xs : List Value} (k : w1.ownsRow base e size v n xs) (ht : e ∈ T) (hg : w1.grownBy w2 v.ownBlock) : TKeeps T w w2 :=
  h.trans ⟨hg.os, hg.tape, hg.output, hg.size, fun j o hj hn => (hg.block j (Array.getElem?_eq_some_iff.1 hj).1 (by
    intro ej
    rcases k.2 with ⟨h', _⟩ | ⟨g', c', cur, h', _, hh, _⟩
    · rw [h'] at ej; simp [Value.ownBlock] at ej
    · rw [h'] at ej
      obtain rfl : j = g' := by simpa [Value.ownBlock] using ej
      rw [hh] at hj
      injection hj with hj
      exact hn _ _ _ hj.symm ht)).trans hj⟩
theorem TKeeps.own {T : List TypeId} {w w1 : World} (h : TKeeps T w w1) {base n size : Nat} {e : TypeId} {v : Value} {xs : List Value} (k : w.ownsRow base e size v n xs) (ht : e ∉ T) : w1.ownsRow base e size v n xs := by
  refine ⟨k.1, ?_⟩
  rcases k.2 with h' | ⟨g', c', cur, h', hb, hh, h3⟩
  · exact .inl h'
  · exact .inr ⟨g', c', cur, h', hb, h.blk hh ht, h3⟩
theorem MapAt.tkeeps {T : List TypeId} {w w1 : World} {p bl bv : Nat} {g : G} {l : List E} {lv : List Int} (h : MapAt w p bl bv g l lv) (k : TKeeps T w w1) (h1 : 148 ∉ T) (h2 : 31 ∉ T) (h3 : 3 ∉ T) : MapAt w1 p bl bv g l lv := by
  obtain ⟨cl, cv, a, b, c⟩ := h
  exact ⟨cl, cv, k.blk a h1, k.own b h2, k.own c h3⟩
/-- What the pen's writing leaves alone. -/
abbrev PK (w w' : World) : Prop := TKeeps [208, 5] w w'
theorem own_ne {w : World} {base : Nat} {e t : TypeId} {size n p : Nat} {v : Value} {xs : List Value} {cs : Array Value} (h : w.ownsRow base e size v n xs) (hp : Blk w p t cs) (hne : e ≠ t) : v.ownBlock ≠ some p := by
  rcases h.2 with ⟨rfl, _⟩ | ⟨g, c, cur, rfl, _, e3, _⟩
  · simp [Value.ownBlock]
  · intro h
    simp [Value.ownBlock] at h
    exact Blk.ne_ (t := e) e3 hp hne h
theorem own_succ {W : World} {base : Nat} {e : TypeId} {size : Nat} {v : Value} {k : Nat} {xs : List Value} (h : W.ownsRow base e size v (k + 1) xs) : ∃ g cap, v = .slice (some ⟨g, 0, none⟩) (k + 1) cap := by
  rcases h.2 with h' | ⟨g, c, _, h', _⟩
  · exact absurd h'.2 (by omega)
  · exact ⟨g, c, h'⟩
/-- One byte more: what the append leaves, and what the store behind it. -/
theorem pen_append {B : Nat} {w wr w1 : World} {p : Nat} {pv v' : Value} {ys zs : List Int} {x : Int} (h0 : Blk wr p 208 #[pv, .bool false]) (hB : B ≤ p) (h2 : wr.ownsRow B 5 1 pv ys.length (bys ys)) (hb : Below B w wr) (hk : PK w wr) (hz : zs = ys ++ [x])
    (hown : w1.ownsRow B 5 1 v' (ys.length + 1) (bys ys ++ [.int .u8 x])) (hg : (wr.alloc (.cells #[.int .u8 x] 5)).grownBy w1 pv.ownBlock) :
    (w1.cell? ⟨p, 0, none⟩ = some pv ∧ w1.frozen? ⟨p, 0, none⟩ = false ∧ p < w1.heap.size) ∧ PenAt B (w1.setCell ⟨p, 0, none⟩ v') p zs ∧ Below B w (w1.setCell ⟨p, 0, none⟩ v') ∧ PK w (w1.setCell ⟨p, 0, none⟩ v') := by
  have hne := own_ne h2 h0 (by decide)
  have a0 : Blk (wr.alloc (.cells #[.int .u8 x] 5)) p 208 #[pv, .bool false] := h0.alloc _
  have a1 : Blk w1 p 208 #[pv, .bool false] := (hg.block p a0.lt (fun e => hne e.symm)).trans a0
  refine ⟨⟨by rw [a1.cell]; rfl, a1.frozen 0, a1.lt⟩, PenAt.put a0 hB hne hg ?_, ?_, ?_⟩
  · subst hz
    rw [List.length_append, List.length_singleton, bys, List.map_append]
    exact hown
  · refine Below.setCell ?_ hB _
    exact (hb.alloc (by have := h0.lt; omega) _).grown hg (by simp; have := h0.lt; omega) fun j ej => (h2.lt j ej).1
  · exact ((hk.trans (TKeeps.of_below (below_box _ _))).grown (World.ownsRow.alloc h2 _) (by simp) hg).setCell a1 (by simp) 0 v'
theorem le_snoc (k : Nat) (v : Int) : le (k + 1) v = le k v ++ [v / 256 ^ k % 256] := by
  induction k generalizing v with
  | zero => simp [le]
  | succ k ih =>
    have h1 : le (k + 1 + 1) v = v % 256 :: le (k + 1) (v / 256) := rfl
    have h2 : le (k + 1) v = v % 256 :: le k (v / 256) := rfl
    rw [h1, ih, h2, List.cons_append]
    congr 3
    have hd := @Int.ediv_ediv v 256 (256 ^ k)
    rw [if_neg (by omega), Int.sub_zero] at hd
    rw [hd, Int.pow_succ, Int.mul_comm]
theorem pow_le_256 (n : Nat) (h : n ≤ 7) : (256 : Int) ^ n ≤ 72057594037927936 := by
  have : n = 0 ∨ n = 1 ∨ n = 2 ∨ n = 3 ∨ n = 4 ∨ n = 5 ∨ n = 6 ∨ n = 7 := by omega
  rcases this with rfl | rfl | rfl | rfl | rfl | rfl | rfl | rfl <;> decide

set_option maxRecDepth 100000 in
set_option maxHeartbeats 1000000 in
theorem pen_num (B : Nat) (w : World) (p : Nat) (xs : List Int) (n : Nat) (v : Int) (h : PenAt B w p xs) (n1 : 1 ≤ n) (n7 : n ≤ 7) (h0 : 0 ≤ v) (h1 : v < 256 ^ n) (hx : xs.length ≤ 1000) :
    Calls Try.prog 117 #[.pointer (some ⟨p, 0, none⟩), .int .i64 n, .int .i64 v] w fun r w' => r = .returned (.tuple #[]) ∧ PenAt B w' p (xs ++ le n v) ∧ Below B w w' ∧ PK w w' := by
  obtain ⟨i0, hi, hz0, hz1, hz2⟩ := info_parts info_byte
  have hw : wi n 1 7 = true := by rw [wi_true]; omega
  have hwd := wid_le n1 h1
  have hv : v < 72057594037927936 := by have := pow_le_256 n n7; omega
  have HP := Lib.hid h
  have H1 := Lib.hid h1
  clear h h1
  go_enter Try.func117, Try.ntmps117
  go_wp2_with (first | (go_at_call 142; refine (codec_within_b _ _ _ hw).mono ?_; rintro r w' ⟨rfl, rfl⟩) | (go_at_call 143; refine (codec_width _ _ h0 hv).mono ?_; rintro r w' ⟨rfl, rfl⟩))
  go_loopw [2, 19] (fun u i wr => ∃ k : Nat, k ≤ n ∧ u = .int .i64 (v / 256 ^ k) ∧ i = .int .i64 k ∧ PenAt B wr p (xs ++ le k v) ∧ Below B w wr ∧ PK w wr) (fun _ i _ => n - (intOf i).toNat)
  case atStart => exact ⟨0, Nat.zero_le _, by simp, rfl, by simpa [le] using HP.out, Below.refl _ _, TKeeps.refl _ _⟩
  case round =>
    obtain ⟨k, hk, rfl, rfl, hN, hB, hPK⟩ := hrel
    by_cases hlt : k < n
    · have hu : 0 ≤ v / 256 ^ k := Int.ediv_nonneg h0 (Int.pow_nonneg (by omega))
      have hu1 : v / 256 ^ k < 72057594037927936 := by have := Int.ediv_le_self (256 ^ k) h0; omega
      have hs := le_snoc k v
      have hd := @Int.ediv_ediv v (256 ^ k) 256
      rw [if_neg (by have : (0 : Int) < 256 ^ k := Int.pow_pos (by omega); omega), Int.sub_zero, ← Int.pow_succ] at hd
      generalize v / 256 ^ k = u at hu hu1 hs hd ⊢
      have HD := Lib.hid hd
      have HB := Lib.hid hB
      have HPK := Lib.hid hPK
      have hlen : (xs ++ le k v).length ≤ 1010 := by rw [List.length_append, le_length]; omega
      have hz : xs ++ le (k + 1) v = (xs ++ le k v) ++ [u % 256] := by rw [hs, List.append_assoc]
      generalize xs ++ le k v = ys at hN hlen hz
      obtain ⟨pv, hp0, hp1, hp2⟩ := hN
      have q0 : wr.cell? ⟨p, 0, none⟩ = some pv := by rw [hp0.cell]; rfl
      have qf : wr.frozen? ⟨p, 0, none⟩ = false := hp0.frozen 0
      have ql := hp0.lt
      have H2 := Lib.hid hp2
      have HZ := Lib.hid hz
      have fin : Hid (∀ v' w1, w1.ownsRow B 5 1 v' (ys.length + 1) (bys ys ++ [.int .u8 (u % 256)]) → (wr.alloc (.cells #[.int .u8 (u % 256)] 5)).grownBy w1 pv.ownBlock →
          (w1.cell? ⟨p, 0, none⟩ = some pv ∧ w1.frozen? ⟨p, 0, none⟩ = false ∧ p < w1.heap.size) ∧ PenAt B (w1.setCell ⟨p, 0, none⟩ v') p (xs ++ le (k + 1) v) ∧ Below B w (w1.setCell ⟨p, 0, none⟩ v') ∧ PK w (w1.setCell ⟨p, 0, none⟩ v')) :=
        Lib.hid fun v' w1 h3 h4 => pen_append hp0 hp1 hp2 HB.out HPK.out HZ.out h3 h4
      clear hs hd hB hp0 hp2 hz hPK
      have hrow : (wr.alloc (.cells #[.int .u8 (u % 256)] 5)).ownsRow B 5 1 pv ys.length (bys ys) := World.ownsRow.alloc H2.out _
      go_wp2_with (at_builtin; refine wpList_append_own _ rfl _ _ 106 rfl B 5 i0 (.int .u8 0) 1 1 Try.underlying106 hi hz0 hz1 hz2 rfl (by omega) _ ys.length (bys ys) rfl hrow ⟨wr.heap.size, 0, none⟩ 1 1 [.int .u8 (u % 256)] rfl rfl (cell_one_new _ _ _) (by simp [Value.oneCell']) (by unfold maxLen; omega) (by omega) (by simp; omega) ?_; intro v' w1 hown' hgrow hnil; obtain ⟨g', c', rfl⟩ := own_succ hown'; obtain ⟨⟨c1, c2, c3⟩, c4, c5, c6⟩ := fin.out _ w1 hown' hgrow; have C4 := Lib.hid c4; have C5 := Lib.hid c5; have C6 := Lib.hid c6; clear hown' hgrow hnil c4 c5 c6)
      go_round
      case rel => exact ⟨k + 1, by omega, by rw [HD.out], by simp, C4.out, C5.out, C6.out⟩
      case measure => simp [intOf]; omega
    · obtain rfl : k = n := by omega
      go_wp2
      go_end0
      exact ⟨rfl, hN, hB, hPK⟩

/-- The bytes that an append has laid behind an empty slice. -/
theorem appended_bys {w w1 : World} {xs : List Int} {v' : Value} (h1 : 1 ≤ xs.length) (hown : w1.ownsRow w.heap.size 5 1 v' (0 + xs.length) ([] ++ bys xs)) (hgrow : (w.alloc (.cells #[] 5)).grownBy w1 (Value.slice (some ⟨w.heap.size, 0, none⟩) 0 0).ownBlock) :
    Below w.heap.size w w1 ∧ ∃ g' c', v' = .slice (some ⟨g', 0, none⟩) xs.length c' ∧ w1.ownsRow w.heap.size 5 1 v' xs.length (bys xs) := by
  refine ⟨(below_box w _).grown hgrow (by simp) (fun k e => by cases e; exact Nat.le_refl _), ?_⟩
  rw [Nat.zero_add, List.nil_append] at hown
  obtain ⟨m, hm⟩ : ∃ m, xs.length = m + 1 := ⟨xs.length - 1, by omega⟩
  have h := hown
  rw [hm] at h
  obtain ⟨g', c', rfl⟩ := own_succ h
  exact ⟨g', c', by rw [hm], hown⟩
def OutPost (w : World) (xs : List Int) (r : Ending) (w' : World) : Prop :=
  ∃ g c, r = .returned (.tuple #[.slice (some ⟨g, 0, none⟩) xs.length c, .int .i64 0]) ∧ w'.ownsRow w.heap.size 5 1 (.slice (some ⟨g, 0, none⟩) xs.length c) xs.length (bys xs) ∧ Below w.heap.size w w'
set_option maxRecDepth 100000 in
theorem pen_out (B : Nat) (w : World) (p : Nat) (xs : List Int) (h : PenAt B w p xs) (h1 : 1 ≤ xs.length) (h2 : xs.length ≤ 1000) :
    Calls Try.prog 125 #[.pointer (some ⟨p, 0, none⟩)] w (OutPost w xs) := by
  obtain ⟨i0, hi, hz0, hz1, hz2⟩ := info_parts info_byte
  obtain ⟨pv, hp0, hp1, hp2⟩ := h
  obtain ⟨m, hm⟩ : ∃ m, xs.length = m + 1 := ⟨xs.length - 1, by omega⟩
  have hp2' := hp2
  rw [hm] at hp2'
  obtain ⟨g, c, rfl⟩ := own_succ hp2'
  rw [← hm] at hp0 hp2
  clear hp2' hm
  have q0 : w.cell? ⟨p, 0, none⟩ = some (.slice (some ⟨g, 0, none⟩) xs.length c) := by rw [hp0.cell]; rfl
  have q1 : w.cell? ⟨p, 1, none⟩ = some (.bool false) := by rw [hp0.cell]; rfl
  have ql := hp0.lt
  have hx : ∀ j u, (bys xs)[j]? = some u → (w.alloc (.cells #[] 5)).cell? ((⟨g, 0, none⟩ : Addr).add j) = some u := by
    intro j u hu
    have hj := (List.getElem?_eq_some_iff.1 hu).1
    rw [bys_length] at hj
    rw [Addr.add_nat_zero, (below_box w _).cell (p := ⟨g, j, none⟩) (hp2.lt _ rfl).2, hp2.cellAt j (by omega)]
    exact hu
  have hn := own_nil (size := 1) (Blk.new_ w #[] 5) w.heap.size (Nat.le_refl _)
  have one := bys_one xs
  have len := bys_length xs
  clear hp0 hp2
  go_enter Try.func125, Try.ntmps125
  go_wp2_with (at_builtin; refine wpList_append_own _ rfl _ _ 106 rfl w.heap.size 5 i0 (.int .u8 0) 1 1 Try.underlying106 hi hz0 hz1 hz2 rfl (by omega) _ 0 [] rfl hn ⟨g, 0, none⟩ xs.length c (bys xs) rfl len hx one (by unfold maxLen; omega) (by omega) (by simp) ?_; intro v' w1 hown' hgrow hnil; obtain ⟨hb1, g', c', rfl, hL⟩ := appended_bys h1 hown' hgrow; clear hown' hgrow hnil)
  go_ret2
  exact ⟨g', c', rfl, hL, hb1⟩
end Go.Proofs.Ytcgafnmpfdkfoaa
