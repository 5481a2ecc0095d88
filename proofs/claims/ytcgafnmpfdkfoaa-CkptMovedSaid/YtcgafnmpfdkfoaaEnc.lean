/- Layer 3: a frame's sector: frame.Encode. -/
import Derived.Test.YtcgafnmpfdkfoaaCrc2
import Derived.Test.YtcgafnmpfdkfoaaFrameEq
import Derived.Test.YtcgafnmpfdkfoaaSnap1
namespace Go.Proofs.Ytcgafnmpfdkfoaa
open Go.RowKit

theorem add_at (b o j : Nat) : (⟨b, o, none⟩ : Addr).add j = ⟨b, o + j, none⟩ := by unfold Addr.add; split <;> simp_all
theorem own_pos' {W : World} {base n : Nat} {e : TypeId} {size : Nat} {v : Value} {xs : List Value} (h : W.ownsRow base e size v n xs) (hn : 1 ≤ n) : ∃ g cap, v = .slice (some ⟨g, 0, none⟩) n cap := by
  obtain ⟨m, rfl⟩ : ∃ m, n = m + 1 := ⟨n - 1, by omega⟩
  exact own_succ h
theorem pen_more {B : Nat} {w w1 : World} {p : Nat} {pv v' : Value} {ys zs : List Int} (h0 : Blk w p 208 #[pv, .bool false]) (hB : B ≤ p) (h2 : w.ownsRow B 5 1 pv ys.length (bys ys))
    (hown : w1.ownsRow B 5 1 v' (ys.length + zs.length) (bys ys ++ bys zs)) (hg : w.grownBy w1 pv.ownBlock) :
    (w1.cell? ⟨p, 0, none⟩ = some pv ∧ w1.frozen? ⟨p, 0, none⟩ = false ∧ p < w1.heap.size) ∧ PenAt B (w1.setCell ⟨p, 0, none⟩ v') p (ys ++ zs) ∧ Below B w (w1.setCell ⟨p, 0, none⟩ v') ∧ PK w (w1.setCell ⟨p, 0, none⟩ v') := by
  have hne := own_ne h2 h0 (by decide)
  have a1 : Blk w1 p 208 #[pv, .bool false] := (hg.block p h0.lt (fun e => hne e.symm)).trans h0
  refine ⟨⟨by rw [a1.cell]; rfl, a1.frozen 0, a1.lt⟩, PenAt.put h0 hB hne hg ?_, ?_, ?_⟩
  · rw [List.length_append, bys, List.map_append]
    exact hown
  · refine Below.setCell ?_ hB _
    exact (Below.refl _ _).grown hg (by have := h0.lt; omega) fun j ej => (h2.lt j ej).1
  · exact ((TKeeps.refl _ _).grown h2 (by simp) hg).setCell a1 (by simp) 0 v'
theorem pen_bytes (B : Nat) (w : World) (p : Nat) (xs : List Int) (h : PenAt B w p xs) (hx : xs.length ≤ 1000) (b off n c : Nat) (ys : List Int) (hn : ys.length = n) (h1 : 1 ≤ n) (h1000 : n ≤ 1000)
    (hy : ∀ j v, ys[j]? = some v → w.cell? ⟨b, off + j, none⟩ = some (.int .u8 v)) :
    Calls Try.prog 124 #[.pointer (some ⟨p, 0, none⟩), .slice (some ⟨b, off, none⟩) n c] w fun r w' => r = .returned (.tuple #[]) ∧ PenAt B w' p (xs ++ ys) ∧ Below B w w' ∧ PK w w' := by
  obtain ⟨i0, hi, hz0, hz1, hz2⟩ := info_parts info_byte
  obtain ⟨pv, hp0, hp1, hp2⟩ := h
  have q0 : w.cell? ⟨p, 0, none⟩ = some pv := by rw [hp0.cell]; rfl
  have qf : w.frozen? ⟨p, 0, none⟩ = false := hp0.frozen 0
  have ql := hp0.lt
  have HO := Lib.hid hp2
  have fin : Hid (∀ v' w1, w1.ownsRow B 5 1 v' (xs.length + n) (bys xs ++ bys ys) → w.grownBy w1 pv.ownBlock →
      (w1.cell? ⟨p, 0, none⟩ = some pv ∧ w1.frozen? ⟨p, 0, none⟩ = false ∧ p < w1.heap.size) ∧ PenAt B (w1.setCell ⟨p, 0, none⟩ v') p (xs ++ ys) ∧ Below B w (w1.setCell ⟨p, 0, none⟩ v') ∧ PK w (w1.setCell ⟨p, 0, none⟩ v')) :=
    Lib.hid fun v' w1 h3 h4 => pen_more hp0 hp1 hp2 (by rw [hn]; exact h3) h4
  have X : Hid (∀ j u, (bys ys)[j]? = some u → w.cell? ((⟨b, off, none⟩ : Addr).add j) = some u) := Lib.hid fun j u hu => by
    simp only [bys, List.getElem?_map, Option.map_eq_some_iff] at hu
    obtain ⟨v, hv, rfl⟩ := hu
    rw [add_at]; exact hy j v hv
  clear hp0 hp2
  go_enter Try.func124, Try.ntmps124
  go_wp2_with (at_builtin; refine wpList_append_own _ rfl _ _ 106 rfl B 5 i0 (.int .u8 0) 1 1 Try.underlying106 hi hz0 hz1 hz2 rfl (by omega) pv xs.length (bys xs) rfl HO.out ⟨b, off, none⟩ n c (bys ys) rfl (by rw [bys_length, hn]) X.out (bys_one _) (by unfold maxLen; omega) (by omega) (by omega) ?_; intro v' w1 hown' hgrow hnil; obtain ⟨g', c', rfl⟩ := own_pos' hown' (by omega); obtain ⟨⟨c1, c2, c3⟩, c4, c5, c6⟩ := fin.out _ w1 hown' hgrow; have C4 := Lib.hid c4; have C5 := Lib.hid c5; have C6 := Lib.hid c6; clear hown' hgrow hnil c4 c5 c6)
  go_end0
  exact ⟨rfl, C4.out, C5.out, C6.out⟩
def Sealed (w : World) (xs : List Int) (r : Ending) (w' : World) : Prop :=
  ∃ g c, r = .returned (.slice (some ⟨g, 0, none⟩) (xs.length + 4) c) ∧ w'.ownsRow w.heap.size 5 1 (.slice (some ⟨g, 0, none⟩) (xs.length + 4) c) (xs.length + 4) (bys (xs ++ le 4 (sumN xs))) ∧ Below w.heap.size w w'
set_option maxRecDepth 100000 in
theorem crc_seal (w : World) (b c : Nat) (xs : List Int) (h : BysAt w (some ⟨b, 0, none⟩) xs.length c xs) (h1 : 1 ≤ xs.length) (h1000 : xs.length ≤ 1000) :
    Calls Try.prog 126 #[.agg tabV, .slice (some ⟨b, 0, none⟩) xs.length c] w (Sealed w xs) := by
  obtain ⟨V, hV⟩ : ∃ V, w.alloc (.cells tabV 83) = V := ⟨_, rfl⟩
  have b0 : Below w.heap.size w V := by rw [← hV]; exact below_box _ _
  have k0 : Blk V w.heap.size 83 tabV := by rw [← hV]; exact Blk.newAt rfl
  have hc63 : c ≤ 9223372036854775807 ∧ xs.length ≤ c := by have := h.2.2.1; have := h.2.1; unfold maxLen at *; omega
  have HB := Lib.hid b0
  have K0 := Lib.hid k0
  have H0 := Lib.hid (h.grow b0)
  have hsz : (Try.prog.info? 83).map (·.size) = some tabV.size := by rw [tabV_size]; exact size_table
  have HSZ := Lib.hid hsz
  have hs := sumN_lt h.2.2.2.1
  obtain ⟨i0, hi, hz0, hz1, hz2⟩ := info_parts info_byte
  obtain ⟨hc1, hc2⟩ := hc63
  clear b0 k0 hsz
  go_enter Try.func126, Try.ntmps126
  go_wp2_with (refine wpList_load_blk rfl 83 (.tmp 2) rfl w.heap.size 0 rfl K0.out tabV (row_whole tabV) _ Try.underlying83 rfl HSZ.out ?_)
  clear hV
  refine (crc_sum V (some ⟨b, 0, none⟩) xs.length c xs H0.out h1000).mono ?_
  rintro e w1 ⟨rfl, hb1⟩
  have B1 := Lib.hid (HB.out.trans (hb1.mono HB.out.size))
  have H1 := Lib.hid (H0.out.grow hb1)
  obtain ⟨s, hs'⟩ : ∃ s, sumN xs = s := ⟨_, rfl⟩
  rw [hs'] at hs ⊢
  have HS := Lib.hid hs'
  clear hb1 hs'
  have hn := own_nil (size := 1) (Blk.new_ w1 #[] 5) w1.heap.size (Nat.le_refl _)
  have hx : ∀ (W : World), Below w1.heap.size w1 W → ∀ j u, (bys xs)[j]? = some u → W.cell? ((⟨b, 0, none⟩ : Addr).add j) = some u := by
    intro W hW j u hu
    simp only [bys, List.getElem?_map, Option.map_eq_some_iff] at hu
    obtain ⟨v, hv, rfl⟩ := hu
    obtain ⟨b', off, e1, e2, e3⟩ := H1.out.2.2.2.2 (by omega)
    simp only [Option.some.injEq, Addr.mk.injEq] at e1
    obtain ⟨rfl, rfl, _⟩ := e1
    rw [add_at]
    exact (hW.cell (p := ⟨b, 0 + j, none⟩) e2).trans (e3 j v hv)
  have HX := Lib.hid hx
  clear hx
  go_wp2_with (at_builtin; refine Hid.out ?_)
  refine Lib.hid ?_
  refine wpList_append_own _ rfl _ _ 106 rfl w1.heap.size 5 i0 (.int .u8 0) 1 1 Try.underlying106 hi hz0 hz1 hz2 rfl (by omega) _ 0 [] rfl hn ⟨b, 0, none⟩ xs.length c (bys xs) rfl (bys_length xs) (HX.out _ (below_box _ _)) (bys_one _) (by unfold maxLen; omega) (by omega) (by simp) ?_
  intro v' w2 hown' hgrow hnil
  obtain ⟨hb2, g', c', rfl, hL⟩ := appended_bys h1 hown' hgrow
  have L2 := Lib.hid hL
  have B2 := Lib.hid (B1.out.trans (hb2.mono B1.out.size))
  have BB := Lib.hid hb2
  clear hown' hgrow hnil hb2 hL
  go_wp2_with (at_builtin; refine Hid.out ?_)
  refine Lib.hid ?_
  have hle : bys (le 4 (s : Int)) = [.int .u8 ((s : Int) % 256), .int .u8 ((s : Int) / 256 % 256), .int .u8 ((s : Int) / 65536 % 256), .int .u8 ((s : Int) / 16777216)] := by
    simp only [le, bys, List.map_cons, List.map_nil, List.cons.injEq, Value.int.injEq, and_true, true_and]
    omega
  have hcl : (bys (le 4 (s : Int))).length = 4 * 1 := by rw [bys_length, le_length]
  have X4 : ∀ j u, (bys (le 4 (s : Int)))[j]? = some u → (w2.alloc (.cells #[.int .u8 ((s : Int) % 256), .int .u8 ((s : Int) / 256 % 256), .int .u8 ((s : Int) / 65536 % 256), .int .u8 ((s : Int) / 16777216)] 5)).cell? ((⟨w2.heap.size, 0, none⟩ : Addr).add j) = some u := fun j u hu => by
    rw [Addr.add_nat_zero, cell_of_row _ _ j _ _ (0, 0) (heap_alloc_new w2 _)]
    rw [hle] at hu
    simpa using hu
  refine wpList_append_own _ rfl _ _ 106 rfl w1.heap.size 5 i0 (.int .u8 0) 1 1 Try.underlying106 hi hz0 hz1 hz2 rfl (by omega) (.slice (some ⟨g', 0, none⟩) xs.length c') xs.length (bys xs) rfl (World.ownsRow.alloc L2.out _) ⟨w2.heap.size, 0, none⟩ 4 4 (bys (le 4 (s : Int))) rfl hcl X4 (bys_one _) (by unfold maxLen; omega) (by omega) (by have := BB.out.size; simp; omega) ?_
  intro v' w3 hown' hgrow hnil
  have hb3 : Below w1.heap.size w1 w3 := (BB.out.alloc BB.out.size _).grown hgrow (Nat.le_trans BB.out.size (by simp)) (fun j ej => (World.ownsRow.lt L2.out j ej).1)
  obtain ⟨g3, c3, rfl⟩ := own_pos' hown' (by omega)
  have B3 := Lib.hid (B1.out.trans (hb3.mono B1.out.size))
  have O3 : Hid (w3.ownsRow w.heap.size 5 1 (.slice (some ⟨g3, 0, none⟩) (xs.length + 4) c3) (xs.length + 4) (bys (xs ++ le 4 (s : Int)))) := Lib.hid (by
    rw [bys, List.map_append]
    refine ⟨hown'.1, ?_⟩
    rcases hown'.2 with h' | ⟨g, c, cur, e1, e2, e3⟩
    · exact .inl h'
    · exact .inr ⟨g, c, cur, e1, Nat.le_trans B1.out.size e2, e3⟩)
  clear hown' hgrow hnil hb3 X4 hle
  go_wp2
  go_ret
  exact ⟨g3, c3, rfl, by rw [HS.out]; exact O3.out, B3.out⟩
end Go.Proofs.Ytcgafnmpfdkfoaa
