/- slices.Clone of a map's entries and counts. -/
import Derived.Test.YtcgafnmpfdkfoaaMap4
import Derived.OwnWalk
import Derived.Laws.Cover3
namespace Go.Proofs.Ytcgafnmpfdkfoaa
open Go.RowKit

theorem Blk.new_ (w : World) (cs : Array Value) (t : TypeId) : Blk (w.alloc (.cells cs t)) w.heap.size t cs := heap_alloc_new w _
theorem Addr.add_nat_zero (b j : Nat) : (⟨b, 0, none⟩ : Addr).add j = ⟨b, j, none⟩ := by
  unfold Addr.add
  split
  · subst j; rfl
  · simp
theorem eql_nil (P : Program) (W : World) (t e : TypeId) (a : Addr) (l c : Nat) (h : P.underlying t = some (.slice e)) : (binOp .eql t (.slice (some a) l c) (.slice none 0 0)).run P W = .ok (.bool false) W := by
  simp only [binOp]
  simp [run_equal_slice_nil W t e (some a) l c h]
theorem E.one (e : E) : ∀ u ∈ e.cells, u.oneCell' = true := by simp [Value.oneCell']
theorem flat_one (l : List E) : ∀ u ∈ flat l, u.oneCell' = true := by
  intro u hu
  obtain ⟨e, _, he⟩ := List.mem_flatMap.1 hu
  exact e.one u he
theorem nums_one (l : List Int) : ∀ u ∈ nums l, u.oneCell' = true := by
  intro u hu
  obtain ⟨e, _, rfl⟩ := List.mem_map.1 hu
  rfl
theorem own_nil {w : World} {t : TypeId} {size : Nat} {g : Nat} (h : Blk w g t #[]) (base : Nat) (hb : base ≤ g) : w.ownsRow base t size (.slice (some ⟨g, 0, none⟩) 0 0) 0 [] :=
  own_blk h hb (Nat.le_refl _) (by unfold maxLen; omega) (by simp) (by simp) (by simp)

set_option maxRecDepth 100000 in
theorem clone_ents (w : World) (bl c : Nat) (l : List E) (h : w.ownsRow 0 31 6 (.slice (some ⟨bl, 0, none⟩) l.length c) l.length (flat l)) (h1 : 1 ≤ l.length) (h2 : l.length ≤ 1000) :
    Calls Try.prog 74 #[.slice (some ⟨bl, 0, none⟩) l.length c] w fun r w' => Below w.heap.size w w' ∧ ∃ g c', r = .returned (.slice (some ⟨g, 0, none⟩) l.length c') ∧ w'.ownsRow w.heap.size 31 6 (.slice (some ⟨g, 0, none⟩) l.length c') l.length (flat l) := by
  obtain ⟨i0, hi, hz0, hz1, hz2⟩ := info_parts info_entry
  go_enter Try.func74, Try.ntmps74
  have hx : ∀ j u, (flat l)[j]? = some u → (w.alloc (.cells #[] 31)).cell? ((⟨bl, 0, none⟩ : Addr).add j) = some u := by
    intro j u hu
    have hj := (List.getElem?_eq_some_iff.1 hu).1
    rw [flat_length] at hj
    rw [Addr.add_nat_zero, (below_box w _).cell (p := ⟨bl, j, none⟩) (h.lt _ rfl).2, h.cellAt j (by omega)]
    exact hu
  have h0 := own_nil (size := 6) (Blk.new_ w #[] 31) w.heap.size (Nat.le_refl _)
  have hb := (below_box w (.cells #[] 31))
  have one := flat_one l
  have len := flat_length l
  have hnil := fun W => eql_nil Try.prog W 38 31 ⟨bl, 0, none⟩ l.length c Try.underlying38
  go_wp2_with (at_builtin; refine wpList_append_own _ rfl _ _ 38 rfl w.heap.size 31 i0 E0.v 6 48 Try.underlying38 hi hz0 hz1 hz2 rfl (by omega) _ 0 [] rfl h0 ⟨bl, 0, none⟩ l.length c (flat l) rfl len hx one (by unfold maxLen; omega) (by omega) (by simp) ?_; intro v' w1 hown' hgrow hnil)
  obtain ⟨g', c', rfl⟩ : ∃ g' c', v' = .slice (some ⟨g', 0, none⟩) l.length c' := by
    rcases hown'.2 with h' | ⟨g', c', _, h', _⟩
    · exact absurd h'.2 (by omega)
    · exact ⟨g', c', by rw [h', Nat.zero_add]⟩
  rw [Nat.zero_add, List.nil_append] at hown'
  go_ret
  exact ⟨hb.grown hgrow hb.size (fun k e => by cases e; exact Nat.le_refl _), g', c', rfl, hown'⟩
theorem nums_length (l : List Int) : (nums l).length = l.length * 1 := by simp [nums]
set_option maxRecDepth 100000 in
theorem clone_nums (w : World) (bl c : Nat) (l : List Int) (h : w.ownsRow 0 3 1 (.slice (some ⟨bl, 0, none⟩) l.length c) l.length (nums l)) (h1 : 1 ≤ l.length) (h2 : l.length ≤ 1000) :
    Calls Try.prog 75 #[.slice (some ⟨bl, 0, none⟩) l.length c] w fun r w' => Below w.heap.size w w' ∧ ∃ g c', r = .returned (.slice (some ⟨g, 0, none⟩) l.length c') ∧ w'.ownsRow w.heap.size 3 1 (.slice (some ⟨g, 0, none⟩) l.length c') l.length (nums l) := by
  obtain ⟨i0, hi, hz0, hz1, hz2⟩ := info_parts info_int
  go_enter Try.func75, Try.ntmps75
  have hx : ∀ j u, (nums l)[j]? = some u → (w.alloc (.cells #[] 3)).cell? ((⟨bl, 0, none⟩ : Addr).add j) = some u := by
    intro j u hu
    have hj := (List.getElem?_eq_some_iff.1 hu).1
    rw [nums_length] at hj
    rw [Addr.add_nat_zero, (below_box w _).cell (p := ⟨bl, j, none⟩) (h.lt _ rfl).2, h.cellAt j (by omega)]
    exact hu
  have h0 := own_nil (size := 1) (Blk.new_ w #[] 3) w.heap.size (Nat.le_refl _)
  have hb := (below_box w (.cells #[] 3))
  have one := nums_one l
  have len := nums_length l
  have hnil := fun W => eql_nil Try.prog W 73 3 ⟨bl, 0, none⟩ l.length c Try.underlying73
  go_wp2_with (at_builtin; refine wpList_append_own _ rfl _ _ 73 rfl w.heap.size 3 i0 (.int .i64 0) 1 8 Try.underlying73 hi hz0 hz1 hz2 rfl (by omega) _ 0 [] rfl h0 ⟨bl, 0, none⟩ l.length c (nums l) rfl len hx one (by unfold maxLen; omega) (by omega) (by simp) ?_; intro v' w1 hown' hgrow hnil)
  obtain ⟨g', c', rfl⟩ : ∃ g' c', v' = .slice (some ⟨g', 0, none⟩) l.length c' := by
    rcases hown'.2 with h' | ⟨g', c', _, h', _⟩
    · exact absurd h'.2 (by omega)
    · exact ⟨g', c', by rw [h', Nat.zero_add]⟩
  rw [Nat.zero_add, List.nil_append] at hown'
  go_ret
  exact ⟨hb.grown hgrow hb.size (fun k e => by cases e; exact Nat.le_refl _), g', c', rfl, hown'⟩

theorem own_grow {w w1 : World} {base g n c : Nat} {e : TypeId} {size : Nat} {xs : List Value} (h : w.ownsRow base e size (.slice (some ⟨g, 0, none⟩) n c) n xs) (hb : Below w.heap.size w w1) :
    w1.ownsRow 0 e size (.slice (some ⟨g, 0, none⟩) n c) n xs ∧ base ≤ g ∧ g < w.heap.size := by
  have hl := h.1
  have hlt := (h.lt _ rfl).2
  obtain ⟨cs, h0, h1, h2, h3, h4, h5⟩ := own_is h
  exact ⟨own_blk ((Keeps.of_below (S := []) hb).blk hlt (by simp) h0) (Nat.zero_le _) h2 h3 h4 hl h5, h1, hlt⟩
theorem World.cell?_drew_ (w : World) (a : Addr) : w.drew.cell? a = w.cell? a := rfl
def CopyS (p bl bv cl cv : Nat) (g : G) (l : List E) (lv : List Int) (w' : World) : Prop :=
  w'.cell? ⟨p, 0, none⟩ = some (.int .i64 g.D) ∧ w'.cell? ⟨p, 1, none⟩ = some (.int .i64 g.Z) ∧ w'.cell? ⟨p, 2, none⟩ = some (.int .i64 g.S) ∧ w'.cell? ⟨p, 3, none⟩ = some (.int .i64 g.B) ∧ w'.cell? ⟨p, 4, none⟩ = some (.int .i64 g.P) ∧ w'.cell? ⟨p, 5, none⟩ = some (.int .i64 g.O) ∧
    w'.cell? ⟨p, 6, none⟩ = some (.slice (some ⟨bl, 0, none⟩) l.length cl) ∧ w'.cell? ⟨p, 7, none⟩ = some (.slice (some ⟨bv, 0, none⟩) lv.length cv)
theorem CopyS.below {p bl bv cl cv : Nat} {g : G} {l : List E} {lv : List Int} {B : Nat} {w w' : World} (h : CopyS p bl bv cl cv g l lv w) (hb : Below B w w') (hp : p < B) : CopyS p bl bv cl cv g l lv w' := by
  obtain ⟨a, b, c, d, e, f, i, j⟩ := h
  have k : ∀ o, w'.cell? ⟨p, o, none⟩ = w.cell? ⟨p, o, none⟩ := fun o => hb.cell (p := ⟨p, o, none⟩) hp
  exact ⟨(k _).trans a, (k _).trans b, (k _).trans c, (k _).trans d, (k _).trans e, (k _).trans f, (k _).trans i, (k _).trans j⟩

set_option maxHeartbeats 1000000 in
/-- What a copy is: a map of its own, with the same entries and counts. -/
theorem map_copy (w : World) (p bl bv : Nat) (g : G) (l : List E) (lv : List Int) (h : MapAt w p bl bv g l lv) (h1 : 1 ≤ l.length) (h2 : l.length ≤ 1000) (h3 : 1 ≤ lv.length) (h4 : lv.length ≤ 1000) :
    Calls Try.prog 33 #[.pointer (some ⟨p, 0, none⟩)] w fun r w' => Below w.heap.size w w' ∧ ∃ p' bl' bv', r = .returned (.pointer (some ⟨p', 0, none⟩)) ∧ MapAt w' p' bl' bv' g l lv ∧ w.heap.size ≤ p' ∧ w.heap.size ≤ bl' ∧ w.heap.size ≤ bv' := by
  obtain ⟨cl, cv, h0, ho1, ho2⟩ := h
  have HS : Hid (CopyS p bl bv cl cv g l lv w.drew) := ⟨by rw [World.cell?_drew_, h0.cell]; rfl, by rw [World.cell?_drew_, h0.cell]; rfl, by rw [World.cell?_drew_, h0.cell]; rfl, by rw [World.cell?_drew_, h0.cell]; rfl, by rw [World.cell?_drew_, h0.cell]; rfl, by rw [World.cell?_drew_, h0.cell]; rfl, by rw [World.cell?_drew_, h0.cell]; rfl, by rw [World.cell?_drew_, h0.cell]; rfl⟩
  have hp := h0.lt
  have HOl : Hid (w.drew.ownsRow 0 31 6 (.slice (some ⟨bl, 0, none⟩) l.length cl) l.length (flat l)) := ho1
  have HOv : Hid (∀ w1, Below w.heap.size w.drew w1 → w1.ownsRow 0 3 1 (.slice (some ⟨bv, 0, none⟩) lv.length cv) lv.length (nums lv)) :=
    Lib.hid fun w1 hb => own_keeps (S := []) (w := w.drew) (Keeps.of_below hb) ((ho2.lt _ rfl).2) (by simp) ho2
  clear h0 ho1 ho2
  go_enter Try.func33, Try.ntmps33
  go_wp2_with fail
  go_region_held3 (fun w' => w'.cell? ⟨p, 0, none⟩ = some (.int .i64 g.D) ∧ w'.cell? ⟨p, 1, none⟩ = some (.int .i64 g.Z) ∧ w'.cell? ⟨p, 2, none⟩ = some (.int .i64 g.S) ∧ w'.cell? ⟨p, 3, none⟩ = some (.int .i64 g.B) ∧ w'.cell? ⟨p, 4, none⟩ = some (.int .i64 g.P) ∧ w'.cell? ⟨p, 5, none⟩ = some (.int .i64 g.O) ∧
    w'.cell? ⟨p, 6, none⟩ = some (.slice (some ⟨bl, 0, none⟩) l.length cl) ∧ w'.cell? ⟨p, 7, none⟩ = some (.slice (some ⟨bv, 0, none⟩) lv.length cv))
    (first | (go_keep; done) | exact HS.out | exact HS.out.below hb1 hp | exact (HS.out.below hb1 hp).below hb2 (Nat.lt_of_lt_of_le hp hb1.size))
    (first | (go_at_call 74; refine (clone_ents _ bl cl l HOl.out h1 h2).mono ?_; rintro r w1 ⟨hb1, g1, c1, rfl, ho1⟩) | (go_at_call 75; refine (clone_nums _ bv cv lv (HOv.out _ hb1) h3 h4).mono ?_; rintro r w2 ⟨hb2, g2, c2, rfl, ho2⟩))
  go_wp2
  go_ret
  have z1 : w.heap.size ≤ w1.heap.size := hb1.size
  have z2 : w1.heap.size ≤ w2.heap.size := hb2.size
  obtain ⟨a1, a2, a3⟩ := own_grow ho1 (hb2.trans ((below_box w2 _).mono z2))
  obtain ⟨b1, b2, b3⟩ := own_grow ho2 (below_box w2 _)
  have bb : Below w.heap.size w w1 := ⟨hb1.os, hb1.tape, hb1.output, hb1.size, hb1.block⟩
  exact ⟨(bb.trans (hb2.mono z1)).trans ((below_box w2 _).mono (by omega)), w2.heap.size, g1, g2, rfl, ⟨c1, c2, Blk.newAt rfl, a1, b1⟩, by omega, a2, Nat.le_trans z1 b2⟩
end Go.Proofs.Ytcgafnmpfdkfoaa
