/- The iterators over a map's entries, and over the blocks that lie in a zone. -/
import Derived.Test.YtcgafnmpfdkfoaaIter
namespace Go.Proofs.Ytcgafnmpfdkfoaa
open Go.RowKit Go.Shelf

attribute [local go_sem] Oper.semAt_some

def enum (l : List E) : List (Nat × E) := (List.range l.length).map fun i => (i, l.getD i E0)
theorem enum_length (l : List E) : (enum l).length = l.length := by simp [enum]
theorem enum_get (l : List E) (k : Nat) (e : E) (h : l[k]? = some e) : (enum l)[k]? = some (k, e) := by
  have hk := (List.getElem?_eq_some_iff.1 h).1
  simp only [enum, List.getElem?_map, List.getElem?_range hk, Option.map_some, List.getD_eq_getElem?_getD, h, Option.getD_some]
theorem take_snoc {α : Type} (xs : List α) (k : Nat) (x : α) (h : xs[k]? = some x) : xs.take (k + 1) = xs.take k ++ [x] ∧ ∃ rest, xs = xs.take k ++ x :: rest := by
  obtain ⟨hk, rfl⟩ := List.getElem?_eq_some_iff.1 h
  exact ⟨List.take_succ_eq_append_getElem hk, xs.drop (k + 1), by rw [← List.drop_eq_getElem_cons hk, List.take_append_drop]⟩
theorem enum_at {l : List E} {pre rest : List (Nat × E)} {x : Nat × E} (h : enum l = pre ++ x :: rest) : x.1 = pre.length ∧ l[pre.length]? = some x.2 ∧ pre = (enum l).take pre.length := by
  have h1 : (enum l)[pre.length]? = some x := by rw [h]; simp
  have hk : pre.length < l.length := by rw [← enum_length, h]; simp
  have h2 := enum_get l pre.length l[pre.length] (List.getElem?_eq_getElem hk)
  rw [h1] at h2
  injection h2 with h2
  subst h2
  exact ⟨rfl, List.getElem?_eq_getElem hk, by rw [h]; simp⟩

set_option maxRecDepth 100000 in
set_option maxHeartbeats 2000000 in
theorem all_iter (w : World) (Bs bl cap : Nat) (l : List E) (S : List Nat) (hBs : w.cell? ⟨Bs, 0, none⟩ = some (.slice (some ⟨bl, 0, none⟩) l.length cap)) (hB : Bs < w.heap.size) (hl : bl < w.heap.size) (hlS : bl ∉ S)
    (hz : l.length ≤ 1000) (he : ∀ i e, l[i]? = some e → EntReads w bl i e) :
    Iter Try.prog 139 #[.pointer (some ⟨Bs, 0, none⟩)] (fun x : Nat × E => #[.int .i64 x.1, x.2.v]) (enum l) S w := by
  intro n lo J W hW hlo hlt hJ hY h0
  have hBs' := (hW.cell (p := ⟨Bs, 0, none⟩) hB).trans hBs
  refine callsIn_of_wp Try.func139 rfl trivial ?_ rfl
  simp only [Try.ntmps139, List.size_toArray, List.length_cons, List.length_nil, Nat.reduceAdd, Nat.reduceSub, Array.replicate_succ, Array.replicate_zero, List.push_toArray, List.append_toArray, List.nil_append, List.cons_append]
  gi_wp2
  gi_loopw [7] (fun i wr => ∃ k : Nat, k ≤ l.length ∧ i = .int .i64 k ∧ J ((enum l).take k) wr ∧ Keeps W.heap.size (lo :: S) W wr)
    (fun i _ => l.length - (intOf i).toNat)
  case atStart => exact ⟨0, Nat.zero_le _, rfl, h0, Keeps.refl _ _ _⟩
  case round =>
    obtain ⟨k, hk, rfl, hJs, hkw⟩ := hrel
    by_cases hlt' : k < l.length
    · have hek : l[k]? = some l[k] := List.getElem?_eq_getElem hlt'
      generalize l[k] = e at hek
      have hsW := hW.size
      obtain ⟨e0, e1, e2, e3, e4, e5⟩ := he k e hek
      have hc : ∀ o, wr.cell? ⟨bl, o, none⟩ = w.cell? ⟨bl, o, none⟩ := fun o => (hkw.cell bl o (by omega) (by simp; exact ⟨by omega, hlS⟩)).trans (hW.cell (p := ⟨bl, o, none⟩) hl)
      have d0 := (hc _).trans e0
      have d1 := (hc _).trans e1
      have d2 := (hc _).trans e2
      have d3 := (hc _).trans e3
      have d4 := (hc _).trans e4
      have d5 := (hc _).trans e5
      obtain ⟨t1, rest, t2⟩ := take_snoc _ _ _ (enum_get l k e hek)
      have hsr := hkw.size
      obtain ⟨fn, tmps, assign, body, hy, hR⟩ := hY (n - 1) _ _ rest (wr.alloc e.box) t2 (hJ _ _ _ hJs ((Below.refl _ _).alloc hsr _)) (by simp; omega)
      dsimp only at hy
      clear hc e0 e1 e2 e3 e4 e5
      gi_wp2
      refine ⟨fun h => by simp [Fence.wide] at h, hR.mono ?_⟩
      clear hR
      rintro e' W3 ⟨rfl, hJ3, hk3⟩
      gi_wp2
      go_roundw
      case rel =>
        refine ⟨k + 1, by omega, by simp, by rw [t1]; exact hJ3, ?_⟩
        exact (hkw.trans (Keeps.of_below ((Below.refl _ _).alloc hsr _))).trans (hk3.mono (by simp; omega) (fun i hi => hi))
      case measure => simp [intOf]; omega
    · obtain rfl : k = l.length := by omega
      gi_wp2
      go_end0
      refine ⟨⟨_, rfl⟩, ?_⟩
      rw [List.take_of_length_le (by rw [enum_length]; omega)] at hJs
      exact hJs

/-- slices.All(l): the slice value is boxed; the function value captures the box. -/
theorem all_made (a : Option Addr) (len cap : Nat) (w : World) :
    Calls Try.prog 111 #[.slice a len cap] w fun r w' => r = .returned (.func (.func 139) #[] #[.pointer (some ⟨w.heap.size, 0, none⟩)]) ∧ w.alloc (.cells #[.slice a len cap] 38) = w' := by
  go_enter Try.func111, Try.ntmps111
  go_wp2
  go_ret
  exact ⟨rfl, rfl⟩
theorem map_all_made (w : World) (p bl bv : Nat) (g : G) (l : List E) (lv : List Int) (h : MapAt w p bl bv g l lv) :
    Calls Try.prog 67 #[.pointer (some ⟨p, 0, none⟩)] w fun r w' => r = .returned (.func (.func 139) #[] #[.pointer (some ⟨w.heap.size, 0, none⟩)]) ∧
      Below w.heap.size w w' ∧ w.heap.size < w'.heap.size ∧ ∃ cap, w'.cell? ⟨w.heap.size, 0, none⟩ = some (.slice (some ⟨bl, 0, none⟩) l.length cap) := by
  obtain ⟨cl, cv, hp, hl, hv, zl, zv, g0, g1, g2, g3, g4, g5, s6, s7⟩ := h.reads
  clear h
  go_enter Try.func67, Try.ntmps67
  go_wp2_with (go_at_call 111; refine (all_made _ _ _ _).mono ?_; rintro r w' ⟨rfl, rfl⟩)
  go_ret
  exact ⟨rfl, below_box _ _, by simp, cl, by simp⟩
theorem MapAt.iter {w w' : World} {p bl bv : Nat} {g : G} {l : List E} {lv : List Int} (h : MapAt w p bl bv g l lv) (hz : l.length ≤ 1000) (hb : Below w.heap.size w w') (hs : w.heap.size < w'.heap.size) (hc : ∃ cap, w'.cell? ⟨w.heap.size, 0, none⟩ = some (.slice (some ⟨bl, 0, none⟩) l.length cap))
    (S : List Nat) (h2 : bl ∉ S) :
    Iter Try.prog 139 #[.pointer (some ⟨w.heap.size, 0, none⟩)] (fun x : Nat × E => #[.int .i64 x.1, x.2.v]) (enum l) S w' := by
  obtain ⟨cap, hc⟩ := hc
  have hl := h.lt
  exact all_iter w' _ bl cap l S hc hs (by omega) h2 hz (fun i e he => (h.grow hb).ent he)
theorem map_in_made (w : World) (p : Nat) (z : Int) :
    Calls Try.prog 79 #[.pointer (some ⟨p, 0, none⟩), .int .i64 z] w fun r w' => r = .returned (.func (.func 116) #[] #[.pointer (some ⟨w.heap.size, 0, none⟩), .pointer (some ⟨w.heap.size + 1, 0, none⟩)]) ∧
      Below w.heap.size w w' ∧ w'.heap.size = w.heap.size + 2 ∧ w'.cell? ⟨w.heap.size, 0, none⟩ = some (.pointer (some ⟨p, 0, none⟩)) ∧ w'.cell? ⟨w.heap.size + 1, 0, none⟩ = some (.int .i64 z) := by
  go_enter Try.func79, Try.ntmps79
  go_wp2
  go_ret
  exact ⟨rfl, ((Below.refl _ w).alloc (Nat.le_refl _) _).alloc (by simp) _, by simp, by simp, by simp⟩
end Go.Proofs.Ytcgafnmpfdkfoaa
