/- Plain words of layers 5 and 11: geometries, entries, maps as lists; no program in sight. -/
namespace Go.Proofs.Ytcgafnmpfdkfoaa

/-- A geometry. -/
structure G where
  D : Int
  Z : Int
  S : Int
  B : Int
  P : Int
  O : Int
deriving DecidableEq

/-- An entry. -/
structure E where
  st : Int
  zn : Int
  mt : Int
  off : Int
  sq : Int
  sm : Int
deriving DecidableEq

def E0 : E := ⟨0, 0, 0, 0, 0, 0⟩

def wi (n l m : Int) : Bool := decide (l ≤ n ∧ n ≤ m)
theorem wi_true {n l m : Int} : wi n l m = true ↔ l ≤ n ∧ n ≤ m := by simp [wi]
theorem wi_false {n l m : Int} : wi n l m = false ↔ ¬ (l ≤ n ∧ n ≤ m) := by simp [wi]

def G.small (g : G) : Bool := wi g.D 3 8 && wi g.Z 1 64 && wi g.S 4 64 && wi g.B 1 256 && wi g.P 0 4 && wi g.O 4 64
def G.parts (g : G) : Int := 1 + (g.B + 1) / 2
def G.reserve (g : G) : Int := g.D * g.P + 4
def G.u (g : G) : Int := g.Z - g.P - 2
def G.segs (g : G) : Int := min ((g.D - 1) * g.u - g.reserve + 1) (g.D * g.u - 2 * g.reserve + 1) / 2 - 1 - g.D * g.P
def G.right (g : G) : Bool := g.small && decide (g.parts ≤ g.S) && decide (2 * g.B ≤ g.S * g.segs)
def G.all (g : G) : Int := g.D * g.Z
def G.dom (g : G) (z : Int) : Int := if z < 0 ∨ g.all ≤ z then -1 else z / g.Z
def G.holds (g : G) (z off : Int) : Bool := g.right && wi z 0 (g.all - 1) && wi off 0 (g.S - 1)

structure G.Small (g : G) : Prop where
  D0 : 3 ≤ g.D
  D1 : g.D ≤ 8
  Z0 : 1 ≤ g.Z
  Z1 : g.Z ≤ 64
  S0 : 4 ≤ g.S
  S1 : g.S ≤ 64
  B0 : 1 ≤ g.B
  B1 : g.B ≤ 256
  P0 : 0 ≤ g.P
  P1 : g.P ≤ 4
  O0 : 4 ≤ g.O
  O1 : g.O ≤ 64
theorem G.small_iff {g : G} : g.small = true ↔ g.Small := by
  simp only [G.small, Bool.and_eq_true, wi_true]
  exact ⟨fun ⟨⟨⟨⟨⟨⟨a, b⟩, c, d⟩, e, f⟩, h, i⟩, j, k⟩, l, m⟩ => ⟨a, b, c, d, e, f, h, i, j, k, l, m⟩,
    fun ⟨a, b, c, d, e, f, h, i, j, k, l, m⟩ => ⟨⟨⟨⟨⟨⟨a, b⟩, c, d⟩, e, f⟩, h, i⟩, j, k⟩, l, m⟩⟩
theorem G.small_of_right {g : G} (h : g.right = true) : g.Small := by
  simp only [G.right, Bool.and_eq_true] at h
  exact G.small_iff.1 h.1.1
theorem mul_le_mul_ {a b c d : Int} (ha : 0 ≤ a) (hb : 0 ≤ b) (h1 : a ≤ c) (h2 : b ≤ d) : a * b ≤ c * d :=
  Int.mul_le_mul h1 h2 hb (by omega)
theorem G.Small.all_le {g : G} (h : g.Small) : 3 ≤ g.all ∧ g.all ≤ 512 := by
  have h1 := mul_le_mul_ (a := g.D) (b := g.Z) (c := 8) (d := 64) (by have := h.D0; omega) (by have := h.Z0; omega) h.D1 h.Z1
  have h2 := mul_le_mul_ (a := 3) (b := 1) (c := g.D) (d := g.Z) (by omega) (by omega) h.D0 h.Z0
  unfold G.all
  omega
theorem G.Small.dp_le {g : G} (h : g.Small) : 0 ≤ g.D * g.P ∧ g.D * g.P ≤ 32 := by
  have h1 := mul_le_mul_ (a := g.D) (b := g.P) (c := 8) (d := 4) (by have := h.D0; omega) h.P0 h.D1 h.P1
  have h2 := Int.mul_nonneg (a := g.D) (b := g.P) (by have := h.D0; omega) h.P0
  omega
theorem G.Small.du_le {g : G} (h : g.Small) : -48 ≤ g.D * g.u ∧ g.D * g.u ≤ 512 ∧ -48 ≤ (g.D - 1) * g.u ∧ (g.D - 1) * g.u ≤ 512 := by
  have hu : -5 ≤ g.u ∧ g.u ≤ 62 := by have := h.Z0; have := h.Z1; have := h.P0; have := h.P1; unfold G.u; omega
  have key : ∀ d : Int, 2 ≤ d → d ≤ 8 → -48 ≤ d * g.u ∧ d * g.u ≤ 512 := by
    intro d h2 h8
    have : d = 2 ∨ d = 3 ∨ d = 4 ∨ d = 5 ∨ d = 6 ∨ d = 7 ∨ d = 8 := by omega
    rcases this with rfl | rfl | rfl | rfl | rfl | rfl | rfl <;> omega
  have a := key g.D (by have := h.D0; omega) h.D1
  have b := key (g.D - 1) (by have := h.D0; omega) (by have := h.D1; omega)
  exact ⟨a.1, a.2, b.1, b.2⟩

theorem G.Small.segs_le {g : G} (h : g.Small) : -8000 ≤ g.S * g.segs ∧ g.S * g.segs ≤ 20000 := by
  have h1 := h.dp_le
  have h2 := h.du_le
  have hsg : -120 ≤ g.segs ∧ g.segs ≤ 260 := by unfold G.segs G.reserve; omega
  have h3 := h.S0
  have h4 := h.S1
  have a : g.S * (-120) ≤ g.S * g.segs := Int.mul_le_mul_of_nonneg_left hsg.1 (by omega)
  have b : g.S * g.segs ≤ g.S * 260 := Int.mul_le_mul_of_nonneg_left hsg.2 (by omega)
  omega

/-- May an entry be? -/
def E.right (e : E) (g : G) : Bool :=
  if e.st = 0 ∨ e.st = 2 then decide (e.zn = 0 ∧ e.mt = 0 ∧ e.off = 0 ∧ e.sq = 0 ∧ e.sm = 0)
  else decide (e.st = 1) && (g.holds e.zn e.off && g.holds e.mt e.off && !(g.dom e.zn == g.dom e.mt) && wi e.sq 1 281474976710655 && wi e.sm 0 4294967295)

/-- Does an entry's block lie in a zone? -/
def E.has (z : Int) (e : E) : Bool := decide (e.st = 1 ∧ (e.zn = z ∨ e.mt = z))
/-- Of how many entries the block lies in a zone. -/
def cnt (l : List E) (z : Int) : Int := l.countP (E.has z)
def states (l : List E) (s : Int) : Int := l.countP (fun e => decide (e.st = s))

def rdI (xs : List Int) (i : Int) : Int := xs.getD i.toNat 0
def bump (lv : List Int) (z by_ : Int) : List Int := lv.set z.toNat (rdI lv z + by_)
def tally (lv : List Int) (e : E) (by_ : Int) : List Int := if e.st = 1 then bump (bump lv e.zn by_) e.mt by_ else lv

/-- What holds of every map that the program makes. -/
structure MapOk (g : G) (l : List E) (lv : List Int) : Prop where
  right : g.right = true
  len : (l.length : Int) = g.B
  lvlen : (lv.length : Int) = g.all
  all : ∀ e ∈ l, e.right g = true
  live : ∀ z : Int, 0 ≤ z → z < g.all → rdI lv z = cnt l z

theorem E.right_lives {e : E} {g : G} (h : e.right g = true) (h1 : e.st = 1) :
    (0 ≤ e.zn ∧ e.zn < g.all) ∧ (0 ≤ e.mt ∧ e.mt < g.all) ∧ (0 ≤ e.off ∧ e.off < g.S) ∧ e.zn ≠ e.mt ∧ (1 ≤ e.sq ∧ e.sq ≤ 281474976710655) ∧ (0 ≤ e.sm ∧ e.sm ≤ 4294967295) ∧ g.dom e.zn ≠ g.dom e.mt := by
  simp only [E.right, h1, if_neg (show ¬ ((1 : Int) = 0 ∨ (1 : Int) = 2) by omega), Bool.and_eq_true, Bool.not_eq_true', beq_eq_false_iff_ne, G.holds, wi_true, decide_true, true_and] at h
  obtain ⟨⟨⟨⟨⟨⟨_, a⟩, b⟩, ⟨⟨_, c⟩, _⟩⟩, d⟩, e1⟩, f⟩ := h
  refine ⟨by omega, by omega, by omega, ?_, e1, f, d⟩
  intro he
  exact d (by rw [he])
theorem E.right_zero {e : E} {g : G} (h : e.right g = true) (h1 : e.st ≠ 1) : (e.st = 0 ∨ e.st = 2) ∧ e.zn = 0 ∧ e.mt = 0 ∧ e.off = 0 ∧ e.sq = 0 ∧ e.sm = 0 := by
  unfold E.right at h
  by_cases hs : e.st = 0 ∨ e.st = 2
  · rw [if_pos hs] at h
    exact ⟨hs, of_decide_eq_true h⟩
  · rw [if_neg hs] at h
    simp [h1] at h

theorem rdI_set {xs : List Int} {i j : Int} {x : Int} (hi : 0 ≤ i) (hl : i < xs.length) (hj : 0 ≤ j) : rdI (xs.set i.toNat x) j = if i = j then x else rdI xs j := by
  unfold rdI
  by_cases h : i = j
  · subst h
    rw [if_pos rfl, List.getD_eq_getElem?_getD, List.getElem?_set_self (by omega)]; rfl
  · rw [if_neg h, List.getD_eq_getElem?_getD, List.getD_eq_getElem?_getD, List.getElem?_set_ne (by omega)]
theorem bump_length (lv : List Int) (z by_ : Int) : (bump lv z by_).length = lv.length := by simp [bump]
theorem tally_length (lv : List Int) (e : E) (by_ : Int) : (tally lv e by_).length = lv.length := by
  unfold tally; split <;> simp [bump_length]
theorem rdI_bump {lv : List Int} {z by_ j : Int} (hz : 0 ≤ z) (hl : z < lv.length) (hj : 0 ≤ j) : rdI (bump lv z by_) j = rdI lv j + if z = j then by_ else 0 := by
  unfold bump
  rw [rdI_set hz hl hj]
  split
  · rename_i h; subst h; rfl
  · omega
def b2i (b : Bool) : Int := if b then 1 else 0
theorem rdI_tally {g : G} {lv : List Int} {e : E} {by_ j : Int} (hr : e.right g = true) (hl : (lv.length : Int) = g.all) (hj : 0 ≤ j) :
    rdI (tally lv e by_) j = rdI lv j + if e.has j = true then by_ else 0 := by
  unfold tally
  by_cases h1 : e.st = 1
  · obtain ⟨⟨a, b⟩, ⟨c, d⟩, _, hne, _⟩ := E.right_lives hr h1
    rw [if_pos h1, rdI_bump c (by rw [bump_length]; omega) hj, rdI_bump a (by omega) hj]
    simp only [E.has, h1, true_and, decide_eq_true_eq]
    by_cases h2 : e.zn = j <;> by_cases h3 : e.mt = j <;> simp [h2, h3]
    omega
  · rw [if_neg h1]
    simp [E.has, h1]
theorem rdI_nonneg_cnt (l : List E) (z : Int) : 0 ≤ cnt l z ∧ cnt l z ≤ l.length := by
  unfold cnt
  have := List.countP_le_length (p := E.has z) (l := l)
  omega
theorem cnt_set {l : List E} {b : Nat} {e : E} (hb : b < l.length) (z : Int) : cnt (l.set b e) z = cnt l z - b2i ((l[b]).has z) + b2i (e.has z) := by
  unfold cnt b2i
  rw [List.countP_set (h := hb)]
  have h : E.has z l[b] = true → 1 ≤ l.countP (E.has z) := fun h => List.countP_pos_iff.2 ⟨l[b], List.getElem_mem hb, h⟩
  by_cases h1 : E.has z l[b] = true
  · have := h h1
    by_cases h2 : E.has z e = true <;> simp [h1, h2] <;> omega
  · by_cases h2 : E.has z e = true <;> simp [h1, h2]

theorem MapOk.set {g : G} {l : List E} {lv : List Int} (h : MapOk g l lv) {b : Nat} (hb : b < l.length) {e : E} (he : e.right g = true) :
    MapOk g (l.set b e) (tally (tally lv l[b] (-1)) e 1) := by
  have hold : (l[b]).right g = true := h.all _ (List.getElem_mem hb)
  refine ⟨h.right, by simpa using h.len, by rw [tally_length, tally_length]; exact h.lvlen, ?_, ?_⟩
  · intro x hx
    rcases List.mem_or_eq_of_mem_set hx with hx | rfl
    · exact h.all _ hx
    · exact he
  · intro z h0 h1
    rw [rdI_tally he (by rw [tally_length]; exact h.lvlen) h0, rdI_tally hold h.lvlen h0, h.live z h0 h1, cnt_set hb]
    unfold b2i
    split <;> split <;> omega
def nones (g : G) : List E := List.replicate g.B.toNat E0
def noLive (g : G) : List Int := List.replicate g.all.toNat 0
theorem E0_right (g : G) : E0.right g = true := by simp [E0, E.right]
theorem MapOk.new {g : G} (h : g.right = true) : MapOk g (nones g) (noLive g) := by
  have hs := G.small_of_right h
  have ha := hs.all_le
  have hB := hs.B0
  refine ⟨h, by simp [nones]; omega, by simp [noLive]; omega, ?_, ?_⟩
  · intro e he
    rw [List.eq_of_mem_replicate he]; exact E0_right g
  · intro z h0 h1
    have : cnt (nones g) z = 0 := by
      unfold cnt nones
      rw [List.countP_replicate]
      simp [E.has, E0]
    rw [this]
    unfold rdI noLive
    rw [List.getD_eq_getElem?_getD, List.getElem?_replicate]
    split <;> rfl
end Go.Proofs.Ytcgafnmpfdkfoaa
