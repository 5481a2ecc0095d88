/- Plain words of layer 12: numbers in bytes, frames of a snapshot; no program in sight. -/
import Derived.Test.YtcgafnmpfdkfoaaPure1
namespace Go.Proofs.Ytcgafnmpfdkfoaa

/-- A number's bytes. -/
def le : Nat → Int → List Int
  | 0, _ => []
  | n + 1, v => v % 256 :: le n (v / 256)
/-- The number of bytes. -/
def unle : List Int → Int
  | [] => 0
  | b :: r => b + 256 * unle r
def Byt (xs : List Int) : Prop := ∀ b ∈ xs, 0 ≤ b ∧ b < 256
theorem le_length (n : Nat) (v : Int) : (le n v).length = n := by
  induction n generalizing v with
  | zero => rfl
  | succ n ih => simp [le, ih]
theorem le_byt (n : Nat) (v : Int) : Byt (le n v) := by
  induction n generalizing v with
  | zero => intro b hb; simp [le] at hb
  | succ n ih =>
    intro b hb
    simp only [le, List.mem_cons] at hb
    rcases hb with rfl | hb
    · omega
    · exact ih _ b hb
theorem unle_le (n : Nat) (v : Int) (h0 : 0 ≤ v) (h1 : v < 256 ^ n) : unle (le n v) = v := by
  induction n generalizing v with
  | zero => simp at h1; simp [le, unle]; omega
  | succ n ih =>
    simp only [le, unle]
    rw [ih (v / 256) (by omega) (by rw [Int.pow_succ] at h1; omega)]
    omega
theorem le_unle (xs : List Int) (h : Byt xs) : le xs.length (unle xs) = xs := by
  induction xs with
  | nil => rfl
  | cons b r ih =>
    have hb := h b List.mem_cons_self
    have hr : Byt r := fun x hx => h x (List.mem_cons_of_mem _ hx)
    simp only [List.length_cons, le, unle]
    rw [show (b + 256 * unle r) % 256 = b by omega, show (b + 256 * unle r) / 256 = unle r by omega, ih hr]
theorem le_inj (n : Nat) (v u : Int) (h0 : 0 ≤ v) (h1 : v < 256 ^ n) (k0 : 0 ≤ u) (k1 : u < 256 ^ n) (h : le n v = le n u) : v = u := by
  rw [← unle_le n v h0 h1, ← unle_le n u k0 k1, h]
theorem unle_range (xs : List Int) (h : Byt xs) : 0 ≤ unle xs ∧ unle xs < 256 ^ xs.length := by
  induction xs with
  | nil => simp [unle]
  | cons b r ih =>
    have hb := h b List.mem_cons_self
    have := ih (fun x hx => h x (List.mem_cons_of_mem _ hx))
    simp only [unle, List.length_cons, Int.pow_succ]
    omega
theorem Byt.append {xs ys : List Int} (h : Byt xs) (k : Byt ys) : Byt (xs ++ ys) := by
  intro b hb
  rcases List.mem_append.1 hb with hb | hb
  · exact h b hb
  · exact k b hb
theorem le_zero (n : Nat) : le n 0 = List.replicate n 0 := by
  induction n with
  | zero => rfl
  | succ n ih => simp [le, ih, List.replicate_succ]

/-- How many bytes a number has, as the program counts them. -/
def widA : Nat → Int → Int
  | 0, _ => 1
  | n + 1, v => if v < 256 then 1 else 1 + widA n (v / 256)
def wid (v : Int) : Int := widA 7 v
theorem widA_small (n : Nat) {v : Int} (h : v < 256) : widA n v = 1 := by
  cases n with
  | zero => rfl
  | succ n => simp [widA, h]
theorem widA_great (n : Nat) {v : Int} (h : ¬ v < 256) : widA (n + 1) v = 1 + widA n (v / 256) := by simp [widA, h]
theorem widA_le (m n : Nat) (v : Int) (h : v < 256 ^ (n + 1)) : widA m v ≤ n + 1 := by
  induction n generalizing m v with
  | zero => rw [widA_small m (by simpa using h)]; omega
  | succ n ih =>
    by_cases hv : v < 256
    · rw [widA_small m hv]; omega
    · cases m with
      | zero => simp only [widA]; omega
      | succ m =>
        rw [widA_great m hv]
        have := ih m (v / 256) (by rw [Int.pow_succ] at h; omega)
        omega
theorem wid_le {v : Int} {n : Nat} (h0 : 1 ≤ n) (h : v < 256 ^ n) : wid v ≤ n := by
  obtain ⟨m, rfl⟩ : ∃ m, n = m + 1 := ⟨n - 1, by omega⟩
  have := widA_le 7 m v h
  unfold wid
  omega

def pad44 (xs : List Int) : List Int := xs ++ List.replicate (44 - xs.length) 0
theorem pad44_length (xs : List Int) (h : xs.length ≤ 44) : (pad44 xs).length = 44 := by simp [pad44]; omega
theorem pad44_byt {xs : List Int} (h : Byt xs) : Byt (pad44 xs) := by
  refine h.append ?_
  intro b hb
  rw [List.eq_of_mem_replicate hb]; omega

def entB (e : E) : List Int := le 1 e.st ++ le 2 e.zn ++ le 2 e.mt ++ le 1 e.off ++ le 6 e.sq ++ le 4 e.sm
theorem entB_length (e : E) : (entB e).length = 16 := by simp [entB, le_length]
theorem entB_byt (e : E) : Byt (entB e) := ((((le_byt _ _).append (le_byt _ _)).append (le_byt _ _)).append (le_byt _ _) |>.append (le_byt _ _)).append (le_byt _ _)

/-- A frame. -/
structure Fr where
  kd : Int
  zn : Int
  off : Int
  ep : Int
  sq : Int
  bd : List Int
deriving DecidableEq

def headB (g : G) (nx : Int) : List Int := pad44 (le 6 nx ++ le 1 g.D ++ le 1 g.Z ++ le 1 g.S ++ le 2 g.B ++ le 1 g.P ++ le 1 g.O)
def partB (l : List E) (i : Nat) : List Int := pad44 (le 1 i ++ entB (l.getD (2 * (i - 1)) E0) ++ entB (l.getD (2 * (i - 1) + 1) E0))
theorem headB_length (g : G) (nx : Int) : (headB g nx).length = 44 := pad44_length _ (by simp [le_length])
theorem partB_length (l : List E) (i : Nat) : (partB l i).length = 44 := pad44_length _ (by simp [le_length, entB_length])
theorem headB_byt (g : G) (nx : Int) : Byt (headB g nx) :=
  pad44_byt ((((((le_byt _ _).append (le_byt _ _)).append (le_byt _ _)).append (le_byt _ _)).append (le_byt _ _)).append (le_byt _ _) |>.append (le_byt _ _))
theorem partB_byt (l : List E) (i : Nat) : Byt (partB l i) := pad44_byt (((le_byt _ _).append (entB_byt _)).append (entB_byt _))

/-- The numbers that a snapshot has beside its map. -/
structure Sn where
  gen : Int
  ep : Int
  nx : Int
deriving DecidableEq
def Sn.right (s : Sn) (l : List E) : Bool := wi s.gen 1 281474976710655 && wi s.ep 1 4294967295 && wi s.nx 1 281474976710655 && l.all fun e => decide (e.sq < s.nx)

def nparts (l : List E) : Nat := 1 + (l.length + 1) / 2
def frameAt (s : Sn) (g : G) (l : List E) (z : Int) (i : Nat) : Fr := if i = 0 then ⟨4, z, 0, s.ep, s.gen, headB g s.nx⟩ else ⟨5, z, i, s.ep, s.gen, partB l i⟩
def frames (s : Sn) (g : G) (l : List E) (z : Int) : List Fr := (List.range (nparts l)).map (frameAt s g l z)
theorem frames_length (s : Sn) (g : G) (l : List E) (z : Int) : (frames s g l z).length = nparts l := by simp [frames]
theorem frames_get (s : Sn) (g : G) (l : List E) (z : Int) (i : Nat) (h : i < nparts l) : (frames s g l z)[i]? = some (frameAt s g l z i) := by simp [frames, h]
end Go.Proofs.Ytcgafnmpfdkfoaa
