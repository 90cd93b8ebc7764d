/- Substitution, plain: the image of a word; it is a homomorphism. -/
import Derived.Test.YtgmfjhmphiiifaaDoorP2
namespace Go.Proofs.YtgmfjhmphiiifaaDoor
open Go.Ab
set_option linter.unusedVariables false

/-- The image of a letter. -/
def im (imgs : List (List Int)) (x : Int) : List Int := if 0 < x then imgs.getD (x - 1).toNat [] else rn (imgs.getD (-x - 1).toNat [])
def imL (imgs : List (List Int)) (w : List Int) : List Int := (w.map (im imgs)).flatten
def sub (imgs : List (List Int)) (w : List Int) : List Int := red (imL imgs w)
theorem imL_app (imgs : List (List Int)) (a b : List Int) : imL imgs (a ++ b) = imL imgs a ++ imL imgs b := by simp [imL]
theorem imL_one (imgs : List (List Int)) (x : Int) : imL imgs [x] = im imgs x := by simp [imL]
theorem im_neg (imgs : List (List Int)) {x : Int} (h : x ≠ 0) : im imgs (-x) = rn (im imgs x) := by
  unfold im
  by_cases h1 : 0 < x
  · rw [if_neg (by omega), if_pos h1, Int.neg_neg]
  · rw [if_pos (by omega), if_neg h1, rn_rn]
theorem red_md (a b c : List Int) : red (a ++ red b ++ c) = red (a ++ b ++ c) := by
  rw [List.append_assoc, ← red_r a, red_l, red_r, List.append_assoc]
theorem red_pair (a b c : List Int) : red (a ++ (rn b ++ b) ++ c) = red (a ++ c) := by
  have h := red_inv (rn b)
  rw [rn_rn] at h
  rw [← red_md, h, List.append_nil]
theorem sub_push (imgs : List (List Int)) : ∀ (w st : List Int), (∀ x ∈ w, x ≠ 0) → red (imL imgs (pushL st w)) = red (imL imgs (st ++ w))
  | [], st, _ => by rw [List.append_nil]; rfl
  | x :: w, st, h => by
    have e : pushL st (x :: w) = pushL (push1 st x) w := rfl
    rw [e, sub_push imgs w (push1 st x) fun y hy => h y (.tail _ hy)]
    rcases push1_cases st x with h1 | ⟨t, h1, h2⟩
    · rw [h1, List.append_assoc]; rfl
    · rw [h2, h1]
      have e2 : t ++ [-x] ++ x :: w = t ++ ([-x] ++ [x]) ++ w := by simp
      rw [e2, imL_app, imL_app, imL_app, imL_app, imL_one, imL_one, im_neg imgs (h x (.head _)), red_pair]
theorem sub_red (imgs : List (List Int)) {w : List Int} (h : ∀ x ∈ w, x ≠ 0) : sub imgs (red w) = sub imgs w := sub_push imgs w [] h
/-- A product's image. -/
theorem sub_mul (imgs : List (List Int)) {a b : List Int} (ha : ∀ x ∈ a, x ≠ 0) (hb : ∀ x ∈ b, x ≠ 0) : sub imgs (red (a ++ b)) = red (sub imgs a ++ sub imgs b) := by
  rw [sub_red imgs fun x hx => (List.mem_append.1 hx).elim (ha x) (hb x)]
  unfold sub
  rw [imL_app, red_l, red_r]
/-- The reference's image of a letter. -/
def imR (imgs : List (List Int)) (x : Int) : List Int := if 0 < x then imgs.getD (x - 1).toNat [] else red (rn (imgs.getD (-x - 1).toNat []))
theorem ref_sub (imgs : List (List Int)) : ∀ (w A : List Int), red (A ++ (w.map (imR imgs)).flatten) = red (A ++ imL imgs w)
  | [], A => rfl
  | x :: w, A => by
    have e1 : ((x :: w).map (imR imgs)).flatten = imR imgs x ++ (w.map (imR imgs)).flatten := rfl
    have e2 : imL imgs (x :: w) = im imgs x ++ imL imgs w := rfl
    rw [e1, e2, ← List.append_assoc, ref_sub imgs w, ← List.append_assoc]
    unfold imR im
    split
    · rfl
    · rw [red_md]
theorem sub_ref (imgs : List (List Int)) (w : List Int) : red (w.map (imR imgs)).flatten = sub imgs w := ref_sub imgs w []
end Go.Proofs.YtgmfjhmphiiifaaDoor
