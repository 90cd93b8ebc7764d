/- Substitute as a contract. -/
import Derived.Test.YtgmfjhmphiiifaaDoorSB5
namespace Go.Proofs.YtgmfjhmphiiifaaDoor
open Go.RowKit Go.Shelf Go.Ab
set_option linter.unusedVariables false
set_option linter.unusedSectionVars false

def intSV : SV → Int
  | .int _ n => n
  | _ => 0
theorem ints_back (zs : List Int) : (ints zs).map intSV = zs := by
  induction zs with
  | nil => rfl
  | cons z zs ih => simp only [ints, List.map_cons, intSV] at *; rw [ih]
def decs (h : Heap) (s : SV) : List SV := match srcCells h 1 s with
  | some (_, cs) => cs
  | none => []
def dec (h : Heap) (s : SV) : List Int := (decs h s).map intSV
theorem dec_of {h : Heap} {s : SV} {xs : List Int} (hs : IsInts h s xs) : dec h s = xs := by
  unfold dec decs
  rw [IsInts.src hs]
  exact ints_back xs
theorem decs_of {h : Heap} {s : SV} {ts : List SV} (hs : IsSl h s 1 ts.length ts) : decs h s = ts := by
  unfold decs
  rw [IsSl.src hs rfl]
/-- What is asked of the arguments. -/
structure SubIn (h : Heap) (sw si : SV) : Prop where
  w : IsInts h sw (dec h sw)
  i : IsSl h si 1 (decs h si).length (decs h si)
  r : ∀ t ∈ decs h si, IsInts h t (dec h t)
  b1 : (dec h sw).length ≤ 1000 ∧ ∀ x ∈ dec h sw, (Lit.int .i64 x).wf = true
  b2 : (decs h si).length ≤ 1000
  b3 : ∀ t ∈ decs h si, (dec h t).length ≤ 1000 ∧ ∀ y ∈ dec h t, -1000000000000 ≤ y ∧ y ≤ 1000000000000
def imgsOf (h : Heap) (si : SV) : List (List Int) := (decs h si).map (dec h)
section
open Classical
/-- Substitute's answer. -/
noncomputable def subRes (h : Heap) (imgs : List (List Int)) (xs : List Int) : AV × Heap :=
  if ∀ x ∈ xs, Let imgs.length x then (if imL imgs xs = [] then (.tup [.sc .nilS, .sc (.int .i64 0)], h) else (.tup [.sc (.slc h.length 0 (sub imgs xs).length none), .sc (.int .i64 0)], h ++ [.cells (ints (sub imgs xs)) true 1])) else (.tup [.sc .nilS, .sc (.int .i64 2)], h)
noncomputable def subHook : Hook := fun args h => match args with
  | [.sc sw, .sc si] => if SubIn h sw si then some (subRes h (imgsOf h si) (dec h sw)) else none
  | _ => none
end
section
variable [Base]
theorem csok_img {β : Bt} {h : Heap} {w : World} {s : SV} {v : Value} {ts : List SV} {ws : List (List Int)} (R : Rep β h w) (hx : SRel β s v) (hs : IsSl h s 1 ts.length ts) (hl : ts.length = ws.length)
    (hall : ∀ (i : Nat) (t : SV) (ys : List Int), ts[i]? = some t → ws[i]? = some ys → IsInts h t ys ∧ ∀ y ∈ ys, (Lit.int .i64 y).wf = true) : CsOK w (RVs ws) [v] :=
  csok_sl R hx hs rfl hl.symm fun vs hv => csok_rows R hv hl hall
/-- A word that is known, at the model. -/
theorem lies_ints {β : Bt} {h : Heap} {w : World} {s : SV} {v : Value} {ys : List Int} (R : Rep β h w) (hx : SRel β s v) (hs : IsInts h s ys) : ∃ a cap, v = .slice a ys.length cap ∧ Lies w.heap.size w v ys := by
  have hsrc := hs
  rcases hs with ⟨rfl, h1, h2⟩ | ⟨id, off, cap, b, rfl, h1, h2, h3, h4⟩
  · have : ys = [] := List.eq_nil_of_length_eq_zero h1
    subst this
    cases hx
    exact ⟨_, _, rfl, .inl ⟨_, _, rfl, rfl⟩⟩
  · cases hx with
    | slc hL hc hlc ho hb hn =>
      rename_i L c ad
      by_cases h0 : 0 < ys.length
      · obtain ⟨cs, rw', e2, hcut⟩ := h4 h0
        subst e2
        have hrd : readN h id off ys.length = some (ys.map (.int .i64)) := by
          unfold readN
          rw [h1]
          have e1 : ys.length * ESz.n 1 = ys.length := by show ys.length * 1 = _; omega
          rw [e1] at hcut
          exact hcut
        obtain ⟨us, u1, u2, u3⟩ := read_cells R hL hn hrd
        have had := ho (by omega)
        subst had
        refine ⟨_, _, rfl, .inr ⟨L.b, L.base + off, c, rfl, (R.blk _ _ _ _ _ h1 hL).lt, fun j hj => ?_⟩⟩
        obtain ⟨u, k1, k2⟩ := u1.get (i := j) (a := .int .i64 (ys[j]?.getD 0)) (by simp [hj])
        cases k2
        exact u3 j _ k1
      · have : ys = [] := List.eq_nil_of_length_eq_zero (by omega)
        subst this
        exact ⟨_, _, rfl, .inl ⟨_, _, rfl, rfl⟩⟩
/-- The images that are known, at the model. -/
theorem imgs_of {β : Bt} {h : Heap} {w : World} {s : SV} {v : Value} {imgs : List (List Int)} (R : Rep β h w) (hx : SRel β s v) (hs : VMx h s imgs) : ∃ a cap, v = .slice a imgs.length cap ∧ Imgs β h w a imgs := by
  obtain ⟨ts, hts, hl, hall⟩ := hs
  rcases hts with ⟨rfl, h1, h2⟩ | ⟨id, off, cap, b, rfl, h1, h2, h3, h4⟩
  · have : imgs = [] := List.eq_nil_of_length_eq_zero (by omega)
    subst this
    cases hx
    exact ⟨_, _, rfl, .inl rfl⟩
  · cases hx with
    | slc hL hc hlc ho hb hn =>
      rename_i L c ad
      rw [hl]
      by_cases h0 : 0 < ts.length
      · obtain ⟨cs, rw', e2, hcut⟩ := h4 h0
        subst e2
        have hrd : readN h id off ts.length = some ts := by
          unfold readN
          rw [h1]
          have e1 : ts.length * ESz.n 1 = ts.length := by show ts.length * 1 = _; omega
          rw [e1] at hcut
          exact hcut
        obtain ⟨us, u1, u2, u3⟩ := read_cells R hL hn hrd
        have had := ho (by omega)
        subst had
        refine ⟨_, _, rfl, .inr ⟨L.b, L.base + off, rfl, (R.blk _ _ _ _ _ h1 hL).lt, fun i ys hy => ?_⟩⟩
        have hi := (List.getElem?_eq_some_iff.1 hy).1
        obtain ⟨t, ht⟩ : ∃ t, ts[i]? = some t := ⟨_, List.getElem?_eq_getElem (by omega)⟩
        obtain ⟨u, k1, k2⟩ := u1.get ht
        have hys := hall i t ys ht hy
        obtain ⟨-, -, -, hli⟩ := lies_ints R k2 hys
        exact ⟨u, t, u3 i u k1, hys, k2, hli⟩
      · have : imgs = [] := List.eq_nil_of_length_eq_zero (by omega)
        subst this
        exact ⟨_, _, rfl, .inl rfl⟩
/-- What a stretch of the program did that wrote nothing of what was there. -/
theorem stp_below0 {β : Bt} {h : Heap} {w w' : World} (hb : Below w.heap.size w w') : Stp β h w β h w' :=
  ⟨fun _ _ h => h, fun _ _ h => .inl h, fun id h1 h2 => by omega, Nat.le_refl _, fun _ h => .inr h, fun id L h1 h2 => by rw [h1] at h2; simp at h2, fun b h _ => hb.block b h, hb.size, hb.os, hb.tape, hb.output⟩
end
end Go.Proofs.YtgmfjhmphiiifaaDoor
