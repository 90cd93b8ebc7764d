/- Inverse as a contract; HK2. -/
import Derived.Test.YtgmfjhmphiiifaaDoorB3
namespace Go.Proofs.YtgmfjhmphiiifaaDoor
open Go.RowKit Go.Shelf Go.Ab
set_option linter.unusedVariables false

def isSl : SV → Bool
  | .nilS => true
  | .slc _ _ _ _ => true
  | _ => false
def intSV : SV → Int
  | .int _ n => n
  | _ => 0
abbrev Fine (zs : List Int) : Prop := zs.length ≤ 1000000 ∧ ∀ x ∈ zs, -1000000000000 ≤ x ∧ x ≤ 1000000000000

/-- Inverse: the inverse, in memory of its own. -/
def invHook : Hook := fun args h => match args with
  | [.sc s] => match srcCells h 1 s with
    | some (n, cs) => if isSl s = true ∧ cs = ints (cs.map intSV) ∧ cs.length = n ∧ Fine (cs.map intSV) then
        some (.sc (.slc h.length 0 (invL (cs.map intSV)).length none), h ++ [.cells (ints (invL (cs.map intSV))) true 1]) else none
    | none => none
  | _ => none

theorem ints_back (zs : List Int) : (ints zs).map intSV = zs := by
  induction zs with
  | nil => rfl
  | cons z zs ih => simp only [ints, List.map_cons, intSV] at *; rw [ih]

theorem lies_of {β : Bt} {h : Heap} {w : World} {s : SV} {v : Value} {zs : List Int} (R : Rep β h w) (hx : SRel β s v) (hsl : isSl s = true) (hs : srcCells h 1 s = some (zs.length, ints zs)) :
    ∃ a cap, v = .slice a zs.length cap ∧ Lies w.heap.size w v zs := by
  cases s with
  | nilS =>
    simp [srcCells] at hs
    obtain ⟨_, rfl⟩ := hs
    cases hx
    exact ⟨_, _, rfl, .inl ⟨_, _, rfl, rfl⟩⟩
  | slc id off n cap =>
    simp only [srcCells] at hs
    split at hs
    · rename_i h0
      subst h0
      simp at hs
      obtain ⟨_, rfl⟩ := hs
      cases hx
      exact ⟨_, _, rfl, .inl ⟨_, _, rfl, rfl⟩⟩
    · simp only [Option.map_eq_some_iff, Prod.mk.injEq] at hs
      obtain ⟨us, hus, rfl, rfl⟩ := hs
      cases hx with
      | slc hL hc hl ho hb =>
        rename_i h0 L c ad
        obtain ⟨ws, e1, e2, e3⟩ := read_cells R hL hus
        have hlt : L.b < w.heap.size := by
          unfold readN at hus
          split at hus
          · rename_i hg
            exact (R.blk _ _ _ _ _ hg hL).lt
          · cases hus
        have had := ho (by omega)
        subst had
        refine ⟨_, _, rfl, .inr ⟨L.b, L.base + off, c, rfl, hlt, fun j hj => ?_⟩⟩
        obtain ⟨u, k1, k2⟩ := e1.get (i := j) (a := .int .i64 (zs[j]?.getD 0)) (by simp [ints, hj])
        cases k2
        exact e3 j _ k1
  | _ => simp [isSl] at hsl

theorem invHook_ok : HkOK Tryd.prog 19 invHook where
  fn := by kernel_rfl
  len := fun args h v h' hs => by
    unfold invHook at hs
    split at hs
    · split at hs
      · split at hs
        · simp at hs; rw [← hs.2]; simp
        · simp at hs
      · simp at hs
    · simp at hs
  run := fun args h v h' hs β w vs hvs R hf => by
    unfold invHook at hs
    split at hs
    · rename_i s
      split at hs
      · rename_i n cs hsrc
        split at hs
        · rename_i hc
          obtain ⟨c1, c2, c3, c4⟩ := hc
          generalize cs.map intSV = zs at *
          subst c2
          simp only [Option.some.injEq, Prod.mk.injEq] at hs
          obtain ⟨rfl, rfl⟩ := hs
          simp only [ints, List.length_map] at c3
          subst c3
          cases hvs with
          | cons ha hr =>
            cases hr
            cases ha with
            | sc ha =>
              obtain ⟨a, cap, rfl, hL⟩ := lies_of R ha c1 hsrc
              refine (callsIn_wide.1 (inv_in 3 (Nat.le_refl _) a zs.length cap zs rfl c4.1 c4.2 w hL)).mono ?_
              rintro e w' ⟨c, rfl, hB, cb, Bs, β2, h2, s2, R2, p1, p2, p3, p4, p5⟩
              have hR : Rep β h w' := rep_later R (fun b hb => hB.block b hb)
              have hf1 : β h.length = none := hf.one
              rcases p3 with ⟨rfl, _⟩ | ⟨id, cap2, cs2, rfl, q1, q2, q3, q4⟩
              · exact absurd rfl p4
              · cases p5 with
                | slc hL2 hc2 hl2 ho2 hb2 =>
                  rename_i L2 c2 ad
                  obtain ⟨k1, ccs, e', fz, k2, k3, k4, k5, k6, k7, k8⟩ := R2.blk _ _ _ _ _ q2 hL2
                  have hlo := (p2 _ _ hL2).1
                  have hle := upd_le (β := β) L2 hf1
                  have lt : ∀ (i : Nat) (x : Blk), h[i]? = some x → i < h.length := fun i x hx => (List.getElem?_eq_some_iff.1 hx).1
                  have hold : ∀ i, i < h.length → upd β h.length L2 i = β i := fun i hi => upd_other _ _ (by omega)
                  have hzl : (ints (invL zs)).length = (invL zs).length := by simp [ints]
                  have hpre : ∀ (i : Nat) (x : SV), (ints (invL zs))[i]? = some x → cs2[i]? = some x := fun i x hx => by
                    rw [← q3] at hx
                    rw [List.getElem?_take] at hx
                    split at hx
                    · exact hx
                    · cases hx
                  have hlen2 : (ints (invL zs)).length ≤ cs2.length := by
                    have := congrArg List.length q3
                    simp only [List.length_take] at this
                    omega
                  refine ⟨upd β h.length L2, _, rfl, .sc ?_, ?_, ?_⟩
                  · rw [← hzl]
                    exact .slc (upd_same _ _ _) (fun k hk => by cases hk) hl2 ho2 hb2
                  · refine ⟨hle, ?_, ?_, by simp, ?_, ?_, fun b hb _ => hB.block b hb, hB.size, hB.os, hB.tape, hB.output⟩
                    · intro i L hl
                      by_cases hi : i = h.length
                      · exact .inr (by simp; omega)
                      · exact .inl (by rwa [upd_other _ _ hi] at hl)
                    · intro i h1 h2
                      have : i = h.length := by simp at h2; omega
                      subst this
                      exact ⟨_, upd_same _ _ _⟩
                    · rintro b ⟨i, L, cs', esz', hg, hL', rfl⟩
                      rw [get_snoc] at hg
                      split at hg
                      · rename_i hi; subst hi; rw [upd_same] at hL'; simp at hL'; subst hL'; exact .inl hlo
                      · rw [hold i (lt _ _ hg)] at hL'
                        exact .inr ⟨i, L, cs', esz', hg, hL', rfl⟩
                    · intro i L h1 h2
                      by_cases hi : i = h.length
                      · subst hi; rw [upd_same] at h1; simp at h1; subst h1; exact .inl hlo
                      · rw [upd_other _ _ hi, h2] at h1; simp at h1
                  · refine ⟨fun i b L hg hL' => ?_, ?_, ?_⟩
                    · rw [get_snoc] at hg
                      split at hg
                      · rename_i hi; subst hi; rw [upd_same] at hL'; simp at hL' hg; subst hL' hg; exact k1
                      · rw [hold i (lt _ _ hg)] at hL'
                        exact R.sz i b L hg hL'
                    · intro i L cs' rw' esz' hg hL'
                      rw [get_snoc] at hg
                      split at hg
                      · rename_i hi; subst hi; rw [upd_same] at hL'
                        simp only [Option.some.injEq, Blk.cells.injEq] at hL' hg
                        obtain ⟨rfl, rfl, rfl⟩ := hg
                        subst hL'
                        refine ⟨k1, ccs, e', fz, k2, k3, by omega, fun j x hx => ?_, fun _ => k6 rfl, fun t ht => by simp at ht, fun t ht => by simp at ht⟩
                        obtain ⟨c', m1, m2⟩ := k5 j x (hpre j x hx)
                        refine ⟨c', m1, ?_⟩
                        simp only [ints, List.getElem?_map, Option.map_eq_some_iff] at hx
                        obtain ⟨y, -, rfl⟩ := hx
                        cases m2
                        exact .int _ _
                      · rw [hold i (lt _ _ hg)] at hL'
                        have hb := hR.blk i L cs' rw' esz' hg hL'
                        exact hb.mono hle rfl
                    · intro i j L M cs1 e1 cs2' rw2 e2 hi hj hne hL' hM
                      rw [get_snoc] at hi hj
                      split at hi
                      · rename_i hii
                        rw [if_neg (by omega)] at hj
                        subst hii
                        rw [upd_same] at hL'
                        simp at hL'
                        subst hL'
                        rw [hold j (lt _ _ hj)] at hM
                        have := (R.blk j M cs2' rw2 e2 hj hM).lt
                        omega
                      · rw [hold i (lt _ _ hi)] at hL'
                        have hli := (R.blk i L cs1 true e1 hi hL').lt
                        split at hj
                        · rename_i hjj
                          subst hjj
                          rw [upd_same] at hM
                          simp at hM
                          subst hM
                          omega
                        · rw [hold j (lt _ _ hj)] at hM
                          exact R.exc i j L M cs1 e1 cs2' rw2 e2 hi hj hne hL' hM
        · simp at hs
      · simp at hs
    · simp at hs

def HK2 : FuncId → Option Hook := fun f => if f = 19 then some invHook else HK1 f
theorem HK2_ok : HKok Tryd.prog HK2 := fun f g h => by
  unfold HK2 at h
  split at h
  · rename_i hf
    simp only [Option.some.injEq] at h
    subst hf h
    exact invHook_ok
  · exact HK1_ok f g h
theorem awake_call2 (h : Heap) : ∃ v h', Cal FT HK2 12 [] h v h' ∧ v = .sc (.bool true) ∧ h' = h := ⟨_, _, Cal.hook (g := constHook (.sc (.bool true))) rfl rfl, rfl, rfl⟩

theorem call19 (h0 : Heap) (s : SV) (zs : List Int) (hs : IsInts h0 s zs) (hz : Fine zs) :
    ∃ v h', Cal FT HK2 19 [.sc s] h0 v h' ∧ ∃ s', v = .sc s' ∧ Ab.Own h0 h' s' (ints (invL zs)) ∧ Ext h0 h' := by
  have h1 := IsInts.src hs
  have h2 : isSl s = true := by rcases hs with ⟨rfl, _⟩ | ⟨_, _, _, _, rfl, _⟩ <;> rfl
  refine ⟨.sc (.slc h0.length 0 (invL zs).length none), h0 ++ [.cells (ints (invL zs)) true 1], Cal.hook (g := invHook) rfl ?_, .slc h0.length 0 (invL zs).length none, rfl, .inr ⟨h0.length, none, ints (invL zs), by rw [List.length_map], Nat.le_refl _, by rw [List.getElem?_append_right (Nat.le_refl _)]; simp, List.take_length, ?_⟩, ⟨_, rfl⟩⟩
  · simp only [invHook, h1]
    rw [if_pos ⟨h2, by rw [ints_back], by simp, by rw [ints_back]; exact hz⟩, ints_back]
  · exact Nat.le_refl _
end Go.Proofs.YtgmfjhmphiiifaaDoor
