/- Step by step through a region that draws its order. -/
import Derived.Test.YtadelcikpkhclaaDoorAb22
namespace Go.Ab
set_option linter.unusedVariables false
section
variable {FT : FuncId → Option AFun} {HK : FuncId → Option Hook} {E : Env} {h h' : Heap} {K : Env → Heap → Prop} {r : List (AOp × Nat × Bool)} {Q : Ex → Env → Heap → Prop}

theorem d_one {o : AOp} {i : Nat} {ord : Bool} (hw : wOps FT HK [o] E h (fun E' h' => (ord = true ∨ h'.take h.length = h) ∧ wOpsD FT HK r E' h' K)) : wOpsD FT HK ((o, i, ord) :: r) E h K := hw

/-- Memory is as it was. -/
theorem d_same {E' : Env} {ord : Bool} (hw : wOpsD FT HK r E' h K) : wOps FT HK [] E' h (fun E' h' => (ord = true ∨ h'.take h.length = h) ∧ wOpsD FT HK r E' h' K) := ⟨.inr (List.take_length), hw⟩

theorem Ext.take {a b : Heap} (he : Ext a b) : b.take a.length = a := by
  obtain ⟨t, rfl⟩ := he
  exact List.take_left

/-- Memory has grown. -/
theorem d_ext {E' : Env} {ord : Bool} (he : Ext h h') (hw : wOpsD FT HK r E' h' K) : wOps FT HK [] E' h' (fun E' h' => (ord = true ∨ h'.take h.length = h) ∧ wOpsD FT HK r E' h' K) := ⟨.inr he.take, hw⟩

/-- It is ordered against all others. -/
theorem d_ord {E' : Env} (hw : wOpsD FT HK r E' h' K) : wOps FT HK [] E' h' (fun E' h' => (true = true ∨ h'.take h.length = h) ∧ wOpsD FT HK r E' h' K) := ⟨.inl rfl, hw⟩

theorem w_opsD {ops : List (AOp × Nat × Bool)} {ks : List Nat} (hw : wOpsD FT HK ops E h (fun E' h' => Q .nm (E'.keep ks) h')) : wA FT HK (.regd ops ks) E h Q := hw
theorem w_endD {ks : List Nat} {E' : Env} (hk : E.keep ks = E') (hq : Q .nm E' h) : wOpsD FT HK [] E h (fun E' h' => Q .nm (E'.keep ks) h') := by
  subst hk; exact hq
theorem keep_n {k : Nat} {ks : List Nat} {F : Env} (h1 : E.get k = none) (h2 : E.keep ks = F) : E.keep (k :: ks) = (k, none) :: F := by
  rw [keep_cons, h1, h2]
end
end Go.Ab
