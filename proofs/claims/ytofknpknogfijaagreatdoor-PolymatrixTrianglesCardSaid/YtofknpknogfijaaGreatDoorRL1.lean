/- The residues of a determinant: the contract. -/
import Derived.Test.YtofknpknogfijaaGreatDoorRS3
import Derived.Test.YtofknpknogfijaaGreatDoorAb50
namespace Go.Proofs.YtofknpknogfijaaGreatDoor
open Go.Ab
set_option linter.unusedVariables false
set_option linter.unusedSimpArgs false
set_option maxRecDepth 20000
set_option maxHeartbeats 4000000
attribute [local irreducible] Qi wA Xk Xj Qz Qo QS QV
set_option linter.unusedSectionVars false
variable [HB]
def QfE (a1:AV) (q3 deg g:Nat) (H:Qa) (m:Nat) (E:Env) (h:Qa):Prop:=∃ k,k≤17∧m=17-k∧h=H∧E.keep [1,2,3,7,8]=[(1,some a1),(2,some (.sc (.int .i64 (deg:Nat)))),(3,some (.sc (.ptr q3 0))),(7,some (.sc (.int .i64 ((2 ^ k:Nat):Int)))),(8,some (u g))]
def Qh6 (a1:AV) (q3 deg g:Nat) (H:Qa) (ex:Ex) (E:Env) (h:Qa):Prop:=ex=.ex 0∧h=H∧∃ k,k≤17∧deg < 2 ^ k∧∃ a,E=[(1,some a1),(2,some (.sc (.int .i64 (deg:Nat)))),(3,some (.sc (.ptr q3 0))),(7,some (.sc (.int .i64 ((2 ^ k:Nat):Int)))),(8,some (u g)),(29,a)]
theorem QcC (a1:AV) (q3 deg g:Nat) (hd:deg≤65536) (H:Qa) (m:Nat) (E:Env) (h:Qa) (hI:QfE a1 q3 deg g H m E h) :
    wA FT HKt Qfd (E.keep [1,2,3,7,8]) h (Qo (QfE a1 q3 deg g H) m (Qh6 a1 q3 deg g H)):=by
  obtain ⟨k,hk,rfl,rfl,hE⟩:=hI
  rw [hE]
  have h17:2 ^ k≤2 ^ 17:=Nat.pow_le_pow_right (by decide) hk
  by_cases hlt:2 ^ k≤deg
  · have hk16:k < 17:=by
      rcases Nat.lt_or_ge k 17 with h | h
      · exact h
      · have:k=17:=by omega
        subst this
        have:(2:Nat) ^ 17=131072:=by decide
        omega
    have e2:((2 ^ k:Nat):Int)*2=((2 ^ (k+1):Nat):Int):=by rw [Nat.pow_succ];omega
    generalize 2 ^ k=N at *
    have hN:N≤131072:=h17
    repeat' (first | refine Qh ?_ | refine Qb ?_ | refine Qt ?_ | refine QC ?_ | refine Qn ?_ | refine Qf ?_ | ((refine Qg ?_);refine Qk rfl ?_) | ((refine Qe ?_);first | refine QU rfl rfl rfl rfl rfl ?_ | refine QM rfl rfl rfl rfl rfl rfl ?_) | ((refine Qc ?_);first | (refine YR rfl rfl (by omega) ?_;rw [e2]) | refine Qp rfl ?_ | refine YM rfl rfl (by omega) ?_))
    exact Qu (j:=17-(k+1)) (by omega) ⟨k+1,by omega,rfl,rfl,rfl⟩
  · repeat' (first | refine Qh ?_ | refine Qb ?_ | refine QP ?_ | refine QL ?_ | refine Qf ?_ | ((refine Qg ?_);refine Qj rfl ?_) | ((refine Qe ?_);refine QM rfl rfl rfl rfl rfl rfl ?_) | ((refine Qc ?_);first | refine Qp rfl ?_ | refine YD rfl rfl (by omega) ?_))
    exact QG ⟨rfl,rfl,k,hk,by omega,_,rfl⟩
def Rt1 (p s w:Nat):Prop:=Rt p s w∧(s=0→Cg p (w:Int) 1)
theorem Rt1.sq {p s w:Nat} (h:Rt1 p (s+1) w):Rt1 p s (w*w%p):=by
  refine ⟨h.1.sq,fun e=>?_⟩
  subst e
  have h1:=h.1.resolve_left (by omega)
  have h2:Cg p (w:Int) (-1):=(Cg.of_eq (by simp [Int.pow_succ])).trans h1
  refine Cg.modN.trans ?_
  rw [Int.natCast_mul]
  exact h2.mul h2
def QfH (p g q3 k deg:Nat) (a1:AV) (hb:Qa) (m:Nat) (E:Env) (h:Qa):Prop:=∃ j w,k≤j∧j≤17∧m=j-k∧w < p∧Rt1 p j w∧Ext hb h∧E.keep [1,2,3,7,8,9]=[(1,some a1),(2,some (.sc (.int .i64 (deg:Nat)))),(3,some (.sc (.ptr q3 0))),(7,some (.sc (.int .i64 ((2 ^ k:Nat):Int)))),(8,some (u w)),(9,some (.sc (.int .i64 ((2 ^ j:Nat):Int))))]
def Qh9 (p g q3 k deg:Nat) (a1:AV) (hb:Qa) (ex:Ex) (E:Env) (h:Qa):Prop:=ex=.ex 2∧Ext hb h∧∃ w,w < p∧Rt1 p k w∧∃ a b,E=[(1,some a1),(2,some (.sc (.int .i64 (deg:Nat)))),(3,some (.sc (.ptr q3 0))),(7,some (.sc (.int .i64 ((2 ^ k:Nat):Int)))),(8,some (u w)),(9,a),(34,b)]
theorem QcF (p g q3 k deg:Nat) (a1:AV) (hb:Qa) (hp:2≤p∧p < 9223372036854775808) (c3:Cel hb q3 (.int .u64 (p:Nat)) (.int .u64 (g:Nat))) (m:Nat) (E:Env) (h:Qa) (hI:QfH p g q3 k deg a1 hb m E h) :
    wA FT HKt Qfc (E.keep [1,2,3,7,8,9]) h (Qo (QfH p g q3 k deg a1 hb) m (Qh9 p g q3 k deg a1 hb)):=by
  obtain ⟨j,w,hkj,hj,rfl,hw,hr,x,hE⟩:=hI
  rw [hE]
  have c3h:=c3.ext x
  have h17:2 ^ j≤2 ^ 17:=Nat.pow_le_pow_right (by decide) hj
  have h17':(2:Nat) ^ 17=131072:=by decide
  by_cases hlt:k < j
  · obtain ⟨i,rfl⟩:∃ i,j=i+1:=⟨j-1,by omega⟩
    have hmono:2 ^ k≤2 ^ i:=Nat.pow_le_pow_right (by decide) (by omega)
    have hpos:1≤2 ^ i:=Nat.one_le_two_pow
    have e1:2 ^ (i+1)=2*2 ^ i:=by rw [Nat.pow_succ];omega
    have e2:((2*2 ^ i:Nat):Int) / 2=((2 ^ i:Nat):Int):=by omega
    rw [e1] at h17 ⊢
    have k98:=fun H=>Y5 H p g w w ⟨by omega,by omega⟩ (by omega) (by omega)
    repeat' (first | refine Qh ?_ | refine Qb ?_ | refine Qt ?_ | refine QC ?_ | refine Qn ?_ | refine Qf ?_ | ((refine Qg ?_);refine Qk rfl ?_) | ((refine Qe ?_);first | refine QM rfl rfl rfl rfl rfl rfl ?_ | refine Q7 rfl rfl rfl rfl rfl rfl rfl ?_) | ((refine Qc ?_);first | refine QN rfl c3h ?_ | (refine Qm rfl (k98 _) ?_;rintro v1 h1 ⟨x1,rfl⟩) | (refine Zz rfl rfl (by omega) ?_;rw [e2]) | refine Qp rfl ?_ | refine XA rfl rfl (by omega) ?_))
    exact Qu (j:=i-k) (by omega) ⟨i,w*w%p,by omega,by omega,rfl,Nat.mod_lt _ (by omega),hr.sq,x.trans x1,rfl⟩
  · have:j=k:=by omega
    subst this
    repeat' (first | refine Qh ?_ | refine Qb ?_ | refine QP ?_ | refine QL ?_ | refine Qf ?_ | ((refine Qg ?_);refine Qj rfl ?_) | ((refine Qe ?_);refine Q7 rfl rfl rfl rfl rfl rfl rfl ?_) | ((refine Qc ?_);first | refine Qp rfl ?_ | refine Xq rfl rfl (by omega) ?_))
    exact QG ⟨rfl,x,w,hw,hr,_,_,rfl⟩
def QfG (p g q3 N deg w pid:Nat) (a1:AV) (hb:Qa) (m:Nat) (E:Env) (h:Qa):Prop:=∃ i,i+1≤N∧m=N-(i+1)∧Ext hb h∧Bu h pid (fill (pwM p w) N (i+1))∧E.keep [1,2,3,7,8,10,11]=[(1,some a1),(2,some (.sc (.int .i64 (deg:Nat)))),(3,some (.sc (.ptr q3 0))),(7,some (.sc (.int .i64 (N:Nat)))),(8,some (u w)),(10,some (.sc (.slc pid 0 N (some N)))),(11,some (.sc (.int .i64 ((i+1:Nat):Int))))]
def Qh8 (p g q3 N deg w pid:Nat) (a1:AV) (hb:Qa) (ex:Ex) (E:Env) (h:Qa):Prop:=ex=.ex 4∧Ext hb h∧Bu h pid ((List.range N).map (pwM p w))∧∃ a b,E=[(1,some a1),(2,some (.sc (.int .i64 (deg:Nat)))),(3,some (.sc (.ptr q3 0))),(7,some (.sc (.int .i64 (N:Nat)))),(8,some (u w)),(10,some (.sc (.slc pid 0 N (some N)))),(11,a),(47,b)]
theorem QcE (p g q3 N deg w pid:Nat) (a1:AV) (hb:Qa) (hp:2≤p∧p < 9223372036854775808) (hw:w < p) (hN:N≤131072) (c3:Cel hb q3 (.int .u64 (p:Nat)) (.int .u64 (g:Nat))) (hl:hb.length≤pid) (m:Nat) (E:Env) (h:Qa) (hI:QfG p g q3 N deg w pid a1 hb m E h) :
    wA FT HKt Qfb (E.keep [1,2,3,7,8,10,11]) h (Qo (QfG p g q3 N deg w pid a1 hb) m (Qh8 p g q3 N deg w pid a1 hb)):=by
  obtain ⟨i,hi,rfl,x,b,hE⟩:=hI
  rw [hE]
  have c3h:=c3.ext x
  by_cases hlt:i+1 < N
  · have r1:=b.rd (i:=i) (by rw [YF];omega)
    have eg:(fill (pwM p w) N (i+1)).getD i 0=pwM p w i:=by
      unfold fill
      rw [List.getD_eq_getElem?_getD,List.getElem?_map,List.getElem?_range (by omega)]
      simp
    rw [eg] at r1
    have e1:(((i+1:Nat):Int)-1)=(i:Nat):=by omega
    have hpw:=QaP (p:=p) (w:=w) (by omega) i
    have k98:=fun H=>Y5 H p g (pwM p w i) w ⟨by omega,by omega⟩ (by omega) (by omega)
    have ep:pwM p w i*w%p=pwM p w (i+1):=rfl
    rw [ep] at k98
    have fs:=Zi (f:=pwM p w) hlt
    have wv:=fun h' (y:Ext h h')=>(b.ext y).wr (i:=i+1) (y:=pwM p w (i+1)) (by rw [YF];exact hlt)
    rw [fs] at wv
    clear ep
    generalize pwM p w (i+1)=W1 at *
    generalize pwM p w i=W0 at *
    repeat' (first | refine Qh ?_ | refine Qb ?_ | refine Qt ?_ | refine QC ?_ | refine Qn ?_ | refine Qf ?_ | refine Q9 ?_ | refine Xs ?_ | refine Xt ?_ | ((refine Qg ?_);refine Qk rfl ?_) | ((refine Qe ?_);first | refine Xb ?_ | refine XP ?_ | refine Q7 rfl rfl rfl rfl rfl rfl rfl ?_ | refine Q5 rfl rfl rfl rfl rfl rfl rfl rfl ?_) | ((refine Qc ?_);first | refine QN rfl c3h ?_ | (refine YY rfl rfl (by omega) ?_;rw [e1]) | refine QD (esz:=1) rfl rfl (by omega) ?_ | refine Xx rfl r1 ?_ | (refine Qm rfl (k98 _) ?_;rintro v1 h1 ⟨x1,rfl⟩) | refine Jk rfl rfl (wv _ x1) ?_ | refine Qp rfl ?_ | refine QK rfl rfl (by omega) ?_ | refine Qx rfl rfl (by omega) ?_))
    exact Qu (j:=N-(i+2)) (by omega) ⟨i+1,by omega,rfl,Ext.setF (x.trans x1) hl _,(b.ext x1).set,rfl⟩
  · have:N=i+1:=by omega
    subst this
    rw [Zb] at b
    repeat' (first | refine Qh ?_ | refine Qb ?_ | refine QP ?_ | refine QL ?_ | refine Qf ?_ | ((refine Qg ?_);refine Qj rfl ?_) | ((refine Qe ?_);refine Q5 rfl rfl rfl rfl rfl rfl rfl rfl ?_) | ((refine Qc ?_);first | refine Qp rfl ?_ | refine QH rfl rfl (by omega) ?_))
    exact QG ⟨rfl,x,b,_,_,rfl⟩
def yY (f:Nat→Nat) (cs:List Nat) (i:Nat):List Nat:=cs.mapIdx fun j x=>if j < i then f x else x
theorem V3 {f:Nat→Nat} {cs:List Nat} {i:Nat}:(yY f cs i).length=cs.length:=by simp [yY]
theorem Qc0 {f:Nat→Nat} {cs:List Nat}:yY f cs 0=cs:=by
  unfold yY
  apply List.ext_getElem?
  intro j
  rw [List.getElem?_mapIdx]
  cases cs[j]? <;> simp
theorem Qc1 {f:Nat→Nat} {cs:List Nat}:yY f cs cs.length=cs.map f:=by
  unfold yY
  apply List.ext_getElem?
  intro j
  rw [List.getElem?_mapIdx,List.getElem?_map]
  cases h:cs[j]? with
  | none=>rfl
  | some x =>
    have:=(List.getElem?_eq_some_iff.1 h).1
    simp [this]
theorem Qd5 {f:Nat→Nat} {cs:List Nat} {i:Nat} (h:i < cs.length):(yY f cs i).getD i 0=cs.getD i 0:=by
  unfold yY
  simp only [List.getD_eq_getElem?_getD,List.getElem?_mapIdx]
  rw [List.getElem?_eq_getElem h]
  simp
theorem Qd4 {f:Nat→Nat} {cs:List Nat} {i:Nat} (h:i < cs.length):(yY f cs i).set i (f (cs.getD i 0))=yY f cs (i+1):=by
  unfold yY
  apply List.ext_getElem?
  intro j
  rw [List.getElem?_set,List.getElem?_mapIdx,List.getElem?_mapIdx,List.length_mapIdx]
  by_cases e:i=j
  · subst e
    rw [if_pos rfl,if_pos h,List.getElem?_eq_getElem h,List.getD_eq_getElem?_getD,List.getElem?_eq_getElem h];simp
  · rw [if_neg e]
    cases cs[j]? with
    | none=>rfl
    | some x =>
      simp only [Option.map_some]
      by_cases h1:j < i
      · rw [if_pos h1,if_pos (by omega)]
      · rw [if_neg h1,if_neg (by omega)]
def QfJ (p g q3 N deg sc cid:Nat) (cs:List Nat) (hb:Qa) (m:Nat) (E:Env) (h:Qa):Prop:=∃ i,i≤N∧m=N-i∧Ext hb h∧Bu h cid (yY (fun x=>x*sc%p) cs i)∧E.keep [2,3,22,23,149,150]=[(2,some (.sc (.int .i64 (deg:Nat)))),(3,some (.sc (.ptr q3 0))),(22,some (.sc (.slc cid 0 N (some N)))),(23,some (u sc)),(149,some (.sc (.int .i64 (N:Nat)))),(150,some (.sc (.int .i64 (i:Nat))))]
def Qib (p g q3 N deg sc cid:Nat) (cs:List Nat) (hb:Qa) (ex:Ex) (E:Env) (h:Qa):Prop:=ex=.ex 14∧Ext hb h∧Bu h cid (cs.map fun x=>x*sc%p)∧∃ a b c d e,E=[(2,some (.sc (.int .i64 (deg:Nat)))),(3,a),(22,some (.sc (.slc cid 0 N (some N)))),(23,b),(149,c),(150,d),(151,e)]
theorem QcH (p g q3 N deg sc cid:Nat) (cs:List Nat) (hb:Qa) (hp:2≤p∧p < 9223372036854775808) (hs:sc < p) (hN:N≤131072) (hc:cs.length=N) (hcp:∀ x∈cs,x < p) (c3:Cel hb q3 (.int .u64 (p:Nat)) (.int .u64 (g:Nat))) (hl:hb.length≤cid) (m:Nat) (E:Env) (h:Qa) (hI:QfJ p g q3 N deg sc cid cs hb m E h) :
    wA FT HKt Qe6 (E.keep [2,3,22,23,149,150]) h (Qo (QfJ p g q3 N deg sc cid cs hb) m (Qib p g q3 N deg sc cid cs hb)):=by
  obtain ⟨i,hi,rfl,x,b,hE⟩:=hI
  rw [hE]
  have c3h:=c3.ext x
  by_cases hlt:i < N
  · have r1:=b.rd (i:=i) (by rw [V3];omega)
    rw [Qd5 (by omega)] at r1
    have hx:cs.getD i 0 < p:=by rw [List.getD_eq_getElem?_getD,List.getElem?_eq_getElem (by omega)];exact hcp _ (List.getElem_mem _)
    have k98:=fun H=>Y5 H p g (cs.getD i 0) sc ⟨by omega,by omega⟩ (by omega) (by omega)
    have ms:=Qd4 (f:=fun x=>x*sc%p) (cs:=cs) (i:=i) (by omega)
    have wv:=fun h' (y:Ext h h')=>(b.ext y).wr (i:=i) (y:=cs.getD i 0*sc%p) (by rw [V3];omega)
    rw [ms] at wv
    generalize cs.getD i 0=v at *
    repeat' (first | refine Qh ?_ | refine Qb ?_ | refine Qt ?_ | refine QC ?_ | refine Qn ?_ | refine Qf ?_ | refine Q9 ?_ | refine Xs ?_ | refine Xt ?_ | ((refine Qg ?_);refine Qk rfl ?_) | ((refine Qe ?_);first | refine Xb ?_ | refine XP ?_ | refine QM rfl rfl rfl rfl rfl rfl ?_ | refine Q7 rfl rfl rfl rfl rfl rfl rfl ?_) | ((refine Qc ?_);first | refine QN rfl c3h ?_ | refine QD (esz:=1) rfl rfl (by omega) ?_ | refine Xx rfl r1 ?_ | (refine Qm rfl (k98 _) ?_;rintro v1 h1 ⟨x1,rfl⟩) | refine Jk rfl rfl (wv _ x1) ?_ | refine Qp rfl ?_ | refine QK rfl rfl (by omega) ?_ | refine Qx rfl rfl (by omega) ?_))
    exact Qu (j:=N-(i+1)) (by omega) ⟨i+1,by omega,rfl,Ext.setF (x.trans x1) hl _,(b.ext x1).set,rfl⟩
  · have:i=N:=by omega
    subst this
    rw [← hc,Qc1] at b
    repeat' (first | refine Qh ?_ | refine Qb ?_ | refine QP ?_ | refine QL ?_ | refine Qf ?_ | ((refine Qg ?_);refine Qj rfl ?_) | ((refine Qe ?_);refine Q7 rfl rfl rfl rfl rfl rfl rfl ?_) | ((refine Qc ?_);refine QH rfl rfl (by omega) ?_))
    exact QG ⟨rfl,x,b,_,_,_,_,_,rfl⟩
end Go.Proofs.YtofknpknogfijaaGreatDoor


namespace Go.Proofs.YtofknpknogfijaaGreatDoor
open Go.Ab
set_option linter.unusedVariables false
set_option linter.unusedSimpArgs false
set_option maxRecDepth 20000
set_option maxHeartbeats 4000000
attribute [local irreducible] Qi wA Xk Xj Qz Qo QS QV
set_option linter.unusedSectionVars false
variable [HB]
theorem Vm {p:Nat} {inv:Nat→Nat} (hp:0 < p):∀ (m k:Nat) (rs:List (List Nat)) (d:Nat),d < p→qr p inv m k rs d < p
  | 0,k,rs,d,h=>h
  | m+1,k,rs,d,h=>by
    unfold qr
    split
    · exact hp
    · exact Vm hp _ _ _ _ (Nat.mod_lt _ hp)
theorem UW {p w N:Nat} (hN:0 < N):(List.replicate N 0).set 0 1=fill (pwM p w) N 1:=by
  rw [← Za (f:=pwM p w)]
  exact Zi (f:=pwM p w) (i:=0) hN
theorem Qg2 (p g n deg:Nat) (h0:Qa) (esl:SV) (es:List (List (List Tm))) (hp:2≤p∧p < 9223372036854775808) (hg:g < p) (hr:Rt p 17 g) (hd:deg≤65536) (hn:n < 1000000) (ee:Ents h0 esl es) (he:es.length=n) (tok:∀ r∈es,r.length=n∧∀ l∈r,l.length≤1000000∧∀ m∈l,Ub p m) :
    ∃ r h',Cal FT HKt 108 [fld p g,.sc esl,.sc (.int .i64 (deg:Nat))] h0 r h'∧Ext h0 h'∧∃ k w id,k≤17∧deg < 2 ^ k∧w < p∧Rt1 p k w∧r=.sc (.slc id 0 (deg+1) (some (2 ^ k))) ∧
      Bu h' id ((trM p k ((List.range (2 ^ k)).map (JA p (2 ^ k) n ((List.range (2 ^ k)).map (pwM p w)) es)) (XR p w)).map fun x=>x*XR p (2 ^ k)%p):=by
  refine Cal.of (F:=a108) rfl rfl rfl ?_
  repeat' (first | refine Qh ?_ | refine Qb ?_ | refine Qt ?_ | refine Qf ?_ | refine Q9 ?_ | refine Xs ?_ | refine Xt ?_ | ((refine Qe ?_);first | refine Xb ?_ | refine Qy rfl rfl rfl ?_ | refine QU rfl rfl rfl rfl rfl ?_) | ((refine Qc ?_);first | (refine QR rfl ?_;intro h1 e1 c1) | refine Xr rfl ?_ | refine Q0 rfl c1 ?_ | refine Qp rfl ?_))
  refine Q2 (QfE (.sc esl) h0.length deg g h1) 17 (Qh6 (.sc esl) h0.length deg g h1) ⟨0,by omega,rfl,rfl,rfl⟩ (QcC (.sc esl) h0.length deg g hd h1) ?_
  rintro ex E' h2 ⟨rfl,eh,k,hk,hdk,a,rfl⟩
  subst eh
  repeat' (first | refine Qh ?_ | refine Qb ?_ | refine Qt ?_ | refine QE ?_ | refine Qf ?_ | ((refine Qe ?_);refine QM rfl rfl rfl rfl rfl rfl ?_) | ((refine Qc ?_);refine Qp rfl ?_))
  refine Q2 (QfH p g h0.length k deg (.sc esl) h2) (17-k) (Qh9 p g h0.length k deg (.sc esl) h2) ⟨17,g,hk,Nat.le_refl _,rfl,hg,⟨hr,fun e=>absurd e (by decide)⟩,Ext.refl _,rfl⟩ (QcF p g h0.length k deg (.sc esl) h2 hp c1) ?_
  rintro ex E' h3 ⟨rfl,x3,w,hw,hrw,_,_,rfl⟩
  have k131:=fun H c iw cs=>Qca p g ⟨by omega,hp.2⟩ k H c iw cs (by omega)
  have tl:=fun cs iw=>ZI p k cs iw
  have tp:=fun cs iw=>y4 (p:=p) (by omega) k cs iw
  have h17:2 ^ k≤2 ^ 17:=Nat.pow_le_pow_right (by decide) hk
  have h17':(2:Nat) ^ 17=131072:=by decide
  have hpos:0 < 2 ^ k:=Nat.two_pow_pos k
  generalize hNe:2 ^ k=N at *
  have hiw:XR p w < p:=Zx 64 _ _ _ (by omega)
  have hiN:XR p N < p:=Zx 64 _ _ _ (by omega)
  repeat' (first | refine Qh ?_ | refine Qb ?_ | refine Qt ?_ | refine QE ?_ | refine Qf ?_ | ((refine Qe ?_);first | refine QM rfl rfl rfl rfl rfl rfl ?_ | refine Q7 rfl rfl rfl rfl rfl rfl rfl ?_) | ((refine Qc ?_);first | (refine Uy rfl rfl (by omega) ?_;intro h4 e4 b4) | refine QD (esz:=1) rfl rfl (by omega) ?_ | refine Jk rfl rfl (b4.wr (i:=0) (y:=1) (by simpa using hpos)) ?_ | refine Qp rfl ?_))
  have b4':=b4.set (ys:=(List.replicate N 0).set 0 1)
  rw [UW (p:=p) (w:=w) hpos] at b4' ⊢
  have x4:=Ext.setF (x3.trans e4) x3.len (.cells ((fill (pwM p w) N 1).map fun (x:Nat)=>SV.int .u64 (x:Int)) true 1)
  generalize h4.set h3.length (.cells ((fill (pwM p w) N 1).map fun (x:Nat)=>SV.int .u64 (x:Int)) true 1)=h5 at *
  refine Q2 (QfG p g h0.length N deg w h3.length (.sc esl) h2) (N-1) (Qh8 p g h0.length N deg w h3.length (.sc esl) h2) ⟨0,by omega,rfl,x4,b4',rfl⟩ (QcE p g h0.length N deg w h3.length (.sc esl) h2 hp hw (by omega) c1 x3.len) ?_
  rintro ex E' h6 ⟨rfl,x6,b6,_,_,rfl⟩
  have hpl:((List.range N).map (pwM p w)).length=N:=by simp
  have hpp:∀ x∈(List.range N).map (pwM p w),x < p:=fun x hx=>by
    obtain ⟨i,-,rfl⟩:=List.mem_map.1 hx
    exact QaP (by omega) i
  generalize hpe:(List.range N).map (pwM p w)=pws at *
  repeat' (first | refine Qh ?_ | refine Qb ?_ | refine Qt ?_ | refine QE ?_ | refine Qf ?_ | ((refine Qe ?_);first | refine Q7 rfl rfl rfl rfl rfl rfl rfl ?_ | refine Q6 rfl rfl rfl rfl rfl rfl rfl rfl rfl ?_) | ((refine Qc ?_);first | (refine Uy rfl rfl (by omega) ?_;intro h7 e7 b7) | refine QA rfl rfl ?_ | refine Qp rfl ?_))
  refine Q2 (QfK p g h0.length N h3.length h6.length n pws es esl (.sc (.int .i64 (deg:Nat))) (u w) h6) N (Qic p g h0.length N h3.length h6.length n pws es (.sc (.int .i64 (deg:Nat))) (u w) h6) ⟨0,Nat.zero_le _,rfl,e7,by rw [Za];exact b7,rfl⟩
    (QcI p g h0.length N h3.length h6.length n pws es esl (.sc (.int .i64 (deg:Nat))) (u w) h6 hp ⟨hpos,by omega⟩ hn (c1.ext x6) b6 hpl hpp ((ee.ext e1).ext x6) he tok (Nat.le_refl _)) ?_
  rintro ex E' h8 ⟨rfl,x8,b8,_,_,_,_,_,rfl⟩
  have hvl:((List.range N).map (JA p N n pws es)).length=N:=by simp
  have hvp:∀ x∈(List.range N).map (JA p N n pws es),x < p:=fun x hx=>by
    obtain ⟨i,-,rfl⟩:=List.mem_map.1 hx
    exact Vm (by omega) _ _ _ _ (by omega)
  generalize hve:(List.range N).map (JA p N n pws es)=vs at *
  have tl:=tl vs (XR p w) hvl
  have tp:=tp vs (XR p w) hvl hvp
  have k131:=fun H (b:Bu H h6.length vs)=>k131 H h6.length (XR p w) vs b hvl hvp hiw
  generalize hce:trM p k vs (XR p w)=cs at *
  have k121a:=fun H=>zj H p g w ⟨hp.1,by omega⟩ (by omega)
  have k121b:=fun H=>zj H p g N ⟨hp.1,by omega⟩ (by omega)
  generalize hie:XR p w=iw at *
  generalize hse:XR p N=sc at *
  have c8:=(c1.ext x6).ext x8
  repeat' (first | refine Qh ?_ | refine Qb ?_ | refine Qt ?_ | refine QE ?_ | refine Qf ?_ | refine Q9 ?_ | refine Xs ?_ | refine Xt ?_ | ((refine Qe ?_);first | refine Xb ?_ | refine XP ?_ | refine Xi (by assumption) ?_ | refine QQ rfl rfl rfl rfl ?_ | refine QM rfl rfl rfl rfl rfl rfl ?_) | ((refine Qc ?_);first | refine QN rfl c8 ?_ | (refine Qm rfl (k121a _) ?_;rintro v9 h9 ⟨e9,rfl⟩;replace c8:=c8.ext e9;have b9:=b8.ext e9) | (refine Qm rfl (k131 _ b9) ?_;rintro v10 h10 ⟨e10,cid,lc,rfl,b10⟩;have c9:=c8;replace c8:=c8.ext e10) | refine zT rfl (by omega) ?_ | (refine Qm rfl (k121b _) ?_;rintro v11 h11 ⟨e11,rfl⟩) | refine QA rfl rfl ?_ | refine Qp rfl ?_))
  refine Q2 (QfJ p g h0.length N deg sc cid cs h9) N (Qib p g h0.length N deg sc cid cs h9) ⟨0,Nat.zero_le _,rfl,e10.trans e11,by rw [Qc0];exact b10.ext e11,rfl⟩ (QcH p g h0.length N deg sc cid cs h9 hp hiN (by omega) tl tp c9 lc) ?_
  rintro ex E' h12 ⟨rfl,x12,b12,_,_,_,_,_,rfl⟩
  have hsl:Je 0 ((deg:Int)+1).toNat (.slc cid 0 N (some N))=some (.slc cid 0 (deg+1) (some N)):=by
    have e:((deg:Int)+1).toNat=deg+1:=by omega
    simp only [Je,e]
    rw [if_pos (by omega)]
    rfl
  repeat' (first | refine Qh ?_ | refine Qb ?_ | refine QE ?_ | refine Qs ?_ | refine Qf ?_ | ((refine Qe ?_);refine Qr rfl ?_) | ((refine Qc ?_);first | refine k_to rfl rfl rfl (by omega) hsl ?_ | refine Qp rfl ?_ | refine QK rfl rfl (by omega) ?_))
  exact ⟨.inr rfl,((((e1.trans x6).trans x8).trans e9).trans x12),k,w,cid,hk,by rw [hNe];exact hdk,hw,hrw,by rw [hNe];rfl,by rw [hNe,hpe,hve,hie,hce,hse];exact b12⟩
end Go.Proofs.YtofknpknogfijaaGreatDoor


namespace Go.Proofs.YtofknpknogfijaaGreatDoor
open Go.Ab
set_option linter.unusedVariables false
set_option linter.unusedSectionVars false
variable [HB]
def evT (x:Int):List Tm→Int
  | []=>0
  | t::l=>t.2*x ^ t.1.toNat+evT x l
def evR (x:Int) (r:List (List Tm)):Row:=fun c=>evT x (r.getD c [])
theorem QdV {p w N:Nat} (h:Cg p ((w:Int) ^ N) 1) (m:Nat):Cg p ((w:Int) ^ (m%N)) ((w:Int) ^ m):=by
  have e:(w:Int) ^ m=(w:Int) ^ (m%N)*((w:Int) ^ N) ^ (m / N):=by rw [← Int.pow_mul,← Int.pow_add,Nat.mod_add_div]
  rw [e]
  have:=(h.pow (m / N)).trans (Cg.of_eq (Y4 _))
  exact (Cg.of_eq (Int.mul_one _).symm).trans (Cg.rfl.mul this.symm)
theorem Qgq {p w N i:Nat} (h:i < N):((List.range N).map (pwM p w)).getD i 0=pwM p w i:=by
  rw [List.getD_eq_getElem?_getD,List.getElem?_map,List.getElem?_range h];rfl
theorem Qhb {p w N t x:Nat} {m:Tm} (hN:0 < N) (h:Cg p ((w:Int) ^ N) 1) (ok:Ub p m):Cg p (Qdg p N t ((List.range N).map (pwM p w)) x m:Nat) ((x:Int)+m.2*((w:Int) ^ t) ^ m.1.toNat):=by
  unfold Qdg
  rw [Qgq (Nat.mod_lt _ hN)]
  refine adM_cg.trans (Cg.rfl.add (Cg.modN.trans ?_))
  rw [Int.natCast_mul]
  refine (QaS ok.2.2).mul ((US _).trans ((QdV h _).trans (Cg.of_eq ?_)))
  rw [← Int.pow_mul,Nat.mul_comm]
theorem QjZ {p w N t:Nat} (hN:0 < N) (h:Cg p ((w:Int) ^ N) 1) {l:List Tm} (ok:∀ m∈l,Ub p m):Cg p (acc p N t ((List.range N).map (pwM p w)) l:Nat) (evT ((w:Int) ^ t) l):=by
  have key:∀ (l:List Tm) (x:Nat),(∀ m∈l,Ub p m)→Cg p (l.foldl (Qdg p N t ((List.range N).map (pwM p w))) x:Nat) ((x:Int)+evT ((w:Int) ^ t) l):=by
    intro l
    induction l with
    | nil=>intro x _;exact Cg.of_eq (by simp [evT])
    | cons m l ih =>
      intro x hx
      rw [List.foldl_cons]
      refine (ih _ fun y hy=>hx y (.tail _ hy)).trans (((Qhb hN h (hx m (.head _))).add Cg.rfl).trans (Cg.of_eq (Int.add_assoc _ _ _)))
  exact (key l 0 ok).trans (Cg.of_eq (by simp))
theorem Qbz {p w N t n:Nat} (hN:0 < N) (h:Cg p ((w:Int) ^ N) 1):∀ {es:List (List (List Tm))},(∀ r∈es,r.length=n∧∀ l∈r,∀ m∈l,Ub p m)→RsCg p (List.range' 0 n) ((es.map (qF p N t ((List.range N).map (pwM p w)))).map rw_) (es.map (evR ((w:Int) ^ t)))
  | [],_=>.nil
  | r::es,hs=>by
    refine .cons (fun c hc=>?_) (Qbz hN h fun r hr=>hs r (.tail _ hr))
    rw [List.mem_range'_1] at hc
    obtain ⟨l1,l2⟩:=hs r (.head _)
    obtain ⟨l,hl⟩:∃ l,r[c]?=some l:=⟨_,List.getElem?_eq_getElem (by omega)⟩
    have e1:rw_ (qF p N t ((List.range N).map (pwM p w)) r) c=((acc p N t ((List.range N).map (pwM p w)) l:Nat):Int):=by
      unfold rw_ qF
      rw [List.getD_eq_getElem?_getD,List.getElem?_map,hl];rfl
    have e2:evR ((w:Int) ^ t) r c=evT ((w:Int) ^ t) l:=by
      unfold evR
      rw [List.getD_eq_getElem?_getD,hl];rfl
    rw [e1,e2]
    exact QjZ hN h (l2 l (List.mem_of_getElem? hl))
theorem QdB {N n:Nat} (f:Nat→Int) (h:n≤N) (hz:∀ j,n≤j→f j=0):sm N f=sm n f:=by
  obtain ⟨k,rfl⟩:∃ k,N=n+k:=⟨N-n,by omega⟩
  induction k with
  | zero=>rfl
  | succ k ih =>
    have:sm (n+(k+1)) f=sm (n+k) f+f (n+k):=rfl
    rw [this,ih (by omega),hz _ (by omega)];omega
theorem Rt1.pos {p k w:Nat} (hp:1 < p) (h:Rt1 p k w):0 < w:=by
  rcases Nat.eq_zero_or_pos w with e | e
  · exfalso
    subst e
    rcases h.1 with h1 | h1
    · have:=(h.2 h1).eq (by show ((0:Int)-1).natAbs < p;simp;omega)
      simp at this
    · rw [show ((0:Nat):Int) ^ 2 ^ (k-1)=0 from Int.zero_pow (Nat.pos_iff_ne_zero.1 (Nat.two_pow_pos _))] at h1
      have:=h1.eq (by show ((0:Int) - -1).natAbs < p;simp;omega)
      omega
  · exact e
theorem FOK.cg {p:Nat} {inv:Nat→Nat} (hF:FOK p inv) {a:Nat} (h0:0 < a) (h1:a < p):Cg p ((a:Int)*(inv a:Nat)) 1:=by
  have:Cg p ((a*inv a:Nat):Int) ((1:Nat):Int):=by rw [← hF a h0 h1];exact Cg.modN.symm
  rwa [Int.natCast_mul] at this
theorem resid {p k w n deg:Nat} {es:List (List (List Tm))} {d:Nat→Int} (hF:FOK p (XR p)) (hp:262144 < p) (hk:k≤17) (hw:w < p) (hr:Rt1 p k w) (hd:deg < 2 ^ k) (he:es.length=n) (tok:∀ r∈es,r.length=n∧∀ l∈r,∀ m∈l,Ub p m)
    (hD:∀ x:Int,D (es.map (evR x)) (List.range' 0 n)=sm (deg+1) fun j=>d j*x ^ j) (j:Nat) (hj:j≤deg) :
    (((trM p k ((List.range (2 ^ k)).map (JA p (2 ^ k) n ((List.range (2 ^ k)).map (pwM p w)) es)) (XR p w)).map fun x=>x*XR p (2 ^ k)%p).getD j 0) < p ∧
    Cg p (((trM p k ((List.range (2 ^ k)).map (JA p (2 ^ k) n ((List.range (2 ^ k)).map (pwM p w)) es)) (XR p w)).map fun x=>x*XR p (2 ^ k)%p).getD j 0:Nat) (d j):=by
  have hN:0 < 2 ^ k:=Nat.two_pow_pos k
  have h17:2 ^ k≤2 ^ 17:=Nat.pow_le_pow_right (by decide) hk
  have h17':(2:Nat) ^ 17=131072:=by decide
  have htop:=hr.1.top hr.2
  have hwp:=hr.pos (by omega)
  have hval:∀ t,Cg p (JA p (2 ^ k) n ((List.range (2 ^ k)).map (pwM p w)) es t:Nat) (sm (2 ^ k) fun j=>(if j≤deg then d j else 0)*(w:Int) ^ (j*t)):=fun t=>by
    have hs:=UF hF (by omega) n n 0 (es.map (qF p (2 ^ k) t ((List.range (2 ^ k)).map (pwM p w)))) 1 rfl (by simpa using he) (fun r hr=>by
      obtain ⟨y,hy,rfl⟩:=List.mem_map.1 hr
      refine ⟨by unfold qF;rw [List.length_map];exact (tok y hy).1,fun x hx=>?_⟩
      obtain ⟨l,hl,rfl⟩:=List.mem_map.1 hx
      exact Qbh (by omega)) (by omega)
    refine hs.2.trans ((Cg.of_eq (Int.one_mul _)).trans ((QfQ (Qbz hN htop tok)).trans (Cg.of_eq ?_)))
    rw [hD,QdB (n:=deg+1) (fun j=>(if j≤deg then d j else 0)*(w:Int) ^ (j*t)) (by omega) fun j hj=>by rw [if_neg (by omega),Int.zero_mul]]
    refine YO fun j hj=>?_
    rw [if_pos (by omega),← Int.pow_mul,Nat.mul_comm]
  have hdft:=QgR hF (by omega) hr.1 (hF.cg hwp hw) ((List.range (2 ^ k)).map (JA p (2 ^ k) n ((List.range (2 ^ k)).map (pwM p w)) es)) (by simp) (fun x hx=>by
    obtain ⟨i,-,rfl⟩:=List.mem_map.1 hx
    exact Vm (by omega) _ _ _ _ (by omega)) (fun j=>if j≤deg then d j else 0) (fun t ht=>by
    rw [List.getD_eq_getElem?_getD,List.getElem?_map,List.getElem?_range ht]
    exact hval t) j (by omega)
  have hlen:=ZI p k ((List.range (2 ^ k)).map (JA p (2 ^ k) n ((List.range (2 ^ k)).map (pwM p w)) es)) (XR p w) (by simp)
  generalize trM p k ((List.range (2 ^ k)).map (JA p (2 ^ k) n ((List.range (2 ^ k)).map (pwM p w)) es)) (XR p w)=xs at *
  have ej:(xs.map fun x=>x*XR p (2 ^ k)%p).getD j 0=xs.getD j 0*XR p (2 ^ k)%p:=by
    rw [List.getD_eq_getElem?_getD,List.getD_eq_getElem?_getD,List.getElem?_map,List.getElem?_eq_getElem (by omega)];rfl
  rw [ej]
  refine ⟨Nat.mod_lt _ (by omega),Cg.modN.trans ?_⟩
  rw [Int.natCast_mul]
  rw [if_pos hj] at hdft
  refine (hdft.mul Cg.rfl).trans ((Cg.of_eq ?_).trans (((hF.cg hN (by omega)).mul Cg.rfl).trans (Cg.of_eq (Int.one_mul _))))
  rw [Int.mul_right_comm]
end Go.Proofs.YtofknpknogfijaaGreatDoor


