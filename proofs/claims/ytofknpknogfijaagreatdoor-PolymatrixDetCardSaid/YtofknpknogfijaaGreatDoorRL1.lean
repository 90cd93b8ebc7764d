/- The residues of a determinant: the contract. -/
import Derived.Test.YtofknpknogfijaaGreatDoorRS3
import Derived.Test.YtofknpknogfijaaGreatDoorAb50
namespace Go.Proofs.YtofknpknogfijaaGreatDoor
open Go.Ab
set_option linter.unusedVariables false
set_option linter.unusedSimpArgs false
set_option maxRecDepth 20000
set_option maxHeartbeats 4000000
attribute [local irreducible] Qj wA Xm Xk QI Qo QW QV
set_option linter.unusedSectionVars false
variable [HB]
def QgC (a1:AV) (q3 deg g:Nat) (H:Qa) (m:Nat) (E:Env) (h:Qa):Prop:=∃ k,k≤17∧m=17-k∧h=H∧E.keep [1,2,3,7,8]=[(1,some a1),(2,some (.sc (.int .i64 (deg:Nat)))),(3,some (.sc (.ptr q3 0))),(7,some (.sc (.int .i64 ((2 ^ k:Nat):Int)))),(8,some (u g))]
def QjF (a1:AV) (q3 deg g:Nat) (H:Qa) (ex:Ex) (E:Env) (h:Qa):Prop:=ex=.ex 0∧h=H∧∃ k,k≤17∧deg < 2 ^ k∧∃ a,E=[(1,some a1),(2,some (.sc (.int .i64 (deg:Nat)))),(3,some (.sc (.ptr q3 0))),(7,some (.sc (.int .i64 ((2 ^ k:Nat):Int)))),(8,some (u g)),(29,a)]
theorem Qdb (a1:AV) (q3 deg g:Nat) (hd:deg≤65536) (H:Qa) (m:Nat) (E:Env) (h:Qa) (hI:QgC a1 q3 deg g H m E h) :
    wA FT HKt Qga (E.keep [1,2,3,7,8]) h (Qo (QgC a1 q3 deg g H) m (QjF a1 q3 deg g H)):=by
  obtain ⟨k,hk,rfl,rfl,hE⟩:=hI
  rw [hE]
  have h17:2 ^ k≤2 ^ 17:=Nat.pow_le_pow_right (by decide) hk
  by_cases hlt:2 ^ k≤deg
  · have hk16:k < 17:=by
      rcases Nat.lt_or_ge k 17 with h | h
      · exact h
      · have:k=17:=by omega
        subst this
        have:(2:Nat) ^ 17=131072:=by decide
        omega
    have e2:((2 ^ k:Nat):Int)*2=((2 ^ (k+1):Nat):Int):=by rw [Nat.pow_succ];omega
    generalize 2 ^ k=N at *
    have hN:N≤131072:=h17
    repeat' (first | refine Qg ?_ | refine Qb ?_ | refine Qt ?_ | refine QG ?_ | refine Qp ?_ | refine Qf ?_ | ((refine Qh ?_);refine Qk rfl ?_) | ((refine Qe ?_);first | refine QO rfl rfl rfl rfl rfl ?_ | refine QD rfl rfl rfl rfl rfl rfl ?_) | ((refine Qc ?_);first | (refine ZJ rfl rfl (by omega) ?_;rw [e2]) | refine Qm rfl ?_ | refine Zj rfl rfl (by omega) ?_))
    exact Qs (j:=17-(k+1)) (by omega) ⟨k+1,by omega,rfl,rfl,rfl⟩
  · repeat' (first | refine Qg ?_ | refine Qb ?_ | refine QK ?_ | refine QH ?_ | refine Qf ?_ | ((refine Qh ?_);refine Qi rfl ?_) | ((refine Qe ?_);refine QD rfl rfl rfl rfl rfl rfl ?_) | ((refine Qc ?_);first | refine Qm rfl ?_ | refine Y4 rfl rfl (by omega) ?_))
    exact Qz ⟨rfl,rfl,k,hk,by omega,_,rfl⟩
def Rt1 (p s w:Nat):Prop:=Rt p s w∧(s=0→Cg p (w:Int) 1)
theorem Rt1.sq {p s w:Nat} (h:Rt1 p (s+1) w):Rt1 p s (w*w%p):=by
  refine ⟨h.1.sq,fun e=>?_⟩
  subst e
  have h1:=h.1.resolve_left (by omega)
  have h2:Cg p (w:Int) (-1):=(Cg.of_eq (by simp [Int.pow_succ])).trans h1
  refine Cg.modN.trans ?_
  rw [Int.natCast_mul]
  exact h2.mul h2
def QgF (p g q3 k deg:Nat) (a1:AV) (hb:Qa) (m:Nat) (E:Env) (h:Qa):Prop:=∃ j w,k≤j∧j≤17∧m=j-k∧w < p∧Rt1 p j w∧Ext hb h∧E.keep [1,2,3,7,8,9]=[(1,some a1),(2,some (.sc (.int .i64 (deg:Nat)))),(3,some (.sc (.ptr q3 0))),(7,some (.sc (.int .i64 ((2 ^ k:Nat):Int)))),(8,some (u w)),(9,some (.sc (.int .i64 ((2 ^ j:Nat):Int))))]
def QjI (p g q3 k deg:Nat) (a1:AV) (hb:Qa) (ex:Ex) (E:Env) (h:Qa):Prop:=ex=.ex 2∧Ext hb h∧∃ w,w < p∧Rt1 p k w∧∃ a b,E=[(1,some a1),(2,some (.sc (.int .i64 (deg:Nat)))),(3,some (.sc (.ptr q3 0))),(7,some (.sc (.int .i64 ((2 ^ k:Nat):Int)))),(8,some (u w)),(9,a),(34,b)]
theorem Qde (p g q3 k deg:Nat) (a1:AV) (hb:Qa) (hp:2≤p∧p < 9223372036854775808) (c3:Cel hb q3 (.int .u64 (p:Nat)) (.int .u64 (g:Nat))) (m:Nat) (E:Env) (h:Qa) (hI:QgF p g q3 k deg a1 hb m E h) :
    wA FT HKt Qf9 (E.keep [1,2,3,7,8,9]) h (Qo (QgF p g q3 k deg a1 hb) m (QjI p g q3 k deg a1 hb)):=by
  obtain ⟨j,w,hkj,hj,rfl,hw,hr,x,hE⟩:=hI
  rw [hE]
  have c3h:=c3.ext x
  have h17:2 ^ j≤2 ^ 17:=Nat.pow_le_pow_right (by decide) hj
  have h17':(2:Nat) ^ 17=131072:=by decide
  by_cases hlt:k < j
  · obtain ⟨i,rfl⟩:∃ i,j=i+1:=⟨j-1,by omega⟩
    have hmono:2 ^ k≤2 ^ i:=Nat.pow_le_pow_right (by decide) (by omega)
    have hpos:1≤2 ^ i:=Nat.one_le_two_pow
    have e1:2 ^ (i+1)=2*2 ^ i:=by rw [Nat.pow_succ];omega
    have e2:((2*2 ^ i:Nat):Int) / 2=((2 ^ i:Nat):Int):=by omega
    rw [e1] at h17 ⊢
    have k98:=fun H=>YY H p g w w ⟨by omega,by omega⟩ (by omega) (by omega)
    repeat' (first | refine Qg ?_ | refine Qb ?_ | refine Qt ?_ | refine QG ?_ | refine Qp ?_ | refine Qf ?_ | ((refine Qh ?_);refine Qk rfl ?_) | ((refine Qe ?_);first | refine QD rfl rfl rfl rfl rfl rfl ?_ | refine Q4 rfl rfl rfl rfl rfl rfl rfl ?_) | ((refine Qc ?_);first | refine Xa rfl c3h ?_ | (refine Qn rfl (k98 _) ?_;rintro v1 h1 ⟨x1,rfl⟩) | (refine Jn rfl rfl (by omega) ?_;rw [e2]) | refine Qm rfl ?_ | refine XG rfl rfl (by omega) ?_))
    exact Qs (j:=i-k) (by omega) ⟨i,w*w%p,by omega,by omega,rfl,Nat.mod_lt _ (by omega),hr.sq,x.trans x1,rfl⟩
  · have:j=k:=by omega
    subst this
    repeat' (first | refine Qg ?_ | refine Qb ?_ | refine QK ?_ | refine QH ?_ | refine Qf ?_ | ((refine Qh ?_);refine Qi rfl ?_) | ((refine Qe ?_);refine Q4 rfl rfl rfl rfl rfl rfl rfl ?_) | ((refine Qc ?_);first | refine Qm rfl ?_ | refine XA rfl rfl (by omega) ?_))
    exact Qz ⟨rfl,x,w,hw,hr,_,_,rfl⟩
def QgE (p g q3 N deg w pid:Nat) (a1:AV) (hb:Qa) (m:Nat) (E:Env) (h:Qa):Prop:=∃ i,i+1≤N∧m=N-(i+1)∧Ext hb h∧Bu h pid (fill (pwM p w) N (i+1))∧E.keep [1,2,3,7,8,10,11]=[(1,some a1),(2,some (.sc (.int .i64 (deg:Nat)))),(3,some (.sc (.ptr q3 0))),(7,some (.sc (.int .i64 (N:Nat)))),(8,some (u w)),(10,some (.sc (.slc pid 0 N (some N)))),(11,some (.sc (.int .i64 ((i+1:Nat):Int))))]
def QjH (p g q3 N deg w pid:Nat) (a1:AV) (hb:Qa) (ex:Ex) (E:Env) (h:Qa):Prop:=ex=.ex 4∧Ext hb h∧Bu h pid ((List.range N).map (pwM p w))∧∃ a b,E=[(1,some a1),(2,some (.sc (.int .i64 (deg:Nat)))),(3,some (.sc (.ptr q3 0))),(7,some (.sc (.int .i64 (N:Nat)))),(8,some (u w)),(10,some (.sc (.slc pid 0 N (some N)))),(11,a),(47,b)]
theorem Qdd (p g q3 N deg w pid:Nat) (a1:AV) (hb:Qa) (hp:2≤p∧p < 9223372036854775808) (hw:w < p) (hN:N≤131072) (c3:Cel hb q3 (.int .u64 (p:Nat)) (.int .u64 (g:Nat))) (hl:hb.length≤pid) (m:Nat) (E:Env) (h:Qa) (hI:QgE p g q3 N deg w pid a1 hb m E h) :
    wA FT HKt Qf8 (E.keep [1,2,3,7,8,10,11]) h (Qo (QgE p g q3 N deg w pid a1 hb) m (QjH p g q3 N deg w pid a1 hb)):=by
  obtain ⟨i,hi,rfl,x,b,hE⟩:=hI
  rw [hE]
  have c3h:=c3.ext x
  by_cases hlt:i+1 < N
  · have r1:=b.rd (i:=i) (by rw [YA];omega)
    have eg:(fill (pwM p w) N (i+1)).getD i 0=pwM p w i:=by
      unfold fill
      rw [List.getD_eq_getElem?_getD,List.getElem?_map,List.getElem?_range (by omega)]
      simp
    rw [eg] at r1
    have e1:(((i+1:Nat):Int)-1)=(i:Nat):=by omega
    have hpw:=Qbr (p:=p) (w:=w) (by omega) i
    have k98:=fun H=>YY H p g (pwM p w i) w ⟨by omega,by omega⟩ (by omega) (by omega)
    have ep:pwM p w i*w%p=pwM p w (i+1):=rfl
    rw [ep] at k98
    have fs:=Zd (f:=pwM p w) hlt
    have wv:=fun h' (y:Ext h h')=>(b.ext y).wr (i:=i+1) (y:=pwM p w (i+1)) (by rw [YA];exact hlt)
    rw [fs] at wv
    clear ep
    generalize pwM p w (i+1)=W1 at *
    generalize pwM p w i=W0 at *
    repeat' (first | refine Qg ?_ | refine Qb ?_ | refine Qt ?_ | refine QG ?_ | refine Qp ?_ | refine Qf ?_ | refine Xb ?_ | refine Xq ?_ | refine Xr ?_ | ((refine Qh ?_);refine Qk rfl ?_) | ((refine Qe ?_);first | refine Xd ?_ | refine XI ?_ | refine Q4 rfl rfl rfl rfl rfl rfl rfl ?_ | refine Q8 rfl rfl rfl rfl rfl rfl rfl rfl ?_) | ((refine Qc ?_);first | refine Xa rfl c3h ?_ | (refine ZI rfl rfl (by omega) ?_;rw [e1]) | refine Qx (esz:=1) rfl rfl (by omega) ?_ | refine Q2 rfl r1 ?_ | (refine Qn rfl (k98 _) ?_;rintro v1 h1 ⟨x1,rfl⟩) | refine Ja rfl rfl (wv _ x1) ?_ | refine Qm rfl ?_ | refine QM rfl rfl (by omega) ?_ | refine Qw rfl rfl (by omega) ?_))
    exact Qs (j:=N-(i+2)) (by omega) ⟨i+1,by omega,rfl,Ext.setF (x.trans x1) hl _,(b.ext x1).set,rfl⟩
  · have:N=i+1:=by omega
    subst this
    rw [Y6] at b
    repeat' (first | refine Qg ?_ | refine Qb ?_ | refine QK ?_ | refine QH ?_ | refine Qf ?_ | ((refine Qh ?_);refine Qi rfl ?_) | ((refine Qe ?_);refine Q8 rfl rfl rfl rfl rfl rfl rfl rfl ?_) | ((refine Qc ?_);first | refine Qm rfl ?_ | refine QE rfl rfl (by omega) ?_))
    exact Qz ⟨rfl,x,b,_,_,rfl⟩
def zb (f:Nat→Nat) (cs:List Nat) (i:Nat):List Nat:=cs.mapIdx fun j x=>if j < i then f x else x
theorem QaF {f:Nat→Nat} {cs:List Nat} {i:Nat}:(zb f cs i).length=cs.length:=by simp [zb]
theorem Qdy {f:Nat→Nat} {cs:List Nat}:zb f cs 0=cs:=by
  unfold zb
  apply List.ext_getElem?
  intro j
  rw [List.getElem?_mapIdx]
  cases cs[j]? <;> simp
theorem Qdz {f:Nat→Nat} {cs:List Nat}:zb f cs cs.length=cs.map f:=by
  unfold zb
  apply List.ext_getElem?
  intro j
  rw [List.getElem?_mapIdx,List.getElem?_map]
  cases h:cs[j]? with
  | none=>rfl
  | some x =>
    have:=(List.getElem?_eq_some_iff.1 h).1
    simp [this]
theorem QeQ {f:Nat→Nat} {cs:List Nat} {i:Nat} (h:i < cs.length):(zb f cs i).getD i 0=cs.getD i 0:=by
  unfold zb
  simp only [List.getD_eq_getElem?_getD,List.getElem?_mapIdx]
  rw [List.getElem?_eq_getElem h]
  simp
theorem QeP {f:Nat→Nat} {cs:List Nat} {i:Nat} (h:i < cs.length):(zb f cs i).set i (f (cs.getD i 0))=zb f cs (i+1):=by
  unfold zb
  apply List.ext_getElem?
  intro j
  rw [List.getElem?_set,List.getElem?_mapIdx,List.getElem?_mapIdx,List.length_mapIdx]
  by_cases e:i=j
  · subst e
    rw [if_pos rfl,if_pos h,List.getElem?_eq_getElem h,List.getD_eq_getElem?_getD,List.getElem?_eq_getElem h];simp
  · rw [if_neg e]
    cases cs[j]? with
    | none=>rfl
    | some x =>
      simp only [Option.map_some]
      by_cases h1:j < i
      · rw [if_pos h1,if_pos (by omega)]
      · rw [if_neg h1,if_neg (by omega)]
def QgH (p g q3 N deg sc cid:Nat) (cs:List Nat) (hb:Qa) (m:Nat) (E:Env) (h:Qa):Prop:=∃ i,i≤N∧m=N-i∧Ext hb h∧Bu h cid (zb (fun x=>x*sc%p) cs i)∧E.keep [2,3,22,23,149,150]=[(2,some (.sc (.int .i64 (deg:Nat)))),(3,some (.sc (.ptr q3 0))),(22,some (.sc (.slc cid 0 N (some N)))),(23,some (u sc)),(149,some (.sc (.int .i64 (N:Nat)))),(150,some (.sc (.int .i64 (i:Nat))))]
def QjK (p g q3 N deg sc cid:Nat) (cs:List Nat) (hb:Qa) (ex:Ex) (E:Env) (h:Qa):Prop:=ex=.ex 14∧Ext hb h∧Bu h cid (cs.map fun x=>x*sc%p)∧∃ a b c d e,E=[(2,some (.sc (.int .i64 (deg:Nat)))),(3,a),(22,some (.sc (.slc cid 0 N (some N)))),(23,b),(149,c),(150,d),(151,e)]
theorem Qdg (p g q3 N deg sc cid:Nat) (cs:List Nat) (hb:Qa) (hp:2≤p∧p < 9223372036854775808) (hs:sc < p) (hN:N≤131072) (hc:cs.length=N) (hcp:∀ x∈cs,x < p) (c3:Cel hb q3 (.int .u64 (p:Nat)) (.int .u64 (g:Nat))) (hl:hb.length≤cid) (m:Nat) (E:Env) (h:Qa) (hI:QgH p g q3 N deg sc cid cs hb m E h) :
    wA FT HKt Qf3 (E.keep [2,3,22,23,149,150]) h (Qo (QgH p g q3 N deg sc cid cs hb) m (QjK p g q3 N deg sc cid cs hb)):=by
  obtain ⟨i,hi,rfl,x,b,hE⟩:=hI
  rw [hE]
  have c3h:=c3.ext x
  by_cases hlt:i < N
  · have r1:=b.rd (i:=i) (by rw [QaF];omega)
    rw [QeQ (by omega)] at r1
    have hx:cs.getD i 0 < p:=by rw [List.getD_eq_getElem?_getD,List.getElem?_eq_getElem (by omega)];exact hcp _ (List.getElem_mem _)
    have k98:=fun H=>YY H p g (cs.getD i 0) sc ⟨by omega,by omega⟩ (by omega) (by omega)
    have ms:=QeP (f:=fun x=>x*sc%p) (cs:=cs) (i:=i) (by omega)
    have wv:=fun h' (y:Ext h h')=>(b.ext y).wr (i:=i) (y:=cs.getD i 0*sc%p) (by rw [QaF];omega)
    rw [ms] at wv
    generalize cs.getD i 0=v at *
    repeat' (first | refine Qg ?_ | refine Qb ?_ | refine Qt ?_ | refine QG ?_ | refine Qp ?_ | refine Qf ?_ | refine Xb ?_ | refine Xq ?_ | refine Xr ?_ | ((refine Qh ?_);refine Qk rfl ?_) | ((refine Qe ?_);first | refine Xd ?_ | refine XI ?_ | refine QD rfl rfl rfl rfl rfl rfl ?_ | refine Q4 rfl rfl rfl rfl rfl rfl rfl ?_) | ((refine Qc ?_);first | refine Xa rfl c3h ?_ | refine Qx (esz:=1) rfl rfl (by omega) ?_ | refine Q2 rfl r1 ?_ | (refine Qn rfl (k98 _) ?_;rintro v1 h1 ⟨x1,rfl⟩) | refine Ja rfl rfl (wv _ x1) ?_ | refine Qm rfl ?_ | refine QM rfl rfl (by omega) ?_ | refine Qw rfl rfl (by omega) ?_))
    exact Qs (j:=N-(i+1)) (by omega) ⟨i+1,by omega,rfl,Ext.setF (x.trans x1) hl _,(b.ext x1).set,rfl⟩
  · have:i=N:=by omega
    subst this
    rw [← hc,Qdz] at b
    repeat' (first | refine Qg ?_ | refine Qb ?_ | refine QK ?_ | refine QH ?_ | refine Qf ?_ | ((refine Qh ?_);refine Qi rfl ?_) | ((refine Qe ?_);refine Q4 rfl rfl rfl rfl rfl rfl rfl ?_) | ((refine Qc ?_);refine QE rfl rfl (by omega) ?_))
    exact Qz ⟨rfl,x,b,_,_,_,_,_,rfl⟩
end Go.Proofs.YtofknpknogfijaaGreatDoor


namespace Go.Proofs.YtofknpknogfijaaGreatDoor
open Go.Ab
set_option linter.unusedVariables false
set_option linter.unusedSimpArgs false
set_option maxRecDepth 20000
set_option maxHeartbeats 4000000
attribute [local irreducible] Qj wA Xm Xk QI Qo QW QV
set_option linter.unusedSectionVars false
variable [HB]
theorem VT {p:Nat} {inv:Nat→Nat} (hp:0 < p):∀ (m k:Nat) (rs:List (List Nat)) (d:Nat),d < p→qq p inv m k rs d < p
  | 0,k,rs,d,h=>h
  | m+1,k,rs,d,h=>by
    unfold qq
    split
    · exact hp
    · exact VT hp _ _ _ _ (Nat.mod_lt _ hp)
theorem Vq {p w N:Nat} (hN:0 < N):(List.replicate N 0).set 0 1=fill (pwM p w) N 1:=by
  rw [← Y5 (f:=pwM p w)]
  exact Zd (f:=pwM p w) (i:=0) hN
theorem Qig (p g n deg:Nat) (h0:Qa) (esl:SV) (es:List (List (List Tm))) (hp:2≤p∧p < 9223372036854775808) (hg:g < p) (hr:Rt p 17 g) (hd:deg≤65536) (hn:n < 1000000) (ee:Ents h0 esl es) (he:es.length=n) (tok:∀ r∈es,r.length=n∧∀ l∈r,l.length≤1000000∧∀ m∈l,Uz p m) :
    ∃ r h',Cal FT HKt 108 [fld p g,.sc esl,.sc (.int .i64 (deg:Nat))] h0 r h'∧Ext h0 h'∧∃ k w id,k≤17∧deg < 2 ^ k∧w < p∧Rt1 p k w∧r=.sc (.slc id 0 (deg+1) (some (2 ^ k))) ∧
      Bu h' id ((trM p k ((List.range (2 ^ k)).map (Ju p (2 ^ k) n ((List.range (2 ^ k)).map (pwM p w)) es)) (XL p w)).map fun x=>x*XL p (2 ^ k)%p):=by
  refine Cal.of (F:=a108) rfl rfl rfl ?_
  repeat' (first | refine Qg ?_ | refine Qb ?_ | refine Qt ?_ | refine Qf ?_ | refine Xb ?_ | refine Xq ?_ | refine Xr ?_ | ((refine Qe ?_);first | refine Xd ?_ | refine QB rfl rfl rfl ?_ | refine QO rfl rfl rfl rfl rfl ?_) | ((refine Qc ?_);first | (refine Q3 rfl ?_;intro h1 e1 c1) | refine QQ rfl ?_ | refine Xc rfl c1 ?_ | refine Qm rfl ?_))
  refine QP (QgC (.sc esl) h0.length deg g h1) 17 (QjF (.sc esl) h0.length deg g h1) ⟨0,by omega,rfl,rfl,rfl⟩ (Qdb (.sc esl) h0.length deg g hd h1) ?_
  rintro ex E' h2 ⟨rfl,eh,k,hk,hdk,a,rfl⟩
  subst eh
  repeat' (first | refine Qg ?_ | refine Qb ?_ | refine Qt ?_ | refine QC ?_ | refine Qf ?_ | ((refine Qe ?_);refine QD rfl rfl rfl rfl rfl rfl ?_) | ((refine Qc ?_);refine Qm rfl ?_))
  refine QP (QgF p g h0.length k deg (.sc esl) h2) (17-k) (QjI p g h0.length k deg (.sc esl) h2) ⟨17,g,hk,Nat.le_refl _,rfl,hg,⟨hr,fun e=>absurd e (by decide)⟩,Ext.refl _,rfl⟩ (Qde p g h0.length k deg (.sc esl) h2 hp c1) ?_
  rintro ex E' h3 ⟨rfl,x3,w,hw,hrw,_,_,rfl⟩
  have k131:=fun H c iw cs=>QcO p g ⟨by omega,hp.2⟩ k H c iw cs (by omega)
  have tl:=fun cs iw=>ZF p k cs iw
  have tp:=fun cs iw=>zf (p:=p) (by omega) k cs iw
  have h17:2 ^ k≤2 ^ 17:=Nat.pow_le_pow_right (by decide) hk
  have h17':(2:Nat) ^ 17=131072:=by decide
  have hpos:0 < 2 ^ k:=Nat.two_pow_pos k
  generalize hNe:2 ^ k=N at *
  have hiw:XL p w < p:=Zu 64 _ _ _ (by omega)
  have hiN:XL p N < p:=Zu 64 _ _ _ (by omega)
  repeat' (first | refine Qg ?_ | refine Qb ?_ | refine Qt ?_ | refine QC ?_ | refine Qf ?_ | ((refine Qe ?_);first | refine QD rfl rfl rfl rfl rfl rfl ?_ | refine Q4 rfl rfl rfl rfl rfl rfl rfl ?_) | ((refine Qc ?_);first | (refine UZ rfl rfl (by omega) ?_;intro h4 e4 b4) | refine Qx (esz:=1) rfl rfl (by omega) ?_ | refine Ja rfl rfl (b4.wr (i:=0) (y:=1) (by simpa using hpos)) ?_ | refine Qm rfl ?_))
  have b4':=b4.set (ys:=(List.replicate N 0).set 0 1)
  rw [Vq (p:=p) (w:=w) hpos] at b4' ⊢
  have x4:=Ext.setF (x3.trans e4) x3.len (.cells ((fill (pwM p w) N 1).map fun (x:Nat)=>SV.int .u64 (x:Int)) true 1)
  generalize h4.set h3.length (.cells ((fill (pwM p w) N 1).map fun (x:Nat)=>SV.int .u64 (x:Int)) true 1)=h5 at *
  refine QP (QgE p g h0.length N deg w h3.length (.sc esl) h2) (N-1) (QjH p g h0.length N deg w h3.length (.sc esl) h2) ⟨0,by omega,rfl,x4,b4',rfl⟩ (Qdd p g h0.length N deg w h3.length (.sc esl) h2 hp hw (by omega) c1 x3.len) ?_
  rintro ex E' h6 ⟨rfl,x6,b6,_,_,rfl⟩
  have hpl:((List.range N).map (pwM p w)).length=N:=by simp
  have hpp:∀ x∈(List.range N).map (pwM p w),x < p:=fun x hx=>by
    obtain ⟨i,-,rfl⟩:=List.mem_map.1 hx
    exact Qbr (by omega) i
  generalize hpe:(List.range N).map (pwM p w)=pws at *
  repeat' (first | refine Qg ?_ | refine Qb ?_ | refine Qt ?_ | refine QC ?_ | refine Qf ?_ | ((refine Qe ?_);first | refine Q4 rfl rfl rfl rfl rfl rfl rfl ?_ | refine Xj rfl rfl rfl rfl rfl rfl rfl rfl rfl ?_) | ((refine Qc ?_);first | (refine UZ rfl rfl (by omega) ?_;intro h7 e7 b7) | refine Qu rfl rfl ?_ | refine Qm rfl ?_))
  refine QP (QgI p g h0.length N h3.length h6.length n pws es esl (.sc (.int .i64 (deg:Nat))) (u w) h6) N (QjL p g h0.length N h3.length h6.length n pws es (.sc (.int .i64 (deg:Nat))) (u w) h6) ⟨0,Nat.zero_le _,rfl,e7,by rw [Y5];exact b7,rfl⟩
    (Qdh p g h0.length N h3.length h6.length n pws es esl (.sc (.int .i64 (deg:Nat))) (u w) h6 hp ⟨hpos,by omega⟩ hn (c1.ext x6) b6 hpl hpp ((ee.ext e1).ext x6) he tok (Nat.le_refl _)) ?_
  rintro ex E' h8 ⟨rfl,x8,b8,_,_,_,_,_,rfl⟩
  have hvl:((List.range N).map (Ju p N n pws es)).length=N:=by simp
  have hvp:∀ x∈(List.range N).map (Ju p N n pws es),x < p:=fun x hx=>by
    obtain ⟨i,-,rfl⟩:=List.mem_map.1 hx
    exact VT (by omega) _ _ _ _ (by omega)
  generalize hve:(List.range N).map (Ju p N n pws es)=vs at *
  have tl:=tl vs (XL p w) hvl
  have tp:=tp vs (XL p w) hvl hvp
  have k131:=fun H (b:Bu H h6.length vs)=>k131 H h6.length (XL p w) vs b hvl hvp hiw
  generalize hce:trM p k vs (XL p w)=cs at *
  have k121a:=fun H=>zD H p g w ⟨hp.1,by omega⟩ (by omega)
  have k121b:=fun H=>zD H p g N ⟨hp.1,by omega⟩ (by omega)
  generalize hie:XL p w=iw at *
  generalize hse:XL p N=sc at *
  have c8:=(c1.ext x6).ext x8
  repeat' (first | refine Qg ?_ | refine Qb ?_ | refine Qt ?_ | refine QC ?_ | refine Qf ?_ | refine Xb ?_ | refine Xq ?_ | refine Xr ?_ | ((refine Qe ?_);first | refine Xd ?_ | refine XI ?_ | refine XD (by assumption) ?_ | refine QS rfl rfl rfl rfl ?_ | refine QD rfl rfl rfl rfl rfl rfl ?_) | ((refine Qc ?_);first | refine Xa rfl c8 ?_ | (refine Qn rfl (k121a _) ?_;rintro v9 h9 ⟨e9,rfl⟩;replace c8:=c8.ext e9;have b9:=b8.ext e9) | (refine Qn rfl (k131 _ b9) ?_;rintro v10 h10 ⟨e10,cid,lc,rfl,b10⟩;have c9:=c8;replace c8:=c8.ext e10) | refine yX rfl (by omega) ?_ | (refine Qn rfl (k121b _) ?_;rintro v11 h11 ⟨e11,rfl⟩) | refine Qu rfl rfl ?_ | refine Qm rfl ?_))
  refine QP (QgH p g h0.length N deg sc cid cs h9) N (QjK p g h0.length N deg sc cid cs h9) ⟨0,Nat.zero_le _,rfl,e10.trans e11,by rw [Qdy];exact b10.ext e11,rfl⟩ (Qdg p g h0.length N deg sc cid cs h9 hp hiN (by omega) tl tp c9 lc) ?_
  rintro ex E' h12 ⟨rfl,x12,b12,_,_,_,_,_,rfl⟩
  have hsl:YU 0 ((deg:Int)+1).toNat (.slc cid 0 N (some N))=some (.slc cid 0 (deg+1) (some N)):=by
    have e:((deg:Int)+1).toNat=deg+1:=by omega
    simp only [YU,e]
    rw [if_pos (by omega)]
    rfl
  repeat' (first | refine Qg ?_ | refine Qb ?_ | refine QC ?_ | refine Qv ?_ | refine Qf ?_ | ((refine Qe ?_);refine Qq rfl ?_) | ((refine Qc ?_);first | refine k_to rfl rfl rfl (by omega) hsl ?_ | refine Qm rfl ?_ | refine QM rfl rfl (by omega) ?_))
  exact ⟨.inr rfl,((((e1.trans x6).trans x8).trans e9).trans x12),k,w,cid,hk,by rw [hNe];exact hdk,hw,hrw,by rw [hNe];rfl,by rw [hNe,hpe,hve,hie,hce,hse];exact b12⟩
end Go.Proofs.YtofknpknogfijaaGreatDoor


namespace Go.Proofs.YtofknpknogfijaaGreatDoor
open Go.Ab
set_option linter.unusedVariables false
set_option linter.unusedSectionVars false
variable [HB]
def evT (x:Int):List Tm→Int
  | []=>0
  | t::l=>t.2*x ^ t.1.toNat+evT x l
def evR (x:Int) (r:List (List Tm)):Row:=fun c=>evT x (r.getD c [])
theorem QeE {p w N:Nat} (h:Cg p ((w:Int) ^ N) 1) (m:Nat):Cg p ((w:Int) ^ (m%N)) ((w:Int) ^ m):=by
  have e:(w:Int) ^ m=(w:Int) ^ (m%N)*((w:Int) ^ N) ^ (m / N):=by rw [← Int.pow_mul,← Int.pow_add,Nat.mod_add_div]
  rw [e]
  have:=(h.pow (m / N)).trans (Cg.of_eq (YV _))
  exact (Cg.of_eq (Int.mul_one _).symm).trans (Cg.rfl.mul this.symm)
theorem Qhx {p w N i:Nat} (h:i < N):((List.range N).map (pwM p w)).getD i 0=pwM p w i:=by
  rw [List.getD_eq_getElem?_getD,List.getElem?_map,List.getElem?_range h];rfl
theorem Qir {p w N t x:Nat} {m:Tm} (hN:0 < N) (h:Cg p ((w:Int) ^ N) 1) (ok:Uz p m):Cg p (QdO p N t ((List.range N).map (pwM p w)) x m:Nat) ((x:Int)+m.2*((w:Int) ^ t) ^ m.1.toNat):=by
  unfold QdO
  rw [Qhx (Nat.mod_lt _ hN)]
  refine adM_cg.trans (Cg.rfl.add (Cg.modN.trans ?_))
  rw [Int.natCast_mul]
  refine (Qbu ok.2.2).mul ((Vn _).trans ((QeE h _).trans (Cg.of_eq ?_)))
  rw [← Int.pow_mul,Nat.mul_comm]
theorem QlE {p w N t:Nat} (hN:0 < N) (h:Cg p ((w:Int) ^ N) 1) {l:List Tm} (ok:∀ m∈l,Uz p m):Cg p (acc p N t ((List.range N).map (pwM p w)) l:Nat) (evT ((w:Int) ^ t) l):=by
  have key:∀ (l:List Tm) (x:Nat),(∀ m∈l,Uz p m)→Cg p (l.foldl (QdO p N t ((List.range N).map (pwM p w))) x:Nat) ((x:Int)+evT ((w:Int) ^ t) l):=by
    intro l
    induction l with
    | nil=>intro x _;exact Cg.of_eq (by simp [evT])
    | cons m l ih =>
      intro x hx
      rw [List.foldl_cons]
      refine (ih _ fun y hy=>hx y (.tail _ hy)).trans (((Qir hN h (hx m (.head _))).add Cg.rfl).trans (Cg.of_eq (Int.add_assoc _ _ _)))
  exact (key l 0 ok).trans (Cg.of_eq (by simp))
theorem Qcb {p w N t n:Nat} (hN:0 < N) (h:Cg p ((w:Int) ^ N) 1):∀ {es:List (List (List Tm))},(∀ r∈es,r.length=n∧∀ l∈r,∀ m∈l,Uz p m)→RsCg p (List.range' 0 n) ((es.map (qJ p N t ((List.range N).map (pwM p w)))).map rw_) (es.map (evR ((w:Int) ^ t)))
  | [],_=>.nil
  | r::es,hs=>by
    refine .cons (fun c hc=>?_) (Qcb hN h fun r hr=>hs r (.tail _ hr))
    rw [List.mem_range'_1] at hc
    obtain ⟨l1,l2⟩:=hs r (.head _)
    obtain ⟨l,hl⟩:∃ l,r[c]?=some l:=⟨_,List.getElem?_eq_getElem (by omega)⟩
    have e1:rw_ (qJ p N t ((List.range N).map (pwM p w)) r) c=((acc p N t ((List.range N).map (pwM p w)) l:Nat):Int):=by
      unfold rw_ qJ
      rw [List.getD_eq_getElem?_getD,List.getElem?_map,hl];rfl
    have e2:evR ((w:Int) ^ t) r c=evT ((w:Int) ^ t) l:=by
      unfold evR
      rw [List.getD_eq_getElem?_getD,hl];rfl
    rw [e1,e2]
    exact QlE hN h (l2 l (List.mem_of_getElem? hl))
theorem Qd8 {N n:Nat} (f:Nat→Int) (h:n≤N) (hz:∀ j,n≤j→f j=0):sm N f=sm n f:=by
  obtain ⟨k,rfl⟩:∃ k,N=n+k:=⟨N-n,by omega⟩
  induction k with
  | zero=>rfl
  | succ k ih =>
    have:sm (n+(k+1)) f=sm (n+k) f+f (n+k):=rfl
    rw [this,ih (by omega),hz _ (by omega)];omega
theorem Rt1.pos {p k w:Nat} (hp:1 < p) (h:Rt1 p k w):0 < w:=by
  rcases Nat.eq_zero_or_pos w with e | e
  · exfalso
    subst e
    rcases h.1 with h1 | h1
    · have:=(h.2 h1).eq (by show ((0:Int)-1).natAbs < p;simp;omega)
      simp at this
    · rw [show ((0:Nat):Int) ^ 2 ^ (k-1)=0 from Int.zero_pow (Nat.pos_iff_ne_zero.1 (Nat.two_pow_pos _))] at h1
      have:=h1.eq (by show ((0:Int) - -1).natAbs < p;simp;omega)
      omega
  · exact e
theorem FOK.cg {p:Nat} {inv:Nat→Nat} (hF:FOK p inv) {a:Nat} (h0:0 < a) (h1:a < p):Cg p ((a:Int)*(inv a:Nat)) 1:=by
  have:Cg p ((a*inv a:Nat):Int) ((1:Nat):Int):=by rw [← hF a h0 h1];exact Cg.modN.symm
  rwa [Int.natCast_mul] at this
theorem resid {p k w n deg:Nat} {es:List (List (List Tm))} {d:Nat→Int} (hF:FOK p (XL p)) (hp:262144 < p) (hk:k≤17) (hw:w < p) (hr:Rt1 p k w) (hd:deg < 2 ^ k) (he:es.length=n) (tok:∀ r∈es,r.length=n∧∀ l∈r,∀ m∈l,Uz p m)
    (hD:∀ x:Int,D (es.map (evR x)) (List.range' 0 n)=sm (deg+1) fun j=>d j*x ^ j) (j:Nat) (hj:j≤deg) :
    (((trM p k ((List.range (2 ^ k)).map (Ju p (2 ^ k) n ((List.range (2 ^ k)).map (pwM p w)) es)) (XL p w)).map fun x=>x*XL p (2 ^ k)%p).getD j 0) < p ∧
    Cg p (((trM p k ((List.range (2 ^ k)).map (Ju p (2 ^ k) n ((List.range (2 ^ k)).map (pwM p w)) es)) (XL p w)).map fun x=>x*XL p (2 ^ k)%p).getD j 0:Nat) (d j):=by
  have hN:0 < 2 ^ k:=Nat.two_pow_pos k
  have h17:2 ^ k≤2 ^ 17:=Nat.pow_le_pow_right (by decide) hk
  have h17':(2:Nat) ^ 17=131072:=by decide
  have htop:=hr.1.top hr.2
  have hwp:=hr.pos (by omega)
  have hval:∀ t,Cg p (Ju p (2 ^ k) n ((List.range (2 ^ k)).map (pwM p w)) es t:Nat) (sm (2 ^ k) fun j=>(if j≤deg then d j else 0)*(w:Int) ^ (j*t)):=fun t=>by
    have hs:=U6 hF (by omega) n n 0 (es.map (qJ p (2 ^ k) t ((List.range (2 ^ k)).map (pwM p w)))) 1 rfl (by simpa using he) (fun r hr=>by
      obtain ⟨y,hy,rfl⟩:=List.mem_map.1 hr
      refine ⟨by unfold qJ;rw [List.length_map];exact (tok y hy).1,fun x hx=>?_⟩
      obtain ⟨l,hl,rfl⟩:=List.mem_map.1 hx
      exact QbV (by omega)) (by omega)
    refine hs.2.trans ((Cg.of_eq (Int.one_mul _)).trans ((QgO (Qcb hN htop tok)).trans (Cg.of_eq ?_)))
    rw [hD,Qd8 (n:=deg+1) (fun j=>(if j≤deg then d j else 0)*(w:Int) ^ (j*t)) (by omega) fun j hj=>by rw [if_neg (by omega),Int.zero_mul]]
    refine YH fun j hj=>?_
    rw [if_pos (by omega),← Int.pow_mul,Nat.mul_comm]
  have hdft:=Qh0 hF (by omega) hr.1 (hF.cg hwp hw) ((List.range (2 ^ k)).map (Ju p (2 ^ k) n ((List.range (2 ^ k)).map (pwM p w)) es)) (by simp) (fun x hx=>by
    obtain ⟨i,-,rfl⟩:=List.mem_map.1 hx
    exact VT (by omega) _ _ _ _ (by omega)) (fun j=>if j≤deg then d j else 0) (fun t ht=>by
    rw [List.getD_eq_getElem?_getD,List.getElem?_map,List.getElem?_range ht]
    exact hval t) j (by omega)
  have hlen:=ZF p k ((List.range (2 ^ k)).map (Ju p (2 ^ k) n ((List.range (2 ^ k)).map (pwM p w)) es)) (XL p w) (by simp)
  generalize trM p k ((List.range (2 ^ k)).map (Ju p (2 ^ k) n ((List.range (2 ^ k)).map (pwM p w)) es)) (XL p w)=xs at *
  have ej:(xs.map fun x=>x*XL p (2 ^ k)%p).getD j 0=xs.getD j 0*XL p (2 ^ k)%p:=by
    rw [List.getD_eq_getElem?_getD,List.getD_eq_getElem?_getD,List.getElem?_map,List.getElem?_eq_getElem (by omega)];rfl
  rw [ej]
  refine ⟨Nat.mod_lt _ (by omega),Cg.modN.trans ?_⟩
  rw [Int.natCast_mul]
  rw [if_pos hj] at hdft
  refine (hdft.mul Cg.rfl).trans ((Cg.of_eq ?_).trans (((hF.cg hN (by omega)).mul Cg.rfl).trans (Cg.of_eq (Int.one_mul _))))
  rw [Int.mul_right_comm]
end Go.Proofs.YtofknpknogfijaaGreatDoor


