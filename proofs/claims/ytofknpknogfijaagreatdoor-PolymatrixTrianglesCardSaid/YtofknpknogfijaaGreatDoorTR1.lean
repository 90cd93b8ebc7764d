/- The fast transform: its contract. -/
import Derived.Test.YtofknpknogfijaaGreatDoorFD3
namespace Go.Proofs.YtofknpknogfijaaGreatDoor
open Go.Ab
set_option linter.unusedVariables false
set_option linter.unusedSimpArgs false
set_option maxRecDepth 20000
set_option maxHeartbeats 4000000
attribute [local irreducible] Qi wA Xk Xj Qz Qo QS QV
set_option linter.unusedSectionVars false
variable [HB]
theorem Ext.setF {h0 h:Qa} {id:Nat} (x:Ext h0 h) (hf:h0.length≤id) (b:Blk):Ext h0 (h.set id b) :=
  Chg.toExt ⟨by simpa using x.len,fun j hj _=>by
    rw [List.getElem?_set_ne (by omega)]
    obtain ⟨t,rfl⟩:=x
    rw [List.getElem?_append_left hj]⟩
def fill (f:Nat→Nat) (n i:Nat):List Nat:=(List.range n).map fun j=>if j < i then f j else 0
theorem YF {f:Nat→Nat} {n i:Nat}:(fill f n i).length=n:=by simp [fill]
theorem Za {f:Nat→Nat} {n:Nat}:fill f n 0=List.replicate n 0:=by
  unfold fill
  apply List.ext_getElem?
  intro j
  rw [List.getElem?_map,List.getElem?_replicate]
  rcases Nat.lt_or_ge j n with h | h
  · rw [List.getElem?_range h,if_pos h];simp
  · rw [List.getElem?_eq_none (by simpa using h),if_neg (by omega)];rfl
theorem Zi {f:Nat→Nat} {n i:Nat} (h:i < n):(fill f n i).set i (f i)=fill f n (i+1):=by
  unfold fill
  apply List.ext_getElem?
  intro j
  rw [List.getElem?_set,List.getElem?_map,List.getElem?_map,List.length_map,List.length_range]
  by_cases e:i=j
  · subst e
    rw [if_pos rfl,if_pos h,List.getElem?_range h];simp
  · rw [if_neg e]
    rcases Nat.lt_or_ge j n with hj | hj
    · rw [List.getElem?_range hj]
      simp only [Option.map_some]
      by_cases h1:j < i
      · rw [if_pos h1,if_pos (by omega)]
      · rw [if_neg h1,if_neg (by omega)]
    · rw [List.getElem?_eq_none (by simpa using hj)];rfl
theorem Zb {f:Nat→Nat} {n:Nat}:fill f n n=(List.range n).map f:=by
  unfold fill
  refine List.map_congr_left fun j hj=>?_
  rw [if_pos (List.mem_range.1 hj)]
def yx (f g:Nat→Nat) (n i:Nat):List Nat:=fill f n i++fill g n i
theorem Qc8 {f g:Nat→Nat} {n i:Nat} (h:i < n) (x y:Nat) (hx:x=f i) (hy:y=g i):((yx f g n i).set i x).set (i+n) y=yx f g n (i+1):=by
  unfold yx
  rw [List.set_append_left _ _ (by rw [YF];exact h),hx,Zi h,List.set_append_right _ _ (by rw [YF];omega),YF,show i+n-n=i by omega,hy,Zi h]
theorem Qex {f g:Nat→Nat} {n i:Nat}:(yx f g n i).length=2*n:=by simp [yx,YF];omega
section
variable {FT:FuncId→Option AFun} {HK:FuncId→Option Xc} {E:Env} {h:Qa} {K:Env→Qa→Prop} {d:Option Nat} {r:List AOp} {x y:AO}
theorem repU:∀ n:Nat,rep [SV.int .u64 0] n=(List.replicate n 0).map fun (x:Nat)=>SV.int .u64 (x:Int)
  | 0=>rfl
  | n+1=>by rw [rep,repU n];rfl
theorem Uy {n:Nat} (hx:evS E x=some (.int .i64 (n:Nat))) (hy:evS E y=some (.int .i64 (n:Nat))) (hb:n≤10000000) (hw:∀ h1,Ext h h1→Bu h1 h.length (List.replicate n 0)→Qi FT HK r (Qq d (some (.sc (.slc h.length 0 n (some n)))) E) h1 K) :
    Qi FT HK (⟨d,.mk 1 8 [.int .u64 0] x y,none⟩::r) E h K:=by
  refine Q8 (v:=some (.sc (.slc h.length 0 n (some n)))) (h':=h++[.cells (rep [.int .u64 0] n) true 1]) rfl rfl ?_ (hw _ ⟨_,rfl⟩ ?_)
  · simp only [Ql,hx,hy]
    rw [if_pos ⟨by omega,by omega,by unfold YV;omega⟩,Int.toNat_natCast]
  · unfold Bu
    rw [List.getElem?_append_right (Nat.le_refl _),Nat.sub_self,repU];rfl
theorem Qjd {v:Nat} (hx:ev E x=some (u v)) (hw:∀ h1,Ext h h1→Bu h1 h.length [v]→Qi FT HK r (Qq d (some (.sc (.slc h.length 0 1 (some 1)))) E) h1 K) :
    Qi FT HK (⟨d,.bsl 1 [.int .u64 0] 1 [(0,x)],none⟩::r) E h K :=
  Q8 (v:=some (.sc (.slc h.length 0 1 (some 1)))) (h':=h++[.cells [.int .u64 (v:Nat)] true 1]) rfl rfl (by simp [Ql,Yb,hx,AV.cells,Zq,rep,Xe]) (hw _ ⟨_,rfl⟩ (by unfold Bu;rw [List.getElem?_append_right (Nat.le_refl _),Nat.sub_self];rfl))
end
structure A131 (p g q c e o N:Nat) (cs es os:List Nat) (h0 h:Qa):Prop where
  x:Ext h0 h
  c2:Cel h q (.int .u64 (p:Nat)) (.int .u64 (g:Nat))
  bc:Bu h c cs
  be:Bu h e es
  bo:Bu h o os
  lo:h0.length≤e∧h0.length≤o∧e≠o∧c < e∧c < o∧q < e∧q < o
theorem A131.put {p g q c e o N:Nat} {cs es os:List Nat} {h0 h:Qa} (s:A131 p g q c e o N cs es os h0 h) (es' os':List Nat) :
    A131 p g q c e o N cs es' os' h0 ((h.set e (.cells (es'.map fun (x:Nat)=>SV.int .u64 (x:Int)) true 1)).set o (.cells (os'.map fun (x:Nat)=>SV.int .u64 (x:Int)) true 1)):=by
  obtain ⟨l1,l2,l3,l4,l5,l6,l7⟩:=s.lo
  exact ⟨Ext.setF (Ext.setF s.x l1 _) l2 _,Cel.other (Cel.other s.c2 (by omega) _) (by omega) _,(s.bc.other (by omega) _).other (by omega) _,s.be.set.other (Ne.symm l3) _,(s.bo.other l3 _).set,s.lo⟩
def I131 (p g q c e o N w:Nat) (cs:List Nat) (h0:Qa) (m:Nat) (E:Env) (h:Qa):Prop:=∃ i,i≤N∧m=N-i∧A131 p g q c e o N cs (fill (fun j=>cs.getD (2*j) 0) N i) (fill (fun j=>cs.getD (2*j+1) 0) N i) h0 h ∧
  E.keep [1,2,3,7,8,9,30,31]=[(1,some (.sc (.slc c 0 (2*N) (some (2*N))))),(2,some (u w)),(3,some (.sc (.ptr q 0))),(7,some (.sc (.int .i64 (N:Nat)))),(8,some (.sc (.slc e 0 N (some N)))),(9,some (.sc (.slc o 0 N (some N)))),(30,some (.sc (.int .i64 (N:Nat)))),(31,some (.sc (.int .i64 (i:Nat))))]
def R131 (p g q c e o N w:Nat) (cs:List Nat) (h0:Qa) (ex:Ex) (E:Env) (h:Qa):Prop:=ex=.ex 0∧A131 p g q c e o N cs ((List.range N).map fun j=>cs.getD (2*j) 0) ((List.range N).map fun j=>cs.getD (2*j+1) 0) h0 h ∧
  ∃ a b d,E=[(1,some (.sc (.slc c 0 (2*N) (some (2*N))))),(2,some (u w)),(3,some (.sc (.ptr q 0))),(7,some (.sc (.int .i64 (N:Nat)))),(8,some (.sc (.slc e 0 N (some N)))),(9,some (.sc (.slc o 0 N (some N)))),(30,a),(31,b),(32,d)]
theorem QdL (p g q c e o N w:Nat) (cs:List Nat) (h0:Qa) (hl:cs.length=2*N) (hN:N≤1000000) (m:Nat) (E:Env) (h:Qa) (hI:I131 p g q c e o N w cs h0 m E h) :
    wA FT HKt Qe0 (E.keep [1,2,3,7,8,9,30,31]) h (Qo (I131 p g q c e o N w cs h0) m (R131 p g q c e o N w cs h0)):=by
  obtain ⟨i,hi,rfl,s,hE⟩:=hI
  rw [hE]
  by_cases hlt:i < N
  · have r1:=s.bc.rd (i:=2*i) (by omega)
    have r2:=s.bc.rd (i:=2*i+1) (by omega)
    have w1:=s.be.wr (i:=i) (y:=cs.getD (2*i) 0) (by rw [YF];exact hlt)
    have nx:=s.put ((fill (fun j=>cs.getD (2*j) 0) N i).set i (cs.getD (2*i) 0)) ((fill (fun j=>cs.getD (2*j+1) 0) N i).set i (cs.getD (2*i+1) 0))
    have w2:=(s.bo.other s.lo.2.2.1 (.cells (((fill (fun j=>cs.getD (2*j) 0) N i).set i (cs.getD (2*i) 0)).map fun (x:Nat)=>SV.int .u64 (x:Int)) true 1)).wr (i:=i) (y:=cs.getD (2*i+1) 0) (by rw [YF];exact hlt)
    have e1:(0+(2*(i:Int)).toNat*1)=0+2*i*1:=by omega
    have e2:(0+(2*(i:Int)+1).toNat*1)=0+(2*i+1)*1:=by omega
    rw [← e1] at r1
    rw [← e2] at r2
    have f1:=Zi (f:=fun j=>cs.getD (2*j) 0) hlt
    have f2:=Zi (f:=fun j=>cs.getD (2*j+1) 0) hlt
    rw [f1,f2] at nx
    rw [f1] at w1 w2
    rw [f2] at w2
    repeat' (first | refine Qh ?_ | refine Qb ?_ | refine Qt ?_ | refine QC ?_ | refine Qn ?_ | refine Qf ?_ | refine Q9 ?_ | refine Xs ?_ | refine Xt ?_ | ((refine Qg ?_);refine Qk rfl ?_) | ((refine Qe ?_);first | refine Xb ?_ | refine XP ?_ | refine Q5 rfl rfl rfl rfl rfl rfl rfl rfl ?_ | refine Q6 rfl rfl rfl rfl rfl rfl rfl rfl rfl ?_) | ((refine Qc ?_);first | refine QD (esz:=1) rfl rfl (by omega) ?_ | refine Xx rfl r1 ?_ | refine Xx rfl r2 ?_ | refine Jk rfl rfl w1 ?_ | refine Jk rfl rfl w2 ?_ | refine Qp rfl ?_ | refine QK rfl rfl (by omega) ?_ | refine YR rfl rfl (by omega) ?_ | refine Qx rfl rfl (by omega) ?_))
    exact Qu (j:=N-(i+1)) (by omega) ⟨i+1,by omega,rfl,nx,rfl⟩
  · have:i=N:=by omega
    subst this
    rw [Zb,Zb] at s
    repeat' (first | refine Qh ?_ | refine Qb ?_ | refine QP ?_ | refine QL ?_ | refine Qf ?_ | ((refine Qg ?_);refine Qj rfl ?_) | ((refine Qe ?_);refine Q6 rfl rfl rfl rfl rfl rfl rfl rfl rfl ?_) | ((refine Qc ?_);refine QH rfl rfl (by omega) ?_))
    exact QG ⟨rfl,s,_,_,_,rfl⟩
theorem Qjk {l:List Nat} {n:Nat} (h:l.length=2*n):(List.range n).map (fun j=>l.getD (2*j) 0)=evs l:=by
  apply List.ext_getElem?
  intro i
  rw [List.getElem?_map]
  have le:=Jo l n h
  rcases Nat.lt_or_ge i n with hi | hi
  · rw [List.getElem?_range hi,Option.map_some,← zg l n i h hi,List.getD_eq_getElem?_getD,List.getElem?_eq_getElem (by omega)];rfl
  · rw [List.getElem?_eq_none (by simpa using hi),List.getElem?_eq_none (by omega)];rfl
theorem QiY {l:List Nat} {n:Nat} (h:l.length=2*n):(List.range n).map (fun j=>l.getD (2*j+1) 0)=ods l:=by
  apply List.ext_getElem?
  intro i
  rw [List.getElem?_map]
  have le:=qN l n h
  rcases Nat.lt_or_ge i n with hi | hi
  · rw [List.getElem?_range hi,Option.map_some,← zc l n i h hi,List.getD_eq_getElem?_getD,List.getElem?_eq_getElem (by omega)];rfl
  · rw [List.getElem?_eq_none (by simpa using hi),List.getElem?_eq_none (by omega)];rfl
structure B131 (p g q e o v N:Nat) (es os vs:List Nat) (h0 h:Qa):Prop where
  x:Ext h0 h
  c2:Cel h q (.int .u64 (p:Nat)) (.int .u64 (g:Nat))
  be:Bu h e es
  bo:Bu h o os
  bv:Bu h v vs
  lo:h0.length≤v∧e < v∧o < v∧q < v
theorem B131.ext {p g q e o v N:Nat} {es os vs:List Nat} {h0 h h':Qa} (s:B131 p g q e o v N es os vs h0 h) (k:Ext h h'):B131 p g q e o v N es os vs h0 h':=⟨s.x.trans k,s.c2.ext k,s.be.ext k,s.bo.ext k,s.bv.ext k,s.lo⟩
theorem B131.put {p g q e o v N:Nat} {es os vs:List Nat} {h0 h:Qa} (s:B131 p g q e o v N es os vs h0 h) (vs':List Nat) :
    B131 p g q e o v N es os vs' h0 (h.set v (.cells (vs'.map fun (x:Nat)=>SV.int .u64 (x:Int)) true 1)):=by
  obtain ⟨l1,l2,l3,l4⟩:=s.lo
  exact ⟨Ext.setF s.x l1 _,Cel.other s.c2 (by omega) _,s.be.other (by omega) _,s.bo.other (by omega) _,s.bv.set,s.lo⟩
def qR (p w:Nat) (es os:List Nat) (i:Nat):Nat:=adM p (es.getD i 0) (pwM p w i*os.getD i 0%p)
def yr (p w:Nat) (es os:List Nat) (i:Nat):Nat:=sbM p (es.getD i 0) (pwM p w i*os.getD i 0%p)
def Qfz (p g q e o v N w:Nat) (es os:List Nat) (h0:Qa) (m:Nat) (E:Env) (h:Qa):Prop:=∃ i,i≤N∧m=N-i∧B131 p g q e o v N es os (yx (qR p w es os) (yr p w es os) N i) h0 h ∧
  E.keep [2,3,7,8,9,12,13,67,68]=[(2,some (u w)),(3,some (.sc (.ptr q 0))),(7,some (.sc (.int .i64 (N:Nat)))),(8,some (.sc (.slc e 0 N (some N)))),(9,some (.sc (.slc o 0 N (some N)))),(12,some (.sc (.slc v 0 (2*N) (some (2*N))))),(13,some (u (pwM p w i))),(67,some (.sc (.int .i64 (N:Nat)))),(68,some (.sc (.int .i64 (i:Nat))))]
def Qh1 (p g q e o v N w:Nat) (es os:List Nat) (h0:Qa) (ex:Ex) (E:Env) (h:Qa):Prop:=ex=.ex 2∧B131 p g q e o v N es os ((List.range N).map (qR p w es os)++(List.range N).map (yr p w es os)) h0 h ∧
  ∃ a b c d e' f' i j k,E=[(2,a),(3,b),(7,c),(8,d),(9,e'),(12,some (.sc (.slc v 0 (2*N) (some (2*N))))),(13,f'),(67,i),(68,j),(69,k)]
theorem Qcx (p g q e o v N w:Nat) (es os:List Nat) (h0:Qa) (hp:1 < p∧p < 9223372036854775808) (hw:w < p) (he:es.length=N∧∀ x∈es,x < p) (ho:os.length=N∧∀ x∈os,x < p) (hN:N≤1000000) (m:Nat) (E:Env) (h:Qa) (hI:Qfz p g q e o v N w es os h0 m E h) :
    wA FT HKt QeZ (E.keep [2,3,7,8,9,12,13,67,68]) h (Qo (Qfz p g q e o v N w es os h0) m (Qh1 p g q e o v N w es os h0)):=by
  obtain ⟨i,hi,rfl,s,hE⟩:=hI
  rw [hE]
  by_cases hlt:i < N
  · have r1:=s.be.rd (i:=i) (by omega)
    have r2:=s.bo.rd (i:=i) (by omega)
    have hx:es.getD i 0 < p:=by rw [List.getD_eq_getElem?_getD,List.getElem?_eq_getElem (by omega)];exact he.2 _ (List.getElem_mem _)
    have hy:os.getD i 0 < p:=by rw [List.getD_eq_getElem?_getD,List.getElem?_eq_getElem (by omega)];exact ho.2 _ (List.getElem_mem _)
    have hpw:=QaP (p:=p) (w:=w) hp.1 i
    have k98a:=fun H=>Y5 H p g (pwM p w i) (os.getD i 0) ⟨by omega,by omega⟩ (by omega) (by omega)
    have hT:pwM p w i*os.getD i 0%p < p:=Nat.mod_lt _ (by omega)
    have k129:=fun H=>Vs H p g (es.getD i 0) (pwM p w i*os.getD i 0%p) hp.2 hx hT
    have k122:=fun H=>zi H p g (es.getD i 0) (pwM p w i*os.getD i 0%p) hp.2 hx (Nat.le_of_lt hT)
    have k98b:=fun H=>Y5 H p g (pwM p w i) w ⟨by omega,by omega⟩ (by omega) (by omega)
    have epw:pwM p w i*w%p=pwM p w (i+1):=rfl
    rw [epw] at k98b
    have eA:adM p (es.getD i 0) (pwM p w i*os.getD i 0%p)=qR p w es os i:=rfl
    have eB:sbM p (es.getD i 0) (pwM p w i*os.getD i 0%p)=yr p w es os i:=rfl
    rw [eA] at k129
    rw [eB] at k122
    have fs:=Qc8 (f:=qR p w es os) (g:=yr p w es os) hlt _ _ rfl rfl
    have hfl:(yx (qR p w es os) (yr p w es os) N i).length=2*N:=Qex
    have st:=fun (h1:Qa) (e1:Ext h h1)=>(s.ext e1).put (((yx (qR p w es os) (yr p w es os) N i).set i (qR p w es os i)))
    have st2:=fun (h1:Qa) (e1:Ext h h1)=>(st h1 e1).put (((yx (qR p w es os) (yr p w es os) N i).set i (qR p w es os i)).set (i+N) (yr p w es os i))
    have w1:=fun (h1:Qa) (e1:Ext h h1)=>(s.ext e1).bv.wr (i:=i) (y:=qR p w es os i) (by omega)
    have w2:=fun (h1:Qa) (e1:Ext h h1)=>(st h1 e1).bv.wr (i:=i+N) (y:=yr p w es os i) (by rw [List.length_set];omega)
    rw [fs] at st2 w2
    generalize qR p w es os i=A at *
    generalize yr p w es os i=B at *
    generalize pwM p w i*os.getD i 0%p=T at *
    generalize es.getD i 0=x at *
    generalize os.getD i 0=y at *
    generalize hW:pwM p w (i+1)=W at *
    generalize pwM p w i=W0 at *
    generalize (yx (qR p w es os) (yr p w es os) N i).set i A=F1 at *
    generalize yx (qR p w es os) (yr p w es os) N i=F0 at *
    have c2:=s.c2
    have x0:=Ext.refl h
    have e2:(0+((i:Int)+(N:Int)).toNat*1)=0+(i+N)*1:=by omega
    repeat' (first | refine Qh ?_ | refine Qb ?_ | refine Qt ?_ | refine Qn ?_ | refine Qf ?_ | refine Q9 ?_ | refine Xs ?_ | refine Xt ?_ | ((refine Qg ?_);refine Qk rfl ?_) | ((refine Qe ?_);first | refine Xb ?_ | refine XP ?_ | refine Xi (by assumption) ?_ | refine Q6 rfl rfl rfl rfl rfl rfl rfl rfl rfl ?_ | refine Xf rfl rfl rfl rfl rfl rfl rfl rfl rfl rfl ?_ | refine XC rfl rfl rfl rfl rfl rfl rfl rfl rfl rfl rfl ?_) | ((refine Qc ?_);first | refine QN rfl (c2.ext x0) ?_ | refine QD (esz:=1) rfl rfl (by omega) ?_ | refine Xx rfl (QO x0 r1) ?_ | refine Xx rfl (QO x0 r2) ?_ | (refine Qm rfl (k98a _) ?_;rintro v1 h1 ⟨e1,rfl⟩;replace x0:=x0.trans e1) | (refine Qm rfl (k129 _) ?_;rintro v1 h1 ⟨e1,rfl⟩;replace x0:=x0.trans e1) | (refine Qm rfl (k122 _) ?_;rintro v1 h1 ⟨e1,rfl⟩;replace x0:=x0.trans e1) | refine Jk rfl rfl (w1 _ x0) ?_ | refine Jk rfl rfl (w2 _ x0) ?_ | refine Qp rfl ?_ | refine QK rfl rfl (by omega) ?_ | refine Qx rfl rfl (by omega) ?_))
    have s2:=st2 _ x0
    have c2':=s2.c2
    repeat' (first | refine Qb ?_ | refine QC ?_ | refine Qf ?_ | ((refine Qe ?_);refine Q6 rfl rfl rfl rfl rfl rfl rfl rfl rfl ?_) | ((refine Qc ?_);first | refine QN rfl c2' ?_ | (refine Qm rfl (k98b _) ?_;rintro v1 h9 ⟨e9,rfl⟩) | refine Qp rfl ?_ | refine QK rfl rfl (by omega) ?_))
    exact Qu (j:=N-(i+1)) (by omega) ⟨i+1,by omega,rfl,s2.ext e9,by rw [hW];rfl⟩
  · have:i=N:=by omega
    subst this
    unfold yx at s
    rw [Zb,Zb] at s
    repeat' (first | refine Qh ?_ | refine Qb ?_ | refine QP ?_ | refine QL ?_ | refine Qf ?_ | ((refine Qg ?_);refine Qj rfl ?_) | ((refine Qe ?_);refine Xf rfl rfl rfl rfl rfl rfl rfl rfl rfl rfl ?_) | ((refine Qc ?_);refine QH rfl rfl (by omega) ?_))
    exact QG ⟨rfl,s,_,_,_,_,_,_,_,_,_,rfl⟩
theorem y4 {p:Nat} (hp:1 < p):∀ (s:Nat) (cs:List Nat) (w:Nat),cs.length=2 ^ s→(∀ x∈cs,x < p)→∀ x∈trM p s cs w,x < p
  | 0,cs,w,hl,hc=>hc
  | s+1,cs,w,hl,hc=>fun x hx=>by
    have hl2:cs.length=2*2 ^ s:=by rw [hl,Nat.pow_succ];omega
    have a1:=y4 hp s (evs cs) (w*w%p) (Jo cs _ hl2) (fun x hx=>hc x (zf cs x hx))
    have la:=ZI p s (evs cs) (w*w%p) (Jo cs _ hl2)
    have ga:∀ i,i < 2 ^ s→(trM p s (evs cs) (w*w%p)).getD i 0 < p:=fun i hi=>by
      rw [List.getD_eq_getElem?_getD,List.getElem?_eq_getElem (by omega)];exact a1 _ (List.getElem_mem _)
    unfold trM at hx
    rcases List.mem_append.1 hx with h | h <;> obtain ⟨i,hi,rfl⟩:=List.mem_map.1 h
    · exact Qbg (ga i (List.mem_range.1 hi)) (Nat.mod_lt _ (by omega))
    · exact yk (ga i (List.mem_range.1 hi))
theorem Qca (p g:Nat) (hp:1 < p∧p < 9223372036854775808):∀ (s:Nat) (h0:Qa) (c w:Nat) (cs:List Nat),s≤18→Bu h0 c cs→cs.length=2 ^ s→(∀ x∈cs,x < p)→w < p →
    ∃ r h',Cal FT HKt 131 [fld p g,.sc (.slc c 0 (2 ^ s) (some (2 ^ s))),u w] h0 r h'∧Ext h0 h'∧∃ id,h0.length≤id∧r=.sc (.slc id 0 (2 ^ s) (some (2 ^ s)))∧Bu h' id (trM p s cs w)
  | 0,h0,c,w,cs,hs,b,hl,hc,hw=>by
    refine Cal.of (F:=Qhc) rfl rfl rfl ?_
    have r1:=fun h (e:Ext h0 h)=>QO e (b.rd (i:=0) (by omega))
    have ecs:cs=[cs.getD 0 0]:=by
      cases cs with
      | nil=>simp at hl
      | cons x t =>
        cases t with
        | nil=>rfl
        | cons y t=>simp at hl
    repeat' (first | refine Qh ?_ | refine Qb ?_ | refine QF ?_ | refine Qs ?_ | refine Qf ?_ | ((refine Qg ?_);refine Qk rfl ?_) | ((refine Qe ?_);first | refine Qr rfl ?_ | refine Qy rfl rfl rfl ?_ | refine QQ rfl rfl rfl rfl ?_) | ((refine Qc ?_);first | (refine QR rfl ?_;intro h1 e1 c1) | refine QA rfl rfl ?_ | refine Xw rfl rfl (by decide) ?_ | refine QD (esz:=1) rfl rfl (by decide) ?_ | refine Xx rfl (r1 _ e1) ?_ | (refine Qjd rfl ?_;intro h2 e2 b2) | refine Qp rfl ?_))
    exact ⟨.inr rfl,e1.trans e2,h1.length,e1.len,rfl,by show Bu h2 h1.length cs;rw [ecs];exact b2⟩
  | s+1,h0,c,w,cs,hs,b,hl,hc,hw=>by
    have ih:=fun h c w cs=>Qca p g hp s h c w cs (by omega)
    have eT:trM p (s+1) cs w=(List.range (2 ^ s)).map (qR p w (trM p s (evs cs) (w*w%p)) (trM p s (ods cs) (w*w%p)))++(List.range (2 ^ s)).map (yr p w (trM p s (evs cs) (w*w%p)) (trM p s (ods cs) (w*w%p))):=rfl
    rw [eT]
    have hN:2 ^ s≤2 ^ 18:=Nat.pow_le_pow_right (by decide) (by omega)
    have hN1:1≤2 ^ s:=Nat.one_le_two_pow
    have e2:2 ^ (s+1)=2*2 ^ s:=by rw [Nat.pow_succ];omega
    rw [e2] at hl ⊢
    have le:=Jo cs _ hl
    have lo:=qN cs _ hl
    have ce:=fun x hx=>hc x (zf cs x hx)
    have co:=fun x hx=>hc x (U3 cs x hx)
    have hw2:w*w%p < p:=Nat.mod_lt _ (by omega)
    have te:=ZI p s (evs cs) (w*w%p) le
    have tq:=ZI p s (ods cs) (w*w%p) lo
    have pe:=y4 (p:=p) hp.1 s (evs cs) (w*w%p) le ce
    have po:=y4 (p:=p) hp.1 s (ods cs) (w*w%p) lo co
    have i1:=fun h c (b:Bu h c (evs cs))=>ih h c (w*w%p) (evs cs) b le ce hw2
    have i2:=fun h c (b:Bu h c (ods cs))=>ih h c (w*w%p) (ods cs) b lo co hw2
    have rl:=fun q c e o h0=>QdL p g q c e o (2 ^ s) w cs h0 hl (by omega)
    generalize trM p s (evs cs) (w*w%p)=Te at *
    generalize trM p s (ods cs) (w*w%p)=To at *
    generalize hN':2 ^ s=N at *
    refine Cal.of (F:=Qhc) rfl rfl rfl ?_
    have eh:((2*N:Nat):Int) / 2=(N:Nat):=by omega
    have k98:=fun H=>Y5 H p g w w ⟨by omega,by omega⟩ (by omega) (by omega)
    repeat' (first | refine Qh ?_ | refine Qb ?_ | refine Qt ?_ | refine Qn ?_ | refine Qf ?_ | refine Q9 ?_ | refine Xs ?_ | refine Xt ?_ | ((refine Qg ?_);refine Qj rfl ?_) | ((refine Qe ?_);first | refine Xb ?_ | refine Xi (by assumption) ?_ | refine Qy rfl rfl rfl ?_ | refine QQ rfl rfl rfl rfl ?_ | refine QM rfl rfl rfl rfl rfl rfl ?_ | refine Q5 rfl rfl rfl rfl rfl rfl rfl rfl ?_) | ((refine Qc ?_);first | (refine QR rfl ?_;intro h1 e1 c1) | refine QA rfl rfl ?_ | (refine Zz rfl rfl (by omega) ?_;rw [eh]) | (have z:=b2;refine Uy rfl rfl (by omega) ?_;intro h3 e3 b3) | (refine Uy rfl rfl (by omega) ?_;intro h2 e2 b2) | refine Qp rfl ?_ | refine Xa rfl rfl (by omega) ?_))
    have ev1:=Qjk hl
    have od1:=QiY hl
    refine Q2 (I131 p g h0.length c h1.length h2.length N w cs h0) N (R131 p g h0.length c h1.length h2.length N w cs h0) ⟨0,Nat.zero_le _,rfl,⟨(e1.trans e2).trans e3,(c1.ext e2).ext e3,((b.ext e1).ext e2).ext e3,by rw [Za];exact b2.ext e3,by rw [Za];exact b3,by have:=b.lt;have:=c1.lt;have:=e1.len;have:=e2.len;have:=b2.lt;omega⟩,rfl⟩ (rl h0.length c h1.length h2.length h0) ?_
    rintro ex E' h4 ⟨rfl,s4,_,_,_,rfl⟩
    rw [ev1,od1] at s4
    have c4:=s4.c2
    have b4:=s4.bc
    repeat' (first | refine Qh ?_ | refine Qb ?_ | refine Qt ?_ | refine QE ?_ | refine Qf ?_ | refine Q9 ?_ | refine Xs ?_ | refine Xt ?_ | ((refine Qe ?_);first | refine Xb ?_ | refine XP ?_ | refine Xi (by assumption) ?_ | refine QM rfl rfl rfl rfl rfl rfl ?_ | refine Q7 rfl rfl rfl rfl rfl rfl rfl ?_ | refine Q6 rfl rfl rfl rfl rfl rfl rfl rfl rfl ?_) | ((refine Qc ?_);first | (have z:=s6;refine Uy rfl rfl (by omega) ?_;intro h8 e8 b8) | refine QN rfl c4 ?_ | (refine Qm rfl (k98 _) ?_;rintro v5 h5 ⟨e5,rfl⟩;replace c4:=c4.ext e5;have be5:=s4.be.ext e5;have bo5:=s4.bo.ext e5;have x5:=s4.x.trans e5) | (refine Qm rfl (i1 _ _ be5) ?_;rintro v6 h6 ⟨e6,ide,l6,rfl,b6⟩;replace c4:=c4.ext e6;have bo6:=bo5.ext e6;have x6:=x5.trans e6) | (refine Qm rfl (i2 _ _ bo6) ?_;rintro v7 h7 ⟨e7,ido,l7,rfl,b7⟩;replace c4:=c4.ext e7;have be7:=b6.ext e7;have s6:=x6.trans e7) | refine QA rfl rfl ?_ | refine Qp rfl ?_))
    have lo7:h0.length≤h7.length∧ide < h7.length∧ido < h7.length∧h0.length < h7.length:=⟨s6.len,be7.lt,b7.lt,c4.lt⟩
    refine Q2 (Qfz p g h0.length ide ido h7.length N w Te To h0) N (Qh1 p g h0.length ide ido h7.length N w Te To h0) ⟨0,Nat.zero_le _,rfl,⟨s6.trans e8,c4.ext e8,be7.ext e8,b7.ext e8,by unfold yx;rw [Za,Za,List.replicate_append_replicate,show N+N=2*N by omega];exact b8,lo7⟩,rfl⟩ (Qcx p g h0.length ide ido h7.length N w Te To h0 hp hw ⟨te,pe⟩ ⟨tq,po⟩ (by omega)) ?_
    rintro ex E' h9 ⟨rfl,s9,_,_,_,_,_,_,_,_,_,rfl⟩
    repeat' (first | refine Qh ?_ | refine Qb ?_ | refine QE ?_ | refine Qs ?_ | refine Qf ?_ | ((refine Qe ?_);refine Qr rfl ?_) | ((refine Qc ?_);refine Qp rfl ?_))
    exact ⟨.inr rfl,s9.x,h7.length,lo7.1,rfl,s9.bv⟩
end Go.Proofs.YtofknpknogfijaaGreatDoor
