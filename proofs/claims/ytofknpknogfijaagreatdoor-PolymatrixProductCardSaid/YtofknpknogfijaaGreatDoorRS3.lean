/- Rows of residue -/
import Derived.Test.YtofknpknogfijaaGreatDoorPR2
import Derived.Test.YtofknpknogfijaaGreatDoorAb50
namespace Go.Proofs.YtofknpknogfijaaGreatDoor
open Go.Ab
set_option linter.all false
set_option maxHeartbeats 16000000
set_option maxRecDepth 20000
attribute [local irreducible] Qm wA Xp Xo QI Qp QZ QY
variable [HB]
structure Chg(S:Nat->Prop)(h h':Qa):Prop where
 len:h.length<=h'.length
 same:∀ j,j<h.length->¬ S j->h'[j]?=h[j]?
theorem Chg.refl{S:Nat->Prop}(h:Qa):Chg S h h:=⟨Gd _,fun _ _ _=>rfl⟩
theorem Chg.trans{S:Nat->Prop}{a b c:Qa}(x:Chg S a b)(y:Chg S b c):Chg S a c:=⟨Gq x.len y.len,fun j h1 h2=>by rw[y.same j (GL h1 x.len) h2,x.same j h1 h2]⟩
theorem Chg.mono{S T:Nat->Prop}{a b:Qa}(x:Chg S a b)(h:∀ j,j<a.length->S j->T j):Chg T a b:=⟨x.len,fun j h1 h2=>x.same j h1 fun h3=>h2 (h j h1 h3)⟩
theorem Chg.ext{S:Nat->Prop}{a b c:Qa}(x:Chg S a b)(e:Ext b c):Chg S a c:=by
 obtain⟨t,rfl⟩:=e
 exact x.trans ⟨by simp,fun j h1 _=>by rw[Gn h1]⟩
theorem Chg.set{S:Nat->Prop}{a b:Qa}(x:Chg S a b){id:Nat}(hs:S id)(blk:Blk):Chg S a (b.set id blk) :=
 x.trans ⟨by simp,fun j h1 h2=>Gk (fun e=>h2 (by rw[← e];exact hs))⟩
theorem Chg.toExt{a b:Qa}(x:Chg (fun _=>False) a b):Ext a b:=by
 refine⟨b.drop a.length,?_⟩
 apply Gt
 intro i
 rcases GD i a.length with h|h
 ·rw[Gn h,x.same i h (fun h=>h)]
 ·rw[Gi h,GR];congr 1;omega
theorem Chg.get{S:Nat->Prop}{a b:Qa}(x:Chg S a b){j:Nat}{blk:Blk}(h:a[j]?=some blk)(hs:¬ S j):b[j]?=some blk:=by
 rw[x.same j (Gb.1 h).1 hs,h]
def Bu(h:Qa)(id:Nat)(xs:List Nat):Prop:=h[id]?=some (.cells (xs.map fun (x:Nat)=>SV.int .u64 (x:Int)) true 1)
theorem Bu.ext{h h':Qa}{id:Nat}{xs:List Nat}(b:Bu h id xs)(e:Ext h h'):Bu h' id xs:=by
 obtain⟨t,rfl⟩:=e
 unfold Bu at *
 rw[Gn (Gb.1 b).1,b]
theorem Bu.lt{h:Qa}{id:Nat}{xs:List Nat}(b:Bu h id xs):id<h.length:=(Gb.1 b).1
theorem Bu.rd{h:Qa}{id i:Nat}{xs:List Nat}(b:Bu h id xs)(hi:i<xs.length):Q3 h id (0+i*1) 1=some [.int .u64 ((xs.getD i 0:Nat):Int)]:=by
 unfold Bu at b
 simp only[Q3,b,cut,Gj]
 rw[if_pos (by omega)]
 congr 1
 rw[Hd,Hh]
 apply Gt
 intro j
 cases j with
 | zero=>simp[Ge,Ga hi]
 | succ j=>simp;omega
theorem Bu.wr{h:Qa}{id i y:Nat}{xs:List Nat}(b:Bu h id xs)(hi:i<xs.length):Xx h id (0+i*1) [.int .u64 (y:Int)]=some (h.set id (.cells ((xs.set i y).map fun (x:Nat)=>SV.int .u64 (x:Int)) true 1)):=by
 unfold Bu at b
 simp only[Xx,b,Gj,Gu,GC]
 rw[if_pos (by omega)]
 congr 3
 unfold Q8
 rw[Hd,Hh]
 apply Gt
 intro j
 simp only[Gu,GC,Gh,GQ]
 rcases Nat.lt_trichotomy j i with h1|h1|h1
 ·rw[if_neg (by omega),GK,Gn (by simp;omega)]
  simp[GM,h1]
 ·subst h1
  rw[if_pos rfl,if_pos hi,GK,Gi (by simp;omega)]
  simp[GV (HG hi)]
 ·rw[if_neg (by omega),Gi (by simp;omega)]
  simp only[Gz,GJ,Gj,Gu,GC,GR,Gh]
  rw[GV (HG hi)]
  congr 2;omega
theorem Bu.set{h:Qa}{id:Nat}{xs ys:List Nat}(b:Bu h id xs):Bu (h.set id (.cells (ys.map fun (x:Nat)=>SV.int .u64 (x:Int)) true 1)) id ys:=by
 unfold Bu;rw[GA b.lt]
theorem Bu.other{h:Qa}{id j:Nat}{xs:List Nat}(b:Bu h j xs)(hn:id≠j)(blk:Blk):Bu (h.set id blk) j xs:=by
 unfold Bu at *;rw[Gk hn,b]
theorem Cel.other{h:Qa}{id j:Nat}{x y:SV}(b:Cel h j x y)(hn:id≠j)(blk:Blk):Cel (h.set id blk) j x y:=by
 unfold Cel at *;rw[Gk hn];exact b
theorem Cel1.other{h:Qa}{id j:Nat}{x:SV}(b:Cel1 h j x)(hn:id≠j)(blk:Blk):Cel1 (h.set id blk) j x:=by
 unfold Cel1 at *;rw[Gk hn];exact b
def elP(p k f c:Nat)(piv r:List Nat):List Nat:=r.mapIdx fun i x=>if k<i/\i<c then sbM p x (f*piv.getD i 0%p) else x
theorem Qbc{p k f c:Nat}{piv r:List Nat}:(elP p k f c piv r).length=r.length:=by simp[elP]
theorem QfS{p k f:Nat}{piv r:List Nat}:elP p k f (k+1) piv r=r:=by
 unfold elP
 apply Gt
 intro i
 rw[GT]
 cases r[i]? with
 | none=>rfl
 | some x=>simp only[Gp];rw[if_neg (by omega)]
theorem QkU{p k f:Nat}{piv r:List Nat}:elP p k f r.length piv r=elR p k f piv r:=by
 unfold elP elR
 apply Gt
 intro i
 rw[GT,GT]
 cases h:r[i]? with
 | none=>rfl
 | some x =>
  have:=(Gb.1 h).1
  simp only[Gp]
  by_cases hk:k<i
  ·rw[if_pos ⟨hk,this⟩,if_pos hk]
  ·rw[if_neg (by omega),if_neg hk]
theorem Qh1{p k f c:Nat}{piv r:List Nat}(h:c<r.length):(elP p k f c piv r).getD c 0=r.getD c 0:=by
 unfold elP
 simp only[Ge,GT]
 rw[Ga h]
 simp
theorem Qcy{p k f c:Nat}{piv r:List Nat}(hk:k<c)(h:c<r.length):(elP p k f c piv r).set c (sbM p (r.getD c 0) (f*piv.getD c 0%p))=elP p k f (c+1) piv r:=by
 unfold elP
 apply Gt
 intro i
 rw[GQ,GT,GT,List.length_mapIdx]
 by_cases e:c=i
 ·subst e
  rw[if_pos rfl,if_pos h,Ga h]
  simp only[Gp]
  rw[if_pos ⟨hk,by omega⟩,Ge,Ga h];rfl
 ·rw[if_neg e]
  cases r[i]? with
  | none=>rfl
  | some x =>
   simp only[Gp]
   by_cases h1:k<i/\i<c
   ·rw[if_pos h1,if_pos ⟨h1.1,by omega⟩]
   ·rw[if_neg h1,if_neg (by omega)]
theorem QbH{p x:Nat}:sbM p x 0=x:=by unfold sbM;rw[if_neg (by omega)];rfl
theorem Qh0{p k f c:Nat}{piv r:List Nat}(hk:k<c)(h:c<r.length)(h0:f*piv.getD c 0%p=0):elP p k f c piv r=elP p k f (c+1) piv r:=by
 rw[← Qcy hk h,h0,QbH,← Qh1 (p:=p) (k:=k) (f:=f) (piv:=piv) h]
 apply Gt
 intro i
 rw[GQ]
 by_cases e:c=i
 ·subst e
  have hl:c<(elP p k f c piv r).length:=by rw[Qbc];exact h
  rw[if_pos rfl,if_pos hl,Ge,Ga hl];rfl
 ·rw[if_neg e]
theorem QhZ{p k:Nat}{piv r:List Nat}:elR p k 0 piv r=r:=by
 unfold elR
 apply Gt
 intro i
 rw[GT]
 cases r[i]? with
 | none=>rfl
 | some x=>simp only[Gp,Nat.zero_mul,Nat.zero_mod,QbH,ite_self]
structure S141(p g id pid q8 q2 n:Nat)(cap:Option Nat)(piv row:List Nat)(h0 h:Qa):Prop where
 c:Chg (·=id) h0 h
 b:Bu h id row
 bp:Bu h pid piv
 c8:Cel1 h q8 (.slc pid 0 n cap)
 c2:Cel h q2 (.int .u64 (p:Nat)) (.int .u64 (g:Nat))
 ne:id≠pid/\id≠q8/\id≠q2
theorem S141.ext{p g id pid q8 q2 n:Nat}{cap:Option Nat}{piv row:List Nat}{h0 h h':Qa}(s:S141 p g id pid q8 q2 n cap piv row h0 h)(e:Ext h h'):S141 p g id pid q8 q2 n cap piv row h0 h':=⟨s.c.ext e,s.b.ext e,s.bp.ext e,s.c8.ext e,s.c2.ext e,s.ne⟩
theorem S141.put{p g id pid q8 q2 n:Nat}{cap:Option Nat}{piv row:List Nat}{h0 h:Qa}(s:S141 p g id pid q8 q2 n cap piv row h0 h)(ys:List Nat):S141 p g id pid q8 q2 n cap piv ys h0 (h.set id (.cells (ys.map fun (x:Nat)=>SV.int .u64 (x:Int)) true 1)) :=
 ⟨s.c.set rfl _,s.b.set,s.bp.other s.ne.1 _,Cel1.other s.c8 s.ne.2.1 _,Cel.other s.c2 s.ne.2.2 _,s.ne⟩
def I141(p g id pid q8 q2 n k f:Nat)(cap cap':Option Nat)(piv row:List Nat)(h0:Qa)(m:Nat)(E:Env)(h:Qa):Prop:=∃ c,k<c/\c<=n/\m=n-c/\S141 p g id pid q8 q2 n cap piv (elP p k f c piv row) h0 h ∧
 E.keep [0,1,3,4,7]=[(0,some (.sc (.slc id 0 n cap'))),(1,some (u f)),(3,some (.sc (.ptr q8 0))),(4,some (.sc (.ptr q2 0))),(7,some (.sc (.int .i64 (c:Nat))))]
def R141(p g id pid q8 q2 n k f:Nat)(cap:Option Nat)(piv row:List Nat)(h0:Qa)(ex:Ex)(E:Env)(h:Qa):Prop:=ex = .ex 0/\S141 p g id pid q8 q2 n cap piv (elR p k f piv row) h0 h
theorem QgM(p g id pid q8 q2 n k f:Nat)(cap cap':Option Nat)(piv row:List Nat)(h0:Qa)(hp:0<p/\p<9223372036854775808)(hf:f<p)(hr:row.length=n)(hv:piv.length=n)(hn:n<1000000)
  (hrp:∀ x∈row,x<p) (hvp:∀ x∈piv,x<p) (m:Nat) (E:Env) (h:Qa) (hI:I141 p g id pid q8 q2 n k f cap cap' piv row h0 m E h) :
  wA FT HKt Qiw (E.keep [0,1,3,4,7]) h (Qp (I141 p g id pid q8 q2 n k f cap cap' piv row h0) m (R141 p g id pid q8 q2 n k f cap piv row h0)):=by
 obtain⟨c,hk,hc,rfl,s,hE⟩:=hI
 rw[hE]
 by_cases hlt:c<n
 ·have rv:=s.bp.rd (i:=c) (by omega)
  have rr:=s.b.rd (i:=c) (by rw[Qbc];omega)
  rw[Qh1 (by omega)]at rr
  have hx:row.getD c 0<p:=by rw[Ge,Ga (by omega)];exact hrp _ (GI _)
  have hy:piv.getD c 0<p:=by rw[Ge,Ga (by omega)];exact hvp _ (GI _)
  have c8:=s.c8
  have c2:=s.c2
  have st:=Qcy (p:=p) (k:=k) (f:=f) (piv:=piv) (r:=row) (c:=c) hk (by omega)
  by_cases h0':piv.getD c 0=0
  ·have sk:=Qh0 (p:=p) (k:=k) (f:=f) (piv:=piv) (r:=row) (c:=c) hk (by omega) (by rw[h0'];simp)
   rw[sk]at s
   rw[h0']at rv
   repeat' first|apply Qf|apply Qb|apply Qt|apply QL|apply Qn|apply Qe|(apply Qg;first|refine Qk rfl ?_|refine Qi rfl ?_)|(apply Qd;first|refine QO rfl rfl rfl rfl rfl ?_|refine QE rfl rfl rfl rfl rfl rfl ?_)|(apply Qc;first|refine XG rfl c8.at rfl ?_|refine Qr rfl rfl ?_|refine Qy (esz:=1) rfl rfl (by omega) ?_|refine Q1 rfl rv ?_|refine Ql rfl ?_|refine QM rfl rfl (by omega) ?_|refine Qx rfl rfl (by omega) ?_|refine XJ rfl rfl (by omega) ?_)
   exact Qz (j:=n-(c+1)) (by omega) ⟨c+1,by omega,by omega,rfl,s,rfl⟩
  ·have k98:=fun H=>Za H p g f (piv.getD c 0) ⟨hp.1,by omega⟩ (by omega) (by omega)
   have k122:=fun H=>UK H p g (row.getD c 0) (f*piv.getD c 0%p) hp.2 hx (HG (GY _ hp.1))
   generalize piv.getD c 0=y at *
   generalize row.getD c 0=x at *
   repeat' first|apply Qf|apply Qb|apply Qt|apply QL|apply Qn|apply Qe|apply Q7|apply Xm|apply Xn|(apply Qg;refine Qk rfl ?_)|(apply Qd;first|apply Q5|apply Xw|refine XP (by assumption) ?_|refine QO rfl rfl rfl rfl rfl ?_|refine QE rfl rfl rfl rfl rfl rfl ?_)|(apply Qc;first|refine XG rfl c8.at rfl ?_|refine QU rfl c2 ?_|refine Qr rfl rfl ?_|refine Qy (esz:=1) rfl rfl (by omega) ?_|refine Q1 rfl rv ?_|refine Q1 rfl rr ?_|(refine Qj rfl (k98 _) ?_;rintro v h1 ⟨e1,rfl⟩;replace s:=s.ext e1)|(refine Qj rfl (k122 _) ?_;rintro v h2 ⟨e2,rfl⟩;replace s:=s.ext e2;have wr:=s.b.wr (i:=c) (y:=sbM p x (f*y%p)) (by rw[Qbc];omega))|refine Jk rfl rfl wr ?_|refine Ql rfl ?_|refine QM rfl rfl (by omega) ?_|refine Qx rfl rfl (by omega) ?_|refine Ya rfl rfl (by omega) ?_)
   refine Qz (j:=n-(c+1)) (by omega) ⟨c+1,by omega,by omega,rfl,?_,rfl⟩
   rw[← st]
   exact s.put _
 ·have:c=n:=by omega
  subst this
  repeat' first|apply Qf|apply Qb|apply QS|apply QQ|apply Qe|(apply Qg;refine Qi rfl ?_)|(apply Qd;refine QE rfl rfl rfl rfl rfl rfl ?_)|(apply Qc;first|refine Qr rfl rfl ?_|refine Ql rfl ?_|refine QF rfl rfl (by omega) ?_)
  refine QB ⟨rfl,?_⟩
  rw[← hr,QkU]at s
  rw[← hr];exact s
theorem Qk7(p g id pid q6 q8 q2 n k f:Nat)(cap cap':Option Nat)(piv row:List Nat)(h0:Qa)(hp:0<p/\p<9223372036854775808)(hf:f<p)(hr:row.length=n)(hv:piv.length=n)(hn:n<1000000)
  (hrp:∀ x∈row,x<p) (hvp:∀ x∈piv,x<p) (hk:k<n) (c6:Cel1 h0 q6 (.int .i64 (k:Nat))) (s:S141 p g id pid q8 q2 n cap piv row h0 h0) :
  ∃ r h',Cal FT HKt 141 ([.sc (.slc id 0 n cap'),u f]++([(q6,0),(q8,0),(q2,0)]:List (Nat×Nat)).map fun p=>AV.sc (.ptr p.1 p.2)) h0 r h'/\S141 p g id pid q8 q2 n cap piv (elR p k f piv row) h0 h':=by
 refine Cal.of (F:=a141) rfl rfl rfl ?_
 repeat' first|apply Qf|apply Qb|apply Qt|apply Qe|(apply Qd;refine QO rfl rfl rfl rfl rfl ?_)|(apply Qc;first|refine XG rfl c6.at rfl ?_|refine Ql rfl ?_|refine QM rfl rfl (by omega) ?_)
 refine QV (I141 p g id pid q8 q2 n k f cap cap' piv row h0) (n-(k+1)) (R141 p g id pid q8 q2 n k f cap piv row h0) ⟨k+1,by omega,by omega,rfl,by rw[QfS];exact s,rfl⟩ (QgM p g id pid q8 q2 n k f cap cap' piv row h0 hp hf hr hv hn hrp hvp) ?_
 rintro ex E' h2 ⟨rfl,s2⟩
 repeat' (refine QK ?_)
 exact⟨.inl rfl,s2⟩
abbrev X8:=Nat×List Nat
def Ym(n:Nat)(m:X8):SV := .slc m.1 0 n (some n)
structure Mx(h:Qa)(q n:Nat)(ms:List X8):Prop where
 top:h[q]?=some (.cells (ms.map (Ym n)) true 1)
 nd:(ms.map (·.1)).Nodup
 qn:q ∉ ms.map (·.1)
 row:∀ m∈ms,Bu h m.1 m.2
theorem Mx.ext{h h':Qa}{q n:Nat}{ms:List X8}(m:Mx h q n ms)(e:Ext h h'):Mx h' q n ms:=by
 refine⟨?_,m.nd,m.qn,fun x hx=>(m.row x hx).ext e⟩
 obtain⟨t,rfl⟩:=e
 rw[Gn (Gb.1 m.top).1,m.top]
theorem Mx.rd{h:Qa}{q n i:Nat}{ms:List X8}{x:X8}(m:Mx h q n ms)(hi:ms[i]?=some x):Q3 h q (0+i*1) 1=some [Ym n x]:=by
 have hl:=(Gb.1 hi).1
 simp only[Q3,m.top,cut,Gj]
 rw[if_pos (by omega)]
 congr 1
 rw[Hd,Hh]
 apply Gt
 intro j
 cases j with
 | zero=>simp[hi]
 | succ j=>simp;omega
def zO(p n:Nat)(ms:List X8):Prop:=∀ m∈ms,m.2.length=n/\∀ x∈m.2,x<p
def Qje(p g q q2 q6 n k d:Nat)(ms:List X8)(hb:Qa)(m:Nat)(E:Env)(h:Qa):Prop:=∃ j,k<=j/\j<=n/\m=n-j/\h=hb/\(∀(i:Nat) (x:X8),k<=i->i<j->ms[i]?=some x->x.2.getD k 0=0) ∧
 E.keep [1,2,5,6,7,14,15]=[(1,some (.sc (.slc q 0 n (some n)))),(2,some (.sc (.ptr q2 0))),(5,some (u d)),(6,some (.sc (.ptr q6 0))),(7,some (.sc (.int .i64 (j:Nat)))),(14,some (.sc (.int .i64 (n:Nat)))),(15,some (.sc (.int .i64 (k:Nat))))]
def QmK(p g q q2 q6 n k d:Nat)(ms:List X8)(hb:Qa)(ex:Ex)(E:Env)(h:Qa):Prop:=ex = .ex 2/\h=hb/\∃ j,k<=j/\j<=n/\(∀(i:Nat) (x:X8),k<=i->i<j->ms[i]?=some x->x.2.getD k 0=0)/\(∀ x:X8,ms[j]?=some x->x.2.getD k 0≠0) ∧
 ∃ a,E=[(1,some (.sc (.slc q 0 n (some n)))),(2,some (.sc (.ptr q2 0))),(5,some (u d)),(6,some (.sc (.ptr q6 0))),(7,some (.sc (.int .i64 (j:Nat)))),(14,some (.sc (.int .i64 (n:Nat)))),(15,some (.sc (.int .i64 (k:Nat)))),(32,a)]
theorem Qfe(p g q q2 q6 n k d:Nat)(ms:List X8)(hb:Qa)(hn:n<1000000)(hk:k<n)(hl:ms.length=n)(M:Mx hb q n ms)(ro:zO p n ms)(c6:Cel1 hb q6 (.int .i64 (k:Nat)))(m:Nat)(E:Env)(h:Qa)(hI:Qje p g q q2 q6 n k d ms hb m E h) :
  wA FT HKt QiA (E.keep [1,2,5,6,7,14,15]) h (Qp (Qje p g q q2 q6 n k d ms hb) m (QmK p g q q2 q6 n k d ms hb)):=by
 obtain⟨j,hkj,hj,rfl,rfl,hz,hE⟩:=hI
 rw[hE]
 by_cases hlt:j<n
 ·obtain⟨x,hx⟩:∃ x,ms[j]?=some x:=⟨_,Ga (by omega)⟩
  have hxm:=Gg hx
  have r1:=M.rd hx
  obtain⟨id,r⟩:=x
  have r2:=(M.row _ hxm).rd (i:=k) (by rw[(ro _ hxm).1];exact hk)
  simp only[Ym]at r1 r2
  by_cases h0:r.getD k 0=0
  ·rw[h0]at r2
   repeat' first|apply Qf|apply Qb|apply Qt|apply QL|apply Qn|apply Qe|apply Q7|apply Xm|apply Xn|(apply Qg;refine Qk rfl ?_)|(apply Qd;first|apply Q5|refine Q4 rfl rfl rfl rfl rfl rfl rfl ?_|refine Xh rfl rfl rfl rfl rfl rfl rfl rfl ?_)|(apply Qc;first|refine Qr rfl rfl ?_|refine XG rfl c6.at rfl ?_|refine Qy (esz:=1) rfl rfl (by omega) ?_|refine Q1 rfl r1 ?_|refine Q1 rfl r2 ?_|refine QP rfl ?_|refine Ql rfl ?_|refine QR rfl rfl ?_|refine QM rfl rfl (by omega) ?_|refine Qx rfl rfl (by omega) ?_|refine Xu rfl rfl (by omega) ?_)
   refine Qz (j:=n-(j+1)) (by omega) ⟨j+1,by omega,by omega,rfl,rfl,fun i y h1 h2 h3=>?_,rfl⟩
   by_cases e:i=j
   ·subst e;rw[hx]at h3;cases h3;exact h0
   ·exact hz i y h1 (by omega) h3
  ·generalize hv:r.getD k 0=v at *
   repeat' first|apply Qf|apply Qb|apply QS|apply QQ|apply Q7|apply Xm|apply Xn|(apply Qg;refine Qi rfl ?_)|(apply Qd;first|apply Q5|refine Xh rfl rfl rfl rfl rfl rfl rfl rfl ?_)|(apply Qc;first|refine Qr rfl rfl ?_|refine XG rfl c6.at rfl ?_|refine Qy (esz:=1) rfl rfl (by omega) ?_|refine Q1 rfl r1 ?_|refine Q1 rfl r2 ?_|refine Xl rfl rfl (by omega) ?_|refine QP rfl ?_|refine Ql rfl ?_|refine QR rfl rfl ?_|refine Qx rfl rfl (by omega) ?_)
   refine QB ⟨rfl,rfl,j,hkj,hj,hz,fun y hy=>?_,_,rfl⟩
   rw[hx]at hy;cases hy;rw[hv];exact h0
 ·have:j=n:=by omega
  subst this
  repeat' first|apply Qf|apply Qb|apply QS|apply QQ|apply Q7|apply Xm|apply Xn|(apply Qg;refine Qi rfl ?_)|(apply Qd;first|apply Q5|refine Xh rfl rfl rfl rfl rfl rfl rfl rfl ?_)|(apply Qc;first|refine Qr rfl rfl ?_|refine Xd rfl ?_|refine Ql rfl ?_|refine QJ rfl rfl ?_|refine QF rfl rfl (by omega) ?_)
  refine QB ⟨rfl,rfl,j,hkj,hj,hz,fun y hy=>?_,_,rfl⟩
  rw[Gr (by omega)]at hy;cases hy
structure S130(p g q q2 q6 q8 n k:Nat)(pre Zv:List X8)(pv:X8)(dn:List X8)(h0 h:Qa):Prop where
 c:Chg (fun j=>j=q∨∃ m∈pre++pv::(dn++Zv),m.1=j) h0 h
 M:Mx h q n (pre++pv::(dn++Zv))
 ro:zO p n (pre++pv::(dn++Zv))
 c2:Cel h q2 (.int .u64 (p:Nat)) (.int .u64 (g:Nat))
 c6:Cel1 h q6 (.int .i64 (k:Nat))
 c8:Cel1 h q8 (.slc pv.1 0 n (some n))
 ne:∀ m∈pre++pv::(dn++Zv),m.1≠q2/\m.1≠q6/\m.1≠q8
theorem S130.ext{p g q q2 q6 q8 n k:Nat}{pre Zv dn:List X8}{pv:X8}{h0 h h':Qa}(s:S130 p g q q2 q6 q8 n k pre Zv pv dn h0 h)(e:Ext h h'):S130 p g q q2 q6 q8 n k pre Zv pv dn h0 h' :=
 ⟨s.c.ext e,s.M.ext e,s.ro,s.c2.ext e,s.c6.ext e,s.c8.ext e,s.ne⟩
theorem Chg.cel{S:Nat->Prop}{a b:Qa}(x:Chg S a b){q:Nat}{v w:SV}(c:Cel a q v w)(hs:¬ S q):Cel b q v w:=x.get c hs
theorem Chg.cel1{S:Nat->Prop}{a b:Qa}(x:Chg S a b){q:Nat}{v:SV}(c:Cel1 a q v)(hs:¬ S q):Cel1 b q v:=x.get c hs
theorem Chg.bu{S:Nat->Prop}{a b:Qa}(x:Chg S a b){q:Nat}{xs:List Nat}(c:Bu a q xs)(hs:¬ S q):Bu b q xs:=x.get c hs
theorem Qha{A B:List X8}{x:X8}(h:((A++x::B).map (·.1)).Nodup){m:X8}(hm:m∈A∨m∈B):m.1≠x.1:=fun e=>by
 rw[GW,GE,List.nodup_append]at h
 obtain⟨h1,h2,h3⟩:=h
 rcases hm with hm|hm
 ·exact h3 m.1 (Gs.2 ⟨m,hm,rfl⟩) x.1 (.head _) e
 ·exact(List.nodup_cons.1 h2).1 (Gs.2 ⟨m,hm,e⟩)
theorem Mx.upd{h h':Qa}{q n:Nat}{A B:List X8}{x y:X8}(m:Mx h q n (A++x::B))(c:Chg (·=x.1) h h')(hy:y.1=x.1)(b:Bu h' y.1 y.2):Mx h' q n (A++y::B):=by
 have e1:(A++y::B).map (·.1)=(A++x::B).map (·.1):=by simp[hy]
 have e2:(A++y::B).map (Ym n)=(A++x::B).map (Ym n):=by simp[Ym,hy]
 refine⟨?_,by rw[e1];exact m.nd,by rw[e1];exact m.qn,fun z hz=>?_⟩
 ·rw[e2]
  exact c.get m.top fun e=>m.qn (by rw[e];simp)
 ·rcases Gy.1 hz with hz|hz
  ·exact c.bu (m.row z (by simp[hz])) (Qha m.nd (.inl hz))
  ·rcases GO.1 hz with rfl|hz
   ·exact b
   ·exact c.bu (m.row z (by simp[hz])) (Qha m.nd (.inr hz))
def elM(p k iv:Nat)(pv m:X8):X8:=(m.1,elR p k (m.2.getD k 0*iv%p) pv.2 m.2)
theorem QkS{p k f:Nat}{piv r:List Nat}:(elR p k f piv r).length=r.length:=by simp[elR]
theorem QkR{p k f:Nat}{piv r:List Nat}(h:∀ x∈r,x<p):∀ x∈elR p k f piv r,x<p:=fun x hx=>by
 unfold elR at hx
 rw[List.mem_mapIdx]at hx
 obtain⟨i,hi,rfl⟩:=hx
 have:=h _ (GI hi)
 split
 ·exact y7 this
 ·exact this
theorem S130.step{p g q q2 q6 q8 n k iv:Nat}{pre Zv dn:List X8}{pv x:X8}{h0 h h':Qa}(s:S130 p g q q2 q6 q8 n k pre (x::Zv) pv dn h0 h)
  (t:S141 p g x.1 pv.1 q8 q2 n (some n) pv.2 (elM p k iv pv x).2 h h'):S130 p g q q2 q6 q8 n k pre Zv pv (dn++[elM p k iv pv x]) h0 h':=by
 have eL:pre++pv::(dn++x::Zv)=(pre++pv::dn)++x::Zv:=by simp
 have eL':pre++pv::((dn++[elM p k iv pv x])++Zv)=(pre++pv::dn)++elM p k iv pv x::Zv:=by simp
 have hx:x∈pre++pv::(dn++x::Zv):=by simp
 have mem:∀ m∈(pre++pv::dn)++elM p k iv pv x::Zv,m=elM p k iv pv x∨m∈(pre++pv::dn)++x::Zv:=fun m hm=>by
  rcases Gy.1 hm with hm|hm
  ·exact .inr (Gy.2 (.inl hm))
  ·rcases GO.1 hm with hm|hm
   ·exact .inl hm
   ·exact .inr (Gy.2 (.inr (.tail _ hm)))
 have nx:=s.ne x hx
 refine⟨?_,?_,?_,t.c.cel s.c2 (fun e=>nx.1 e.symm),t.c.cel1 s.c6 (fun e=>nx.2.1 e.symm),t.c8,?_⟩
 ·rw[eL']
  refine(s.c.mono fun j _ hj=>?_).trans (t.c.mono fun j _ hj => .inr ⟨elM p k iv pv x,by simp,hj.symm⟩)
  rcases hj with hj|⟨m,hm,rfl⟩
  ·exact .inl hj
  ·refine .inr ?_
   rw[eL]at hm
   rcases Gy.1 hm with hm|hm
   ·exact⟨m,Gy.2 (.inl hm),rfl⟩
   ·rcases GO.1 hm with rfl|hm
    ·exact⟨elM p k iv pv m,by simp,rfl⟩
    ·exact⟨m,Gy.2 (.inr (.tail _ hm)),rfl⟩
 ·rw[eL']
  exact Mx.upd (eL ▸ s.M) t.c rfl t.b
 ·rw[eL']
  intro m hm
  rcases mem m hm with rfl|hm
  ·have:=s.ro x hx
   exact⟨by show (elR _ _ _ _ _).length=n;rw[QkS];exact this.1,QkR this.2⟩
  ·exact s.ro m (eL ▸ hm)
 ·rw[eL']
  intro m hm
  rcases mem m hm with rfl|hm
  ·exact nx
  ·exact s.ne m (eL ▸ hm)
def Qjd(p g q q2 q6 q8 n k d iv:Nat)(pre rest:List X8)(pv:X8)(h0:Qa)(m:Nat)(E:Env)(h:Qa):Prop:=∃ i,i<=rest.length/\m=rest.length-i ∧
 S130 p g q q2 q6 q8 n k pre (rest.drop i) pv ((rest.take i).map (elM p k iv pv)) h0 h ∧
 E.keep [1,2,5,6,9,10,14,15,80,81,82]=[(1,some (.sc (.slc q 0 n (some n)))),(2,some (.sc (.ptr q2 0))),(5,some (u d)),(6,some (.sc (.ptr q6 0))),(9,some (u iv)),(10,some (.sc (.fn 141 [(q6,0),(q8,0),(q2,0)]))),(14,some (.sc (.int .i64 (n:Nat)))),(15,some (.sc (.int .i64 (k:Nat)))),(80,some (.sc (.slc q (0+(k+1)) (n-(k+1)) (some (n-(k+1)))))),(81,some (.sc (.int .i64 ((n-(k+1):Nat):Int)))),(82,some (.sc (.int .i64 (i:Nat))))]
def QmJ(p g q q2 q6 q8 n k d iv:Nat)(pre rest:List X8)(pv:X8)(h0:Qa)(ex:Ex)(E:Env)(h:Qa):Prop:=ex = .ex 4/\S130 p g q q2 q6 q8 n k pre [] pv (rest.map (elM p k iv pv)) h0 h ∧
 ∃ a b c e f g' l,E=[(1,some (.sc (.slc q 0 n (some n)))),(2,some (.sc (.ptr q2 0))),(5,some (u d)),(6,a),(9,b),(10,c),(14,some (.sc (.int .i64 (n:Nat)))),(15,some (.sc (.int .i64 (k:Nat)))),(80,e),(81,f),(82,g'),(83,l)]
theorem Qfd(p g q q2 q6 q8 n k d iv:Nat)(pre rest:List X8)(pv:X8)(h0:Qa)(hp:0<p/\p<9223372036854775808)(hn:n<1000000)(hk:k=pre.length)(hl:rest.length+(k+1)=n)(hiv:iv<p)(m:Nat)(E:Env)(h:Qa)(hI:Qjd p g q q2 q6 q8 n k d iv pre rest pv h0 m E h) :
  wA FT HKt Qiz (E.keep [1,2,5,6,9,10,14,15,80,81,82]) h (Qp (Qjd p g q q2 q6 q8 n k d iv pre rest pv h0) m (QmJ p g q q2 q6 q8 n k d iv pre rest pv h0)):=by
 obtain⟨i,hi,rfl,s,hE⟩:=hI
 rw[hE]
 by_cases hlt:i<rest.length
 ·obtain⟨x,hx⟩:∃ x,rest[i]?=some x:=⟨_,Ga hlt⟩
  have hdr:rest.drop i=x::rest.drop (i+1):=by
   rw[G2 hlt]
   congr 1
   rw[Ga hlt]at hx
   exact Option.some.inj hx
  have htk:(rest.take (i+1)).map (elM p k iv pv)=(rest.take i).map (elM p k iv pv)++[elM p k iv pv x]:=by
   rw[GB,hx];simp
  rw[hdr]at s
  have hxm:x∈pre++pv::((rest.take i).map (elM p k iv pv)++x::rest.drop (i+1)):=by simp
  have hpm:pv∈pre++pv::((rest.take i).map (elM p k iv pv)++x::rest.drop (i+1)):=by simp
  have hat:(pre++pv::((rest.take i).map (elM p k iv pv)++x::rest.drop (i+1)))[k+1+i]?=some x:=by
   rw[Gi (by omega),show k+1+i-pre.length=i+1 by omega,List.getElem?_cons_succ,Gi (by simp;omega)]
   simp[GV (HG hlt)]
  have r1:=s.M.rd hat
  rw[show 0+(k+1+i)*1=0+(k+1)+i*1 by omega]at r1
  have rx:=s.ro x hxm
  have rp:=s.ro pv hpm
  have r2:=(s.M.row x hxm).rd (i:=k) (by rw[rx.1];omega)
  have nx:=s.ne x hxm
  have hxp:x.1≠pv.1:=by
   have:=s.M.nd
   rw[show pre++pv::((rest.take i).map (elM p k iv pv)++x::rest.drop (i+1))=(pre++pv::(rest.take i).map (elM p k iv pv))++x::rest.drop (i+1) by simp]at this
   exact(Qha this (m:=pv) (.inl (by simp))).symm
  have s0:∀ H,Ext h H->S141 p g x.1 pv.1 q8 q2 n (some n) pv.2 x.2 H H:=fun H e=>⟨Chg.refl _,(s.M.row x hxm).ext e,(s.M.row pv hpm).ext e,s.c8.ext e,s.c2.ext e,hxp,nx.2.2,nx.1⟩
  have hvk:x.2.getD k 0<p:=by rw[Ge,Ga (by rw[rx.1];omega)];exact rx.2 _ (GI _)
  have c2:=s.c2
  have c6:=s.c6
  have stp:=fun (H h':Qa) (e:Ext h H) (t:S141 p g x.1 pv.1 q8 q2 n (some n) pv.2 (elM p k iv pv x).2 H h')=>S130.step (iv:=iv) (s.ext e) t
  have skp:x.2.getD k 0=0->S130 p g q q2 q6 q8 n k pre (rest.drop (i+1)) pv ((rest.take i).map (elM p k iv pv)++[elM p k iv pv x]) h0 h:=fun e=>by
   have e2:elM p k iv pv x=x:=by unfold elM;rw[e,Nat.zero_mul,Nat.zero_mod,QhZ]
   have:=s.step (iv:=iv) (h':=h) (by rw[e2];exact s0 h (Ext.refl _))
   exact this
  rw[← htk]at stp skp
  have k98:=fun H=>Za H p g (x.2.getD k 0) iv ⟨hp.1,by omega⟩ (by omega) (by omega)
  have k141:=fun H (e:Ext h H)=>Qk7 p g x.1 pv.1 q6 q8 q2 n k (x.2.getD k 0*iv%p) (some n) (some n) pv.2 x.2 H hp (GY _ hp.1) rx.1 rp.1 hn rx.2 rp.2 (by omega) (c6.ext e) (s0 H e)
  have hel:elR p k (x.2.getD k 0*iv%p) pv.2 x.2=(elM p k iv pv x).2:=rfl
  rw[hel]at k141
  clear hel
  simp only[Ym]at r1 r2
  by_cases h0':x.2.getD k 0=0
  ·have skp:=skp h0'
   rw[h0']at r2
   repeat' first|apply Qf|apply Qb|apply Qt|apply QL|apply Qn|apply Qe|(apply Qg;first|refine Qk rfl ?_|refine Qi rfl ?_)|(apply Qd;first|refine Yr rfl rfl rfl rfl rfl rfl rfl rfl rfl rfl rfl ?_|refine X0 rfl rfl rfl rfl rfl rfl rfl rfl rfl rfl rfl rfl ?_|refine Y5 rfl rfl rfl rfl rfl rfl rfl rfl rfl rfl rfl rfl rfl ?_)|(apply Qc;first|refine XG rfl c6.at rfl ?_|refine Qy (esz:=1) rfl rfl (by omega) ?_|refine Q1 rfl r1 ?_|refine Q1 rfl r2 ?_|refine Ql rfl ?_|refine QM rfl rfl (by omega) ?_|refine Qx rfl rfl (by omega) ?_|refine XJ rfl rfl (by omega) ?_)
   exact Qz (j:=rest.length-(i+1)) (by omega) ⟨i+1,by omega,rfl,skp,rfl⟩
  ·generalize x.2.getD k 0=v at *
   have e0:=Ext.refl h
   repeat' first|apply Qf|apply Qb|apply Qt|apply QL|apply Qn|apply Qe|apply Q7|apply Xm|apply Xn|(apply Qg;refine Qk rfl ?_)|(apply Qd;first|apply Q5|apply Xw|refine Yr rfl rfl rfl rfl rfl rfl rfl rfl rfl rfl rfl ?_|refine X0 rfl rfl rfl rfl rfl rfl rfl rfl rfl rfl rfl rfl ?_|refine Y5 rfl rfl rfl rfl rfl rfl rfl rfl rfl rfl rfl rfl rfl ?_)|(apply Qc;first|refine XG rfl (c6.ext e0).at rfl ?_|refine QU rfl c2 ?_|refine Qy (esz:=1) rfl rfl (by omega) ?_|refine Q1 rfl r1 ?_|refine Q1 rfl r2 ?_|refine Ya rfl rfl (by omega) ?_|(refine Qj rfl (k98 _) ?_;rintro v1 h1 ⟨e1,rfl⟩)|(refine XV rfl rfl (k141 _ e1) ?_;rintro v2 h2 t2)|refine Ql rfl ?_|refine QM rfl rfl (by omega) ?_|refine Qx rfl rfl (by omega) ?_)
   exact Qz (j:=rest.length-(i+1)) (by omega) ⟨i+1,by omega,rfl,stp _ _ e1 t2,rfl⟩
 ·have:i=rest.length:=by omega
  subst this
  repeat' first|apply Qf|apply Qb|apply QS|apply QQ|apply Qe|(apply Qg;refine Qi rfl ?_)|(apply Qd;refine X0 rfl rfl rfl rfl rfl rfl rfl rfl rfl rfl rfl rfl ?_)|(apply Qc;refine QF rfl rfl (by omega) ?_)
  rw[List.drop_length,Gx]at s
  exact QB ⟨rfl,s,_,_,_,_,_,_,_,rfl⟩
section
variable {FT:zzA} {HK:zzH} {E:Env} {h:Qa} {K:Env->Qa->Prop} {d:Option Nat} {r:List AOp} {x:AO}
theorem Qhx{t:Nat}{z v:SV}(hx:ev (Qv (some t) (some (.sc (.ptr h.length 0))) E) x=some (.sc v))(hw:∀ h1,Ext h h1->Cel1 h1 h.length v->Qm FT HK r (Qv (some t) (some (.sc (.ptr h.length 0))) E) h1 K) :
  Qm FT HK (⟨some t,.new [z],none⟩::⟨none,.st 1 (.t t) x,none⟩::r) E h K :=
 JE fun h1 e1 c1=>qH (by simp[evS,ev,Qv,Env.get]) hx c1 fun h2 e2 c2=>hw h2 (Chg.toExt ⟨by rw[e2];simpa using e1.len,fun j hj _=>by
  rw[e2,Gk (by omega)]
  obtain⟨t,rfl⟩:=e1
  rw[Gn hj]⟩) c2
end
theorem QcO{cs:List SV}{i:Nat}{v:SV}(h:i<cs.length):Q8 cs i [v]=cs.set i v:=by
 unfold Q8
 apply Gt
 intro j
 rw[GQ]
 rcases Nat.lt_trichotomy j i with h1|h1|h1
 ·rw[if_neg (by omega),GK,Gn (by simp;omega)]
  simp[GM,h1]
 ·subst h1
  rw[if_pos rfl,if_pos h,GK,Gi (by simp;omega)]
  simp[GV (HG h)]
 ·rw[if_neg (by omega),Gi (by simp;omega)]
  simp only[Gz,GJ,Gu,GC,GR]
  rw[GV (HG h)]
  congr 1;omega
theorem wr1{h:Qa}{q i:Nat}{cs:List SV}{z:ESz}{v:SV}(hb:h[q]?=some (.cells cs true z))(hi:i<cs.length):Xx h q (0+i*1) [v]=some (h.set q (.cells (cs.set i v) true z)):=by
 simp only[Xx,hb,Gu,GC]
 rw[if_pos (by omega),Hd,Hh,QcO hi]
theorem Mx.swap{h:Qa}{q n:Nat}{pre a' c:List X8}{x b:X8}(m:Mx h q n (pre++(x::a')++b::c)) :
  Mx ((h.set q (.cells (((pre++(x::a')++b::c).map (Ym n)).set (pre.length+1+a'.length) (Ym n x)) true 1)).set q (.cells ((((pre++(x::a')++b::c).map (Ym n)).set (pre.length+1+a'.length) (Ym n x)).set pre.length (Ym n b)) true 1)) q n (pre++b::(a'++x::c)):=by
 have hq:q<h.length:=(Gb.1 m.top).1
 have perm:∀ y,y∈pre++b::(a'++x::c)↔y∈pre++(x::a')++b::c:=fun y=>by
  simp only[Gy,GO]
  constructor
  ·rintro(h|h|h|h|h) <;> simp[h]
  ·rintro((h|h|h)|h|h) <;> simp[h]
 refine⟨?_,?_,?_,fun y hy=>?_⟩
 ·rw[GA (by simpa using hq)]
  congr 2
  have e1:(pre++(x::a')++b::c).map (Ym n)=pre.map (Ym n)++(Ym n x::(a'.map (Ym n)++Ym n b::c.map (Ym n))):=by simp
  rw[e1,Hc _ _ (by simp;omega),Gj,show pre.length+1+a'.length-pre.length=a'.length+1 by omega,List.set_cons_succ,Hc _ _ (by simp),Gj,G1,List.set_cons_zero,
   Hc _ _ (by simp),Gj,G1,List.set_cons_zero]
  simp
 ·have p1:((pre++(x::a')++b::c).map (·.1)).Perm ((pre++b::(a'++x::c)).map (·.1)):=by
   refine List.Perm.map _ ?_
   rw[GK]
   refine List.Perm.append_left _ ?_
   refine((List.perm_middle (a:=b) (l₁:=x::a') (l₂:=c))).trans (List.Perm.cons _ ?_)
   exact(List.perm_middle (a:=x) (l₁:=a') (l₂:=c)).symm
  exact p1.nodup_iff.1 m.nd
 ·intro hm
  refine m.qn ?_
  obtain⟨y,hy,e⟩:=Gs.1 hm
  exact Gs.2 ⟨y,(perm y).1 hy,e⟩
 ·have:=m.row y ((perm y).1 hy)
  have hne:q≠y.1:=fun e=>m.qn (by rw[e];exact Gs.2 ⟨y,(perm y).1 hy,rfl⟩)
  exact(this.other hne _).other hne _
def acL:AC->AC
 | .seq a _=>a
 | c=>c
def acR:AC->AC
 | .seq _ b=>b
 | c=>c
def acB:AC->AC
 | .block _ a=>a
 | c=>c
def QjN:AC:=acR (acR (acR (acR (acR (acR (acB (acL (acR (acR YZ)))))))))
theorem QdH(p g q q2 q6 q8 n k d:Nat)(pre rest:List X8)(pv:X8)(h:Qa)(hp:2<=p/\p<9223372036854775808)(hn:n<1000000)(hk:k=pre.length)(hl:rest.length+(k+1)=n)(hd:d<p)
  (M:Mx h q n (pre++pv::rest)) (ro:zO p n (pre++pv::rest)) (c2:Cel h q2 (.int .u64 (p:Nat)) (.int .u64 (g:Nat))) (c6:Cel1 h q6 (.int .i64 (k:Nat))) (c8:Cel1 h q8 (.slc pv.1 0 n (some n))) (ne:∀ m∈pre++pv::rest,m.1≠q2/\m.1≠q6/\m.1≠q8)
  (K:Ex->Env->Qa->Prop) (hK:∀ h',S130 p g q q2 q6 q8 n k pre [] pv (rest.map (elM p k (XZ p (pv.2.getD k 0)) pv)) h h'->∀ a b c e f g' l,K .nm [(1,some (.sc (.slc q 0 n (some n)))),(2,some (.sc (.ptr q2 0))),(5,some (u (d*pv.2.getD k 0%p))),(6,a),(9,b),(10,c),(14,some (.sc (.int .i64 (n:Nat)))),(15,some (.sc (.int .i64 (k:Nat)))),(80,e),(81,f),(82,g'),(83,l)] h') :
  wA FT HKt QjN [(1,some (.sc (.slc q 0 n (some n)))),(2,some (.sc (.ptr q2 0))),(5,some (u d)),(6,some (.sc (.ptr q6 0))),(8,some (.sc (.ptr q8 0))),(14,some (.sc (.int .i64 (n:Nat)))),(15,some (.sc (.int .i64 (k:Nat))))] h K:=by
 have hpm:pv∈pre++pv::rest:=by simp
 have rp:=ro pv hpm
 have rv:=(M.row pv hpm).rd (i:=k) (by rw[rp.1];omega)
 have hvk:pv.2.getD k 0<p:=by rw[Ge,Ga (by rw[rp.1];omega)];exact rp.2 _ (GI _)
 have k98:=fun H=>Za H p g d (pv.2.getD k 0) ⟨by omega,by omega⟩ (by omega) (by omega)
 have k121:=fun H=>UL H p g (pv.2.getD k 0) ⟨hp.1,by omega⟩ (by omega)
 have hiv:XZ p (pv.2.getD k 0)<p:=by
  unfold XZ
  exact ZN 64 _ _ _ (by omega)
 generalize XZ p (pv.2.getD k 0)=iv at *
 generalize pv.2.getD k 0=v at *
 unfold QjN YZ
 simp only[acL,acR,acB]
 have hsl:Y7 ((k:Int)+1).toNat ((n:Nat):Int).toNat (.slc q 0 n (some n))=some (.slc q (0+(k+1)) (n-(k+1)) (some (n-(k+1)))):=by
  simp only[Y7,Gp]
  rw[if_pos (by omega)]
  have e1:((k:Int)+1).toNat=k+1:=by omega
  have e2:((n:Nat):Int).toNat=n:=by omega
  rw[e1,e2]
 have e0:=Ext.refl h
 repeat' first|apply Qf|apply Qb|apply Qt|apply Qe|apply Q7|apply Xm|apply Xn|(apply Qd;first|apply Q5|apply Xw|refine Q4 rfl rfl rfl rfl rfl rfl rfl ?_|refine Xh rfl rfl rfl rfl rfl rfl rfl rfl ?_|refine Yr rfl rfl rfl rfl rfl rfl rfl rfl rfl rfl rfl ?_)|(apply Qc;first|refine XG rfl (c6.ext e0).at rfl ?_|refine XG rfl (c8.ext e0).at rfl ?_|(have z:=x1;refine QU rfl (c2.ext x1) ?_)|refine QU rfl c2 ?_|refine Qy (esz:=1) rfl rfl (by omega) ?_|refine Q1 rfl (Qw e0 rv) ?_|(refine Qj rfl (k98 _) ?_;rintro v1 h1 ⟨e1,rfl⟩;have x1:=e1;replace e0:=e1)|(refine Qj rfl (k121 _) ?_;rintro v2 h2 ⟨e2,rfl⟩;replace e0:=x1.trans e2)|refine QhA rfl rfl rfl (by omega) hsl ?_|refine Ql rfl ?_|refine QM rfl rfl (by omega) ?_|refine Qr rfl rfl ?_|refine Xk rfl rfl ?_)
 refine QV (Qjd p g q q2 q6 q8 n k (d*v%p) iv pre rest pv h) rest.length (QmJ p g q q2 q6 q8 n k (d*v%p) iv pre rest pv h) ⟨0,Gm _,rfl,⟨(Chg.refl h).ext e0,M.ext e0,ro,c2.ext e0,c6.ext e0,c8.ext e0,ne⟩,rfl⟩ (Qfd p g q q2 q6 q8 n k (d*v%p) iv pre rest pv h ⟨by omega,hp.2⟩ hn hk hl hiv) ?_
 rintro ex E' h3 ⟨rfl,s3,a,b,c,e,f,g',l,rfl⟩
 exact QK (hK h3 s3 a b c e f g' l)
structure D130(p g q q2 n k d X:Nat)(ms0 ms:List X8)(h0 h:Qa):Prop where
 c:Chg (fun j=>j=q∨∃ m∈ms0,m.1=j) h0 h
 M:Mx h q n ms
 ro:zO p n ms
 c2:Cel h q2 (.int .u64 (p:Nat)) (.int .u64 (g:Nat))
 ids:∀ m∈ms,∃ m0∈ms0,m0.1=m.1
 l:ms.length=n
 dl:d<p
 X:qY p (XZ p) (n-k) k ((ms.drop k).map (·.2)) d=X
 ne:∀ m∈ms0,m.1≠q2
 nq:q≠q2
def I130(p g q q2 n X:Nat)(ms0:List X8)(h0:Qa)(m:Nat)(E:Env)(h:Qa):Prop:=∃ k d ms,k<=n/\m=n-k/\D130 p g q q2 n k d X ms0 ms h0 h ∧
 E.keep [1,2,5,14,15]=[(1,some (.sc (.slc q 0 n (some n)))),(2,some (.sc (.ptr q2 0))),(5,some (u d)),(14,some (.sc (.int .i64 (n:Nat)))),(15,some (.sc (.int .i64 (k:Nat))))]
def R130(q n X:Nat)(ms0:List X8)(h0:Qa)(ex:Ex)(E:Env)(h:Qa):Prop:=Chg (fun j=>j=q∨∃ m∈ms0,m.1=j) h0 h ∧
 ((ex = .ex 0/\∃ a b c e f,E=[(1,a),(2,b),(5,some (u X)),(14,c),(15,e),(16,f)])∨(ex = .rt/\E=[(4,some (u X))]))
theorem D130.next{p g q q2 q6 q8 n k d X:Nat}{ms0 ms:List X8}{pre rest:List X8}{pv:X8}{h0 h H h':Qa}{a c:List (List Nat)}{b:List Nat}(D:D130 p g q q2 n k d X ms0 ms h0 h)(hk:k=pre.length)(hkn:k<n)(hl:rest.length+(k+1)=n)(hc:Chg (fun j=>j=q∨∃ m∈ms0,m.1=j) h0 H)
  (hids:∀ m∈pre++pv::rest,∃ m0∈ms0,m0.1=m.1) (hpk:pick k ((ms.drop k).map (·.2))=some (a,b,c)) (hb:b=pv.2) (ho:Yd a c=rest.map (·.2)) (s:S130 p g q q2 q6 q8 n k pre [] pv (rest.map (elM p k (XZ p (pv.2.getD k 0)) pv)) H h') (hp:0<p) :
  D130 p g q q2 n (k+1) ((if a=[] then d else sbM p 0 d)*pv.2.getD k 0%p) X ms0 (pre++pv::rest.map (elM p k (XZ p (pv.2.getD k 0)) pv)) h0 h':=by
 have e0:pre++pv::(rest.map (elM p k (XZ p (pv.2.getD k 0)) pv)++[])=pre++pv::rest.map (elM p k (XZ p (pv.2.getD k 0)) pv):=by simp
 have hids':∀ m∈pre++pv::rest.map (elM p k (XZ p (pv.2.getD k 0)) pv),∃ m0∈ms0,m0.1=m.1:=fun m hm=>by
  rcases Gy.1 hm with hm|hm
  ·exact hids m (by simp[hm])
  ·rcases GO.1 hm with rfl|hm
   ·exact hids m (by simp)
   ·obtain⟨y,hy,rfl⟩:=Gs.1 hm
    exact hids y (by simp[hy])
 refine⟨hc.trans (s.c.mono fun j _ hj=>?_),e0 ▸ s.M,e0 ▸ s.ro,s.c2,hids',by simp;omega,GY _ hp,?_,D.ne,D.nq⟩
 ·rcases hj with hj|⟨m,hm,rfl⟩
  ·exact .inl hj
  ·rw[e0]at hm
   obtain⟨m0,h1,h2⟩:=hids' m hm
   exact .inr ⟨m0,h1,h2⟩
 ·have hX:=D.X
  obtain⟨t,ht⟩:∃ t,n-k=t+1:=⟨n-k-1,by omega⟩
  rw[ht]at hX
  unfold qY at hX
  rw[hpk]at hX
  simp only at hX
  rw[← hX,hb,ho,show n-(k+1)=t by omega]
  have ed:(pre++pv::rest.map (elM p k (XZ p (pv.2.getD k 0)) pv)).drop (k+1)=rest.map (elM p k (XZ p (pv.2.getD k 0)) pv):=by
   rw[show pre++pv::rest.map (elM p k (XZ p (pv.2.getD k 0)) pv)=(pre++[pv])++rest.map (elM p k (XZ p (pv.2.getD k 0)) pv) by simp]
   exact List.drop_left' (by simp[hk])
  rw[ed,Hm,Hm]
  rfl
theorem yx{k:Nat}:∀ {rs:List (List Nat)},(∀ r∈rs,r.getD k 0=0)->pick k rs=none
 | [],_=>rfl
 | r::rs,h=>by
  unfold pick
  rw[if_neg (by rw[h r (.head _)];simp),yx fun s hs=>h s (.tail _ hs)]
  rfl
theorem yu{k:Nat}{b:List Nat}{c:List (List Nat)}(hb:b.getD k 0≠0):∀ {a:List (List Nat)},(∀ r∈a,r.getD k 0=0)->pick k (a++b::c)=some (a,b,c)
 | [],_=>by show pick k (b::c)=_;unfold pick;rw[if_pos hb]
 | r::a,h=>by
  show pick k (r::(a++b::c))=_
  unfold pick
  rw[if_neg (by rw[h r (.head _)];simp),yu hb fun s hs=>h s (.tail _ hs)]
  rfl
def w130(t:AC):AC := .seq (acL YZ) (.seq (acL (acR YZ)) (.seq (.block 1 (.seq (acL (acB (acL (acR (acR YZ))))) (.seq (acL (acR (acB (acL (acR (acR YZ)))))) (.seq (acL (acR (acR (acB (acL (acR (acR YZ))))))) (.seq (acL (acR (acR (acR (acB (acL (acR (acR YZ)))))))) (.seq (acL (acR (acR (acR (acR (acB (acL (acR (acR YZ)))))))))
 (.seq (acL (acR (acR (acR (acR (acR (acB (acL (acR (acR YZ)))))))))) t))))))) (acR (acR (acR YZ)))))
theorem QjG:YZ=w130 QjN:=rfl
attribute [local irreducible] QjN
theorem QgO(p g q q2 n X:Nat)(ms0:List X8)(h0:Qa)(hp:2<=p/\p<9223372036854775808)(hn:n<1000000)(m:Nat)(E:Env)(h:Qa)(hI:I130 p g q q2 n X ms0 h0 m E h) :
  wA FT HKt YZ (E.keep [1,2,5,14,15]) h (Qp (I130 p g q q2 n X ms0 h0) m (R130 q n X ms0 h0)):=by
 obtain⟨k,d,ms,hkn,rfl,D,hE⟩:=hI
 rw[hE]
 rw[QjG]
 unfold w130
 simp only[acL,acR,acB,YZ]
 by_cases hk:k<n
 ·repeat' first|apply Qf|apply Qb|apply Qt|apply Qn|apply Qe|(apply Qg;refine Qk rfl ?_)|(apply Qd;first|refine QE rfl rfl rfl rfl rfl rfl ?_|refine Q4 rfl rfl rfl rfl rfl rfl rfl ?_)|(apply Qc;first|(refine Qhx rfl ?_;intro h1 e1 c6)|refine XG rfl c6.at rfl ?_|refine Ql rfl ?_|refine Qx rfl rfl (by omega) ?_)
  have M1:=D.M.ext e1
  have hqh:q<h.length:=(Gb.1 D.M.top).1
  refine QV (Qje p g q q2 h.length n k d ms h1) (n-k) (QmK p g q q2 h.length n k d ms h1) ⟨k,Gd _,hkn,rfl,rfl,fun i x a b=>by omega,rfl⟩ (Qfe p g q q2 h.length n k d ms h1 hn hk D.l M1 D.ro c6) ?_
  rintro ex E' h2 ⟨rfl,eh,j,hkj,hjn,hz,hnz,a,rfl⟩
  subst eh
  have hX:=D.X
  obtain⟨t,ht⟩:∃ t,n-k=t+1:=⟨n-k-1,by omega⟩
  by_cases hj:j=n
  ·subst hj
   have hX0:X=0:=by
    rw[ht]at hX
    unfold qY at hX
    rw[yx fun r hr=>?_]at hX
    ·exact hX.symm
    ·obtain⟨y,hy,rfl⟩:=Gs.1 hr
     obtain⟨i,hi⟩:=Hs.1 hy
     rw[GR]at hi
     have:=(Gb.1 hi).1
     exact hz (k+i) y (by omega) (by rw[D.l]at this;omega) hi
   repeat' first|apply Qf|apply Qb|apply QC|apply QK|apply Xi|apply Qs|apply Qe|(apply Qg;refine Qk rfl ?_)|(apply Qd;first|refine Qq rfl ?_|refine Xh rfl rfl rfl rfl rfl rfl rfl rfl ?_)|(apply Qc;first|refine Ql rfl ?_|refine Xu rfl rfl (by omega) ?_|refine Qr rfl rfl ?_)
   exact Xt ⟨D.c.ext e1,.inr ⟨rfl,by rw[hX0];rfl⟩⟩
  ·obtain⟨pv,hpv⟩:∃ x,ms[j]?=some x:=⟨_,Ga (by rw[D.l];omega)⟩
   have hms:ms=ms.take k++(ms.drop k).take (j-k)++pv::ms.drop (j+1):=by
    conv=>lhs;rw[← List.take_append_drop k ms,← List.take_append_drop (j-k) (ms.drop k)]
    rw[GK]
    congr 2
    rw[HD,show k+(j-k)=j by omega,G2 (by rw[D.l];omega)]
    congr 1
    rw[Ga (by rw[D.l];omega)]at hpv
    exact Option.some.inj hpv
   have hz':∀ r∈((ms.drop k).take (j-k)).map (·.2),r.getD k 0=0:=fun r hr=>by
    obtain⟨y,hy,rfl⟩:=Gs.1 hr
    obtain⟨i,hi⟩:=Hs.1 hy
    have hlt:i<j-k:=by
     rcases GD i (j-k) with h|h
     ·exact h
     ·rw[Gr (by simp;omega)]at hi;cases hi
    rw[List.getElem?_take_of_lt hlt,GR]at hi
    exact hz (k+i) y (by omega) (by omega) hi
   have hpk:pick k ((ms.drop k).map (·.2))=some (((ms.drop k).take (j-k)).map (·.2),pv.2,(ms.drop (j+1)).map (·.2)):=by
    rw[← yu (hnz pv hpv) hz']
    congr 1
    conv=>lhs;rw[hms]
    rw[GK,List.drop_left' (by simp;rw[D.l];omega)]
    simp
   have lpre:k=(ms.take k).length:=by simp;rw[D.l];omega
   have la:((ms.drop k).take (j-k)).length=j-k:=by simp;rw[D.l];omega
   have lc:(ms.drop (j+1)).length+(j+1)=n:=by simp;rw[D.l];omega
   have ro:=D.ro
   have hids:=D.ids
   have lt:=fun y (hy:y∈ms)=>(D.M.row y hy).lt
   have n2:∀ y∈ms,y.1≠q2:=fun y hy=>by
    obtain⟨m0,h3,h4⟩:=hids y hy
    rw[← h4];exact D.ne m0 h3
   have hdl:=D.dl
   have c2:=D.c2.ext e1
   have hc1:=D.c.ext e1
   generalize hpre:ms.take k=pre at *
   generalize haM:(ms.drop k).take (j-k)=aM at *
   generalize hcM:ms.drop (j+1)=cM at *
   cases aM with
   | nil =>
    have:j=k:=by simp at la;omega
    subst this
    rw[hms]at M1 ro lt n2 hids
    simp only[Hk]at M1 ro lt n2 hids
    have r1:=M1.rd (i:=j) (x:=pv) (by rw[lpre,Gi (Gd _)];simp)
    simp only[Ym]at r1
    repeat' first|apply Qf|apply Qb|apply QK|apply Qn|apply Qe|(apply Qg;refine Qi rfl ?_)|(apply Qd;first|refine Q4 rfl rfl rfl rfl rfl rfl rfl ?_|refine Xh rfl rfl rfl rfl rfl rfl rfl rfl ?_)|(apply Qc;first|(have z:=c6;refine Qhx rfl ?_;intro h3 e3 c8)|refine XG rfl c6.at rfl ?_|refine Qy (esz:=1) rfl rfl (by omega) ?_|refine Q1 rfl r1 ?_|refine Ql rfl ?_|refine Xl rfl rfl (by omega) ?_|refine XJ rfl rfl (by omega) ?_|refine Qr rfl rfl ?_)
    refine QdH p g q q2 h.length h2.length n j d pre cM pv h3 hp hn lpre (by omega) hdl (M1.ext e3) ro (c2.ext e3) (c6.ext e3) c8 (fun y hy=>⟨n2 y hy,by have:=lt y hy;omega,by have:=lt y hy;have:=e1.len;omega⟩) _ ?_
    intro h' s a1 a2 a3 a4 a5 a6 a7
    have nx:=D.next lpre hk (by omega) (hc1.ext e3) hids hpk rfl rfl s (by omega)
    rw[List.map_nil,if_pos rfl]at nx
    repeat' first|apply Qb|apply QL|apply Qe|(apply Qd;refine QO rfl rfl rfl rfl rfl ?_)|(apply Qc;first|refine Ql rfl ?_|refine QM rfl rfl (by omega) ?_)
    exact Qz (j:=n-(j+1)) (by omega) ⟨j+1,_,_,by omega,rfl,nx,rfl⟩
   | cons x a' =>
    have hjl:j=pre.length+1+a'.length:=by simp at la;omega
    subst lpre
    subst hjl
    rw[hms]at M1 ro lt n2 hids
    have perm:∀ y,y∈pre++pv::(a'++x::cM)->y∈pre++(x::a')++pv::cM:=fun y h=>by
     simp only[Gy,GO]at h ⊢
     rcases h with h|h|h|h|h <;> simp[h]
    have rk:=M1.rd (i:=pre.length) (x:=x) (by rw[GK,Gi (Gd _)];simp)
    have rj:=M1.rd (i:=pre.length+1+a'.length) (x:=pv) (by rw[Gi (by simp;omega),show pre.length+1+a'.length-(pre++x::a').length=0 by simp;omega];rfl)
    have w1:=wr1 (i:=pre.length+1+a'.length) (v:=Ym n x) M1.top (by simp;omega)
    have M2:=M1.swap
    obtain⟨H1,eH1⟩:∃ H:Qa,H=h2.set q (.cells (((pre++(x::a')++pv::cM).map (Ym n)).set (pre.length+1+a'.length) (Ym n x)) true 1):=⟨_,rfl⟩
    rw[← eH1]at w1 M2
    have hq2:q<h2.length:=by have:=e1.len;omega
    have t1:H1[q]?=some (.cells (((pre++(x::a')++pv::cM).map (Ym n)).set (pre.length+1+a'.length) (Ym n x)) true 1):=by rw[eH1,GA hq2]
    have w2:=wr1 (i:=pre.length) (v:=Ym n pv) t1 (by simp)
    obtain⟨H2,eH2⟩:∃ H:Qa,H=H1.set q (.cells ((((pre++(x::a')++pv::cM).map (Ym n)).set (pre.length+1+a'.length) (Ym n x)).set pre.length (Ym n pv)) true 1):=⟨_,rfl⟩
    rw[← eH2]at w2 M2
    have hS:∀ id∈[h.length],H1[id]?=h2[id]?:=fun id hid=>by
     rw[GX]at hid;subst hid
     rw[eH1];exact Gk (by omega)
    have c6':Cel1 H2 h.length (.int .i64 (pre.length:Nat)):=by rw[eH2,eH1];exact Cel1.other (Cel1.other c6 (by omega) _) (by omega) _
    have c2':Cel H2 q2 (.int .u64 (p:Nat)) (.int .u64 (g:Nat)):=by rw[eH2,eH1];exact Cel.other (Cel.other c2 D.nq _) D.nq _
    have hc2:Chg (fun j=>j=q∨∃ m,m∈ms0/\m.1=j) h0 H2:=by rw[eH2,eH1];exact(hc1.set (.inl rfl) _).set (.inl rfl) _
    have lH:H2.length=h2.length:=by rw[eH2,eH1];simp
    have r2:=M2.rd (i:=pre.length) (x:=pv) (by rw[Gi (Gd _)];simp)
    have k122:=fun H=>UK H p g 0 d hp.2 (by omega) (HG hdl)
    have c1h:Cel1 h2 h.length (.int .i64 (pre.length:Nat)):=c6
    simp only[Ym]at rk rj r2
    clear eH1 eH2 t1 M1
    repeat' first|apply Qf|apply Qb|apply QK|apply Qn|apply Qe|refine Qm2 [h.length] ?_|refine Yl (by intro id hid;cases hid <;> exact GX.2 rfl) ?_|apply Qgo|(apply Qg;first|refine Qk rfl ?_|refine Qi rfl ?_)|(apply Qd;first|apply YF|refine QE rfl rfl rfl rfl rfl rfl ?_|refine Q4 rfl rfl rfl rfl rfl rfl rfl ?_|refine Xh rfl rfl rfl rfl rfl rfl rfl rfl ?_)|(apply Qc;first|(have z:=e3;refine Qhx rfl ?_;intro h4 e4 c8)|refine XG rfl c6.at rfl ?_|refine XG rfl (c6'.ext e3).at rfl ?_|refine QU rfl c2' ?_|refine Qy (esz:=1) rfl rfl (by omega) ?_|refine Q1 rfl rk ?_|refine Q1 rfl rj ?_|refine Q1 rfl (Qw e3 r2) ?_|refine Jk rfl rfl w1 (QdP hS ?_)|refine Jk rfl rfl w2 (QaF rfl ?_)|(refine Qj rfl (k122 _) ?_;rintro v h3 ⟨e3,rfl⟩)|refine Ql rfl ?_|refine Xl rfl rfl (by omega) ?_|refine Ya rfl rfl (by omega) ?_|refine Qr rfl rfl ?_)
    refine QdH p g q q2 h.length h3.length n pre.length (sbM p 0 d) pre (a'++x::cM) pv h4 hp hn rfl (by simp;omega) (y7 (by omega)) ((M2.ext e3).ext e4) (fun y hy=>ro y (perm y hy)) ((c2'.ext e3).ext e4) ((c6'.ext e3).ext e4) c8 (fun y hy=>⟨n2 y (perm y hy),by have:=lt y (perm y hy);omega,by have:=lt y (perm y hy);have:=e1.len;have:=e3.len;omega⟩) _ ?_
    intro h' s a1 a2 a3 a4 a5 a6 a7
    have nx:=D.next rfl hk (by simp;omega) ((hc2.ext e3).ext e4) (fun y hy=>hids y (perm y hy)) hpk rfl (by simp[Yd]) s (by omega)
    rw[if_neg (by simp)]at nx
    repeat' first|apply Qb|apply QL|apply Qe|(apply Qd;refine QO rfl rfl rfl rfl rfl ?_)|(apply Qc;first|refine Ql rfl ?_|refine QM rfl rfl (by omega) ?_)
    exact Qz (j:=n-(pre.length+1)) (by omega) ⟨pre.length+1,_,_,by omega,rfl,nx,rfl⟩
 ·have:k=n:=by omega
  subst this
  repeat' first|apply Qf|apply Qb|apply QS|apply QQ|apply Qe|(apply Qg;refine Qi rfl ?_)|(apply Qd;refine QE rfl rfl rfl rfl rfl rfl ?_)|(apply Qc;refine QF rfl rfl (by omega) ?_)
  have hX:=D.X
  rw[G1]at hX
  have hX:d=X:=hX
  rw[hX]
  exact QB ⟨D.c,.inl ⟨rfl,_,_,_,_,_,rfl⟩⟩
theorem Qk8(p g q n:Nat)(ms:List X8)(h0:Qa)(hp:2<=p/\p<9223372036854775808)(hn:n<1000000)(M:Mx h0 q n ms)(ro:zO p n ms)(hl:ms.length=n) :
  ∃ r h',Cal FT HKt 130 [fld p g,.sc (.slc q 0 n (some n))] h0 r h'/\Chg (fun j=>j=q∨∃ m∈ms,m.1=j) h0 h'/\r=u (qY p (XZ p) n 0 (ms.map (·.2)) 1):=by
 refine Cal.of (F:=a130) rfl rfl rfl ?_
 have hq:q<h0.length:=(Gb.1 M.top).1
 have lt:=fun y (hy:y∈ms)=>(M.row y hy).lt
 repeat' first|apply Qf|apply Qb|apply Qt|apply Qe|(apply Qd;first|refine QA rfl rfl ?_|refine Qu rfl rfl rfl ?_|refine QO rfl rfl rfl rfl rfl ?_)|(apply Qc;first|(refine QD rfl ?_;intro h1 e1 c1)|refine Ql rfl ?_|refine Qr rfl rfl ?_)
 refine QV (I130 p g q h0.length n (qY p (XZ p) n 0 (ms.map (·.2)) 1) ms h0) n (R130 q n (qY p (XZ p) n 0 (ms.map (·.2)) 1) ms h0) ⟨0,1,ms,Gm _,rfl,⟨(Chg.refl h0).ext e1,M.ext e1,ro,c1,fun m hm=>⟨m,hm,rfl⟩,hl,by omega,rfl,fun m hm=>by have:=lt m hm;omega,by omega⟩,rfl⟩ (QgO p g q h0.length n _ ms h0 hp hn) ?_
 rintro ex E' h2 ⟨c2,⟨rfl,_,_,_,_,_,rfl⟩|⟨rfl,rfl⟩⟩
 ·repeat' first|apply Qf|apply Qb|apply QK|apply Qs|apply Qe|(apply Qd;refine Qq rfl ?_)|(apply Qc;refine Ql rfl ?_)
  exact⟨.inr rfl,c2,rfl⟩
 ·repeat' first|apply QC|apply Xi
  exact⟨.inr rfl,c2,rfl⟩
end Go.Proofs.YtofknpknogfijaaGreatDoor
namespace Go.Proofs.YtofknpknogfijaaGreatDoor
open Go.Ab
set_option linter.all false
set_option maxHeartbeats 16000000
set_option maxRecDepth 20000
attribute [local irreducible] Qm wA Xp Xo QI Qp QZ QY
variable [HB]
theorem Ext.setF{h0 h:Qa}{id:Nat}(x:Ext h0 h)(hf:h0.length<=id)(b:Blk):Ext h0 (h.set id b) :=
 Chg.toExt ⟨by simpa using x.len,fun j hj _=>by
  rw[Gk (by omega)]
  obtain⟨t,rfl⟩:=x
  rw[Gn hj]⟩
def fill(f:Nat->Nat)(n i:Nat):List Nat:=(List.range n).map fun j=>if j<i then f j else 0
theorem YI{f:Nat->Nat}{n i:Nat}:(fill f n i).length=n:=by simp[fill]
theorem Zf{f:Nat->Nat}{n:Nat}:fill f n 0=List.replicate n 0:=by
 unfold fill
 apply Gt
 intro j
 rw[Gh,HA]
 rcases GD j n with h|h
 ·rw[Gv h,if_pos h];simp
 ·rw[Gr (by simpa using h),if_neg (by omega)];rfl
theorem Zt{f:Nat->Nat}{n i:Nat}(h:i<n):(fill f n i).set i (f i)=fill f n (i+1):=by
 unfold fill
 apply Gt
 intro j
 rw[GQ,Gh,Gh,Gj,Hq]
 by_cases e:i=j
 ·subst e
  rw[if_pos rfl,if_pos h,Gv h];simp
 ·rw[if_neg e]
  rcases GD j n with hj|hj
  ·rw[Gv hj]
   simp only[Gp]
   by_cases h1:j<i
   ·rw[if_pos h1,if_pos (by omega)]
   ·rw[if_neg h1,if_neg (by omega)]
  ·rw[Gr (by simpa using hj)];rfl
theorem Zg{f:Nat->Nat}{n:Nat}:fill f n n=(List.range n).map f:=by
 unfold fill
 refine G6 fun j hj=>?_
 rw[if_pos (Ho.1 hj)]
def zw(f g:Nat->Nat)(n i:Nat):List Nat:=fill f n i++fill g n i
theorem QfQ{f g:Nat->Nat}{n i:Nat}(h:i<n)(x y:Nat)(hx:x=f i)(hy:y=g i):((zw f g n i).set i x).set (i+n) y=zw f g n (i+1):=by
 unfold zw
 rw[List.set_append_left _ _ (by rw[YI];exact h),hx,Zt h,Hc _ _ (by rw[YI];omega),YI,show i+n-n=i by omega,hy,Zt h]
theorem QhR{f g:Nat->Nat}{n i:Nat}:(zw f g n i).length=2*n:=by simp[zw,YI];omega
section
variable {FT:zzA} {HK:zzH} {E:Env} {h:Qa} {K:Env->Qa->Prop} {d:Option Nat} {r:List AOp} {x y:AO}
theorem repU:∀ n:Nat,rep [SV.int .u64 0] n=(List.replicate n 0).map fun (x:Nat)=>SV.int .u64 (x:Int)
 | 0=>rfl
 | n+1=>by rw[rep,repU n];rfl
theorem Qad{n:Nat}(hx:evS E x=some (.int .i64 (n:Nat)))(hy:evS E y=some (.int .i64 (n:Nat)))(hb:n<=10000000)(hw:∀ h1,Ext h h1->Bu h1 h.length (List.replicate n 0)->Qm FT HK r (Qv d (some (.sc (.slc h.length 0 n (some n)))) E) h1 K) :
  Qm FT HK (⟨d,.mk 1 8 [.int .u64 0] x y,none⟩::r) E h K:=by
 refine Q2 (v:=some (.sc (.slc h.length 0 n (some n)))) (h':=h++[.cells (rep [.int .u64 0] n) true 1]) rfl rfl ?_ (hw _ ⟨_,rfl⟩ ?_)
 ·simp only[Qo,hx,hy]
  rw[if_pos ⟨by omega,by omega,by unfold XS;omega⟩,Hp]
 ·unfold Bu
  rw[Gi (Gd _),G1,repU];rfl
theorem Qn4{v:Nat}(hx:ev E x=some (u v))(hw:∀ h1,Ext h h1->Bu h1 h.length [v]->Qm FT HK r (Qv d (some (.sc (.slc h.length 0 1 (some 1)))) E) h1 K) :
  Qm FT HK (⟨d,.bsl 1 [.int .u64 0] 1 [(0,x)],none⟩::r) E h K :=
 Q2 (v:=some (.sc (.slc h.length 0 1 (some 1)))) (h':=h++[.cells [.int .u64 (v:Nat)] true 1]) rfl rfl (by simp[Qo,XR,hx,AV.cells,YX,rep,Q8]) (hw _ ⟨_,rfl⟩ (by unfold Bu;rw[Gi (Gd _),G1];rfl))
end
structure A131(p g q c e o N:Nat)(cs es os:List Nat)(h0 h:Qa):Prop where
 x:Ext h0 h
 c2:Cel h q (.int .u64 (p:Nat)) (.int .u64 (g:Nat))
 bc:Bu h c cs
 be:Bu h e es
 bo:Bu h o os
 lo:h0.length<=e/\h0.length<=o/\e≠o/\c<e/\c<o/\q<e/\q<o
theorem A131.put{p g q c e o N:Nat}{cs es os:List Nat}{h0 h:Qa}(s:A131 p g q c e o N cs es os h0 h)(es' os':List Nat) :
  A131 p g q c e o N cs es' os' h0 ((h.set e (.cells (es'.map fun (x:Nat)=>SV.int .u64 (x:Int)) true 1)).set o (.cells (os'.map fun (x:Nat)=>SV.int .u64 (x:Int)) true 1)):=by
 obtain⟨l1,l2,l3,l4,l5,l6,l7⟩:=s.lo
 exact⟨Ext.setF (Ext.setF s.x l1 _) l2 _,Cel.other (Cel.other s.c2 (by omega) _) (by omega) _,(s.bc.other (by omega) _).other (by omega) _,s.be.set.other (Ne.symm l3) _,(s.bo.other l3 _).set,s.lo⟩
def I131(p g q c e o N w:Nat)(cs:List Nat)(h0:Qa)(m:Nat)(E:Env)(h:Qa):Prop:=∃ i,i<=N/\m=N-i/\A131 p g q c e o N cs (fill (fun j=>cs.getD (2*j) 0) N i) (fill (fun j=>cs.getD (2*j+1) 0) N i) h0 h ∧
 E.keep [1,2,3,7,8,9,30,31]=[(1,some (.sc (.slc c 0 (2*N) (some (2*N))))),(2,some (u w)),(3,some (.sc (.ptr q 0))),(7,some (.sc (.int .i64 (N:Nat)))),(8,some (.sc (.slc e 0 N (some N)))),(9,some (.sc (.slc o 0 N (some N)))),(30,some (.sc (.int .i64 (N:Nat)))),(31,some (.sc (.int .i64 (i:Nat))))]
def R131(p g q c e o N w:Nat)(cs:List Nat)(h0:Qa)(ex:Ex)(E:Env)(h:Qa):Prop:=ex = .ex 0/\A131 p g q c e o N cs ((List.range N).map fun j=>cs.getD (2*j) 0) ((List.range N).map fun j=>cs.getD (2*j+1) 0) h0 h ∧
 ∃ a b d,E=[(1,some (.sc (.slc c 0 (2*N) (some (2*N))))),(2,some (u w)),(3,some (.sc (.ptr q 0))),(7,some (.sc (.int .i64 (N:Nat)))),(8,some (.sc (.slc e 0 N (some N)))),(9,some (.sc (.slc o 0 N (some N)))),(30,a),(31,b),(32,d)]
theorem QgN(p g q c e o N w:Nat)(cs:List Nat)(h0:Qa)(hl:cs.length=2*N)(hN:N<=1000000)(m:Nat)(E:Env)(h:Qa)(hI:I131 p g q c e o N w cs h0 m E h) :
  wA FT HKt Qiy (E.keep [1,2,3,7,8,9,30,31]) h (Qp (I131 p g q c e o N w cs h0) m (R131 p g q c e o N w cs h0)):=by
 obtain⟨i,hi,rfl,s,hE⟩:=hI
 rw[hE]
 by_cases hlt:i<N
 ·have r1:=s.bc.rd (i:=2*i) (by omega)
  have r2:=s.bc.rd (i:=2*i+1) (by omega)
  have w1:=s.be.wr (i:=i) (y:=cs.getD (2*i) 0) (by rw[YI];exact hlt)
  have nx:=s.put ((fill (fun j=>cs.getD (2*j) 0) N i).set i (cs.getD (2*i) 0)) ((fill (fun j=>cs.getD (2*j+1) 0) N i).set i (cs.getD (2*i+1) 0))
  have w2:=(s.bo.other s.lo.2.2.1 (.cells (((fill (fun j=>cs.getD (2*j) 0) N i).set i (cs.getD (2*i) 0)).map fun (x:Nat)=>SV.int .u64 (x:Int)) true 1)).wr (i:=i) (y:=cs.getD (2*i+1) 0) (by rw[YI];exact hlt)
  have e1:(0+(2*(i:Int)).toNat*1)=0+2*i*1:=by omega
  have e2:(0+(2*(i:Int)+1).toNat*1)=0+(2*i+1)*1:=by omega
  rw[← e1]at r1
  rw[← e2]at r2
  have f1:=Zt (f:=fun j=>cs.getD (2*j) 0) hlt
  have f2:=Zt (f:=fun j=>cs.getD (2*j+1) 0) hlt
  rw[f1,f2]at nx
  rw[f1]at w1 w2
  rw[f2]at w2
  repeat' first|apply Qf|apply Qb|apply Qt|apply QL|apply Qn|apply Qe|apply Q7|apply Xm|apply Xn|(apply Qg;refine Qk rfl ?_)|(apply Qd;first|apply Q5|apply Xw|refine Xh rfl rfl rfl rfl rfl rfl rfl rfl ?_|refine Q9 rfl rfl rfl rfl rfl rfl rfl rfl rfl ?_)|(apply Qc;first|refine Qy (esz:=1) rfl rfl (by omega) ?_|refine Q1 rfl r1 ?_|refine Q1 rfl r2 ?_|refine Jk rfl rfl w1 ?_|refine Jk rfl rfl w2 ?_|refine Ql rfl ?_|refine QM rfl rfl (by omega) ?_|refine JR rfl rfl (by omega) ?_|refine Qx rfl rfl (by omega) ?_)
  exact Qz (j:=N-(i+1)) (by omega) ⟨i+1,by omega,rfl,nx,rfl⟩
 ·have:i=N:=by omega
  subst this
  rw[Zg,Zg]at s
  repeat' first|apply Qf|apply Qb|apply QS|apply QQ|apply Qe|(apply Qg;refine Qi rfl ?_)|(apply Qd;refine Q9 rfl rfl rfl rfl rfl rfl rfl rfl rfl ?_)|(apply Qc;refine QF rfl rfl (by omega) ?_)
  exact QB ⟨rfl,s,_,_,_,rfl⟩
theorem Qof{l:List Nat}{n:Nat}(h:l.length=2*n):(List.range n).map (fun j=>l.getD (2*j) 0)=evs l:=by
 apply Gt
 intro i
 rw[Gh]
 have le:=JK l n h
 rcases GD i n with hi|hi
 ·rw[Gv hi,Gp,← UG l n i h hi,Ge,Ga (by omega)];rfl
 ·rw[Gr (by simpa using hi),Gr (by omega)];rfl
theorem QnH{l:List Nat}{n:Nat}(h:l.length=2*n):(List.range n).map (fun j=>l.getD (2*j+1) 0)=ods l:=by
 apply Gt
 intro i
 rw[Gh]
 have le:=yD l n h
 rcases GD i n with hi|hi
 ·rw[Gv hi,Gp,← Uz l n i h hi,Ge,Ga (by omega)];rfl
 ·rw[Gr (by simpa using hi),Gr (by omega)];rfl
structure B131(p g q e o v N:Nat)(es os vs:List Nat)(h0 h:Qa):Prop where
 x:Ext h0 h
 c2:Cel h q (.int .u64 (p:Nat)) (.int .u64 (g:Nat))
 be:Bu h e es
 bo:Bu h o os
 bv:Bu h v vs
 lo:h0.length<=v/\e<v/\o<v/\q<v
theorem B131.ext{p g q e o v N:Nat}{es os vs:List Nat}{h0 h h':Qa}(s:B131 p g q e o v N es os vs h0 h)(k:Ext h h'):B131 p g q e o v N es os vs h0 h':=⟨s.x.trans k,s.c2.ext k,s.be.ext k,s.bo.ext k,s.bv.ext k,s.lo⟩
theorem B131.put{p g q e o v N:Nat}{es os vs:List Nat}{h0 h:Qa}(s:B131 p g q e o v N es os vs h0 h)(vs':List Nat) :
  B131 p g q e o v N es os vs' h0 (h.set v (.cells (vs'.map fun (x:Nat)=>SV.int .u64 (x:Int)) true 1)):=by
 obtain⟨l1,l2,l3,l4⟩:=s.lo
 exact⟨Ext.setF s.x l1 _,Cel.other s.c2 (by omega) _,s.be.other (by omega) _,s.bo.other (by omega) _,s.bv.set,s.lo⟩
def yG(p w:Nat)(es os:List Nat)(i:Nat):Nat:=adM p (es.getD i 0) (pwM p w i*os.getD i 0%p)
def zp(p w:Nat)(es os:List Nat)(i:Nat):Nat:=sbM p (es.getD i 0) (pwM p w i*os.getD i 0%p)
def Qjc(p g q e o v N w:Nat)(es os:List Nat)(h0:Qa)(m:Nat)(E:Env)(h:Qa):Prop:=∃ i,i<=N/\m=N-i/\B131 p g q e o v N es os (zw (yG p w es os) (zp p w es os) N i) h0 h ∧
 E.keep [2,3,7,8,9,12,13,67,68]=[(2,some (u w)),(3,some (.sc (.ptr q 0))),(7,some (.sc (.int .i64 (N:Nat)))),(8,some (.sc (.slc e 0 N (some N)))),(9,some (.sc (.slc o 0 N (some N)))),(12,some (.sc (.slc v 0 (2*N) (some (2*N))))),(13,some (u (pwM p w i))),(67,some (.sc (.int .i64 (N:Nat)))),(68,some (.sc (.int .i64 (i:Nat))))]
def QmI(p g q e o v N w:Nat)(es os:List Nat)(h0:Qa)(ex:Ex)(E:Env)(h:Qa):Prop:=ex = .ex 2/\B131 p g q e o v N es os ((List.range N).map (yG p w es os)++(List.range N).map (zp p w es os)) h0 h ∧
 ∃ a b c d e' f' i j k,E=[(2,a),(3,b),(7,c),(8,d),(9,e'),(12,some (.sc (.slc v 0 (2*N) (some (2*N))))),(13,f'),(67,i),(68,j),(69,k)]
theorem Qfc(p g q e o v N w:Nat)(es os:List Nat)(h0:Qa)(hp:1<p/\p<9223372036854775808)(hw:w<p)(he:es.length=N/\∀ x∈es,x<p)(ho:os.length=N/\∀ x∈os,x<p)(hN:N<=1000000)(m:Nat)(E:Env)(h:Qa)(hI:Qjc p g q e o v N w es os h0 m E h) :
  wA FT HKt Qix (E.keep [2,3,7,8,9,12,13,67,68]) h (Qp (Qjc p g q e o v N w es os h0) m (QmI p g q e o v N w es os h0)):=by
 obtain⟨i,hi,rfl,s,hE⟩:=hI
 rw[hE]
 by_cases hlt:i<N
 ·have r1:=s.be.rd (i:=i) (by omega)
  have r2:=s.bo.rd (i:=i) (by omega)
  have hx:es.getD i 0<p:=by rw[Ge,Ga (by omega)];exact he.2 _ (GI _)
  have hy:os.getD i 0<p:=by rw[Ge,Ga (by omega)];exact ho.2 _ (GI _)
  have hpw:=QcY (p:=p) (w:=w) hp.1 i
  have k98a:=fun H=>Za H p g (pwM p w i) (os.getD i 0) ⟨by omega,by omega⟩ (by omega) (by omega)
  have hT:pwM p w i*os.getD i 0%p<p:=GY _ (by omega)
  have k129:=fun H=>Qbn H p g (es.getD i 0) (pwM p w i*os.getD i 0%p) hp.2 hx hT
  have k122:=fun H=>UK H p g (es.getD i 0) (pwM p w i*os.getD i 0%p) hp.2 hx (HG hT)
  have k98b:=fun H=>Za H p g (pwM p w i) w ⟨by omega,by omega⟩ (by omega) (by omega)
  have epw:pwM p w i*w%p=pwM p w (i+1):=rfl
  rw[epw]at k98b
  have eA:adM p (es.getD i 0) (pwM p w i*os.getD i 0%p)=yG p w es os i:=rfl
  have eB:sbM p (es.getD i 0) (pwM p w i*os.getD i 0%p)=zp p w es os i:=rfl
  rw[eA]at k129
  rw[eB]at k122
  have fs:=QfQ (f:=yG p w es os) (g:=zp p w es os) hlt _ _ rfl rfl
  have hfl:(zw (yG p w es os) (zp p w es os) N i).length=2*N:=QhR
  have st:=fun (h1:Qa) (e1:Ext h h1)=>(s.ext e1).put (((zw (yG p w es os) (zp p w es os) N i).set i (yG p w es os i)))
  have st2:=fun (h1:Qa) (e1:Ext h h1)=>(st h1 e1).put (((zw (yG p w es os) (zp p w es os) N i).set i (yG p w es os i)).set (i+N) (zp p w es os i))
  have w1:=fun (h1:Qa) (e1:Ext h h1)=>(s.ext e1).bv.wr (i:=i) (y:=yG p w es os i) (by omega)
  have w2:=fun (h1:Qa) (e1:Ext h h1)=>(st h1 e1).bv.wr (i:=i+N) (y:=zp p w es os i) (by rw[G9];omega)
  rw[fs]at st2 w2
  generalize yG p w es os i=A at *
  generalize zp p w es os i=B at *
  generalize pwM p w i*os.getD i 0%p=T at *
  generalize es.getD i 0=x at *
  generalize os.getD i 0=y at *
  generalize hW:pwM p w (i+1)=W at *
  generalize pwM p w i=W0 at *
  generalize (zw (yG p w es os) (zp p w es os) N i).set i A=F1 at *
  generalize zw (yG p w es os) (zp p w es os) N i=F0 at *
  have c2:=s.c2
  have x0:=Ext.refl h
  have e2:(0+((i:Int)+(N:Int)).toNat*1)=0+(i+N)*1:=by omega
  repeat' first|apply Qf|apply Qb|apply Qt|apply Qn|apply Qe|apply Q7|apply Xm|apply Xn|(apply Qg;refine Qk rfl ?_)|(apply Qd;first|apply Q5|apply Xw|refine XP (by assumption) ?_|refine Q9 rfl rfl rfl rfl rfl rfl rfl rfl rfl ?_|refine XA rfl rfl rfl rfl rfl rfl rfl rfl rfl rfl ?_|refine Yr rfl rfl rfl rfl rfl rfl rfl rfl rfl rfl rfl ?_)|(apply Qc;first|refine QU rfl (c2.ext x0) ?_|refine Qy (esz:=1) rfl rfl (by omega) ?_|refine Q1 rfl (Qw x0 r1) ?_|refine Q1 rfl (Qw x0 r2) ?_|(refine Qj rfl (k98a _) ?_;rintro v1 h1 ⟨e1,rfl⟩;replace x0:=x0.trans e1)|(refine Qj rfl (k129 _) ?_;rintro v1 h1 ⟨e1,rfl⟩;replace x0:=x0.trans e1)|(refine Qj rfl (k122 _) ?_;rintro v1 h1 ⟨e1,rfl⟩;replace x0:=x0.trans e1)|refine Jk rfl rfl (w1 _ x0) ?_|refine Jk rfl rfl (w2 _ x0) ?_|refine Ql rfl ?_|refine QM rfl rfl (by omega) ?_|refine Qx rfl rfl (by omega) ?_)
  have s2:=st2 _ x0
  have c2':=s2.c2
  repeat' first|apply Qb|apply QL|apply Qe|(apply Qd;refine Q9 rfl rfl rfl rfl rfl rfl rfl rfl rfl ?_)|(apply Qc;first|refine QU rfl c2' ?_|(refine Qj rfl (k98b _) ?_;rintro v1 h9 ⟨e9,rfl⟩)|refine Ql rfl ?_|refine QM rfl rfl (by omega) ?_)
  exact Qz (j:=N-(i+1)) (by omega) ⟨i+1,by omega,rfl,s2.ext e9,by rw[hW];rfl⟩
 ·have:i=N:=by omega
  subst this
  unfold zw at s
  rw[Zg,Zg]at s
  repeat' first|apply Qf|apply Qb|apply QS|apply QQ|apply Qe|(apply Qg;refine Qi rfl ?_)|(apply Qd;refine XA rfl rfl rfl rfl rfl rfl rfl rfl rfl rfl ?_)|(apply Qc;refine QF rfl rfl (by omega) ?_)
  exact QB ⟨rfl,s,_,_,_,_,_,_,_,_,_,rfl⟩
theorem Uq{p:Nat}(hp:1<p):∀(s:Nat) (cs:List Nat) (w:Nat),cs.length=2^s->(∀ x∈cs,x<p)->∀ x∈trM p s cs w,x<p
 | 0,cs,w,hl,hc=>hc
 | s+1,cs,w,hl,hc=>fun x hx=>by
  have hl2:cs.length=2*2^s:=by rw[hl,Nat.pow_succ];omega
  have a1:=Uq hp s (evs cs) (w*w%p) (JK cs _ hl2) (fun x hx=>hc x (UF cs x hx))
  have la:=ZY p s (evs cs) (w*w%p) (JK cs _ hl2)
  have ga:∀ i,i<2^s->(trM p s (evs cs) (w*w%p)).getD i 0<p:=fun i hi=>by
   rw[Ge,Ga (by omega)];exact a1 _ (GI _)
  unfold trM at hx
  rcases Gy.1 hx with h|h <;> obtain⟨i,hi,rfl⟩:=Gs.1 h
  ·exact Qdv (ga i (Ho.1 hi)) (GY _ (by omega))
  ·exact y7 (ga i (Ho.1 hi))
theorem QeK(p g:Nat)(hp:1<p/\p<9223372036854775808):∀(s:Nat) (h0:Qa) (c w:Nat) (cs:List Nat),s<=18->Bu h0 c cs->cs.length=2^s->(∀ x∈cs,x<p)->w<p ->
  ∃ r h',Cal FT HKt 131 [fld p g,.sc (.slc c 0 (2^s) (some (2^s))),u w] h0 r h'/\Ext h0 h'/\∃ id,h0.length<=id/\r = .sc (.slc id 0 (2^s) (some (2^s)))/\Bu h' id (trM p s cs w)
 | 0,h0,c,w,cs,hs,b,hl,hc,hw=>by
  refine Cal.of (F:=a131) rfl rfl rfl ?_
  have r1:=fun h (e:Ext h0 h)=>Qw e (b.rd (i:=0) (by omega))
  have ecs:cs=[cs.getD 0 0]:=by
   cases cs with
   | nil=>simp at hl
   | cons x t =>
    cases t with
    | nil=>rfl
    | cons y t=>simp at hl
  repeat' first|apply Qf|apply Qb|apply QC|apply Qs|apply Qe|(apply Qg;refine Qk rfl ?_)|(apply Qd;first|refine Qq rfl ?_|refine Qu rfl rfl rfl ?_|refine QG rfl rfl rfl rfl ?_)|(apply Qc;first|(refine QD rfl ?_;intro h1 e1 c1)|refine Qr rfl rfl ?_|refine Xu rfl rfl (by decide) ?_|refine Qy (esz:=1) rfl rfl (by decide) ?_|refine Q1 rfl (r1 _ e1) ?_|(refine Qn4 rfl ?_;intro h2 e2 b2)|refine Ql rfl ?_)
  exact⟨.inr rfl,e1.trans e2,h1.length,e1.len,rfl,by show Bu h2 h1.length cs;rw[ecs];exact b2⟩
 | s+1,h0,c,w,cs,hs,b,hl,hc,hw=>by
  have ih:=fun h c w cs=>QeK p g hp s h c w cs (by omega)
  have eT:trM p (s+1) cs w=(List.range (2^s)).map (yG p w (trM p s (evs cs) (w*w%p)) (trM p s (ods cs) (w*w%p)))++(List.range (2^s)).map (zp p w (trM p s (evs cs) (w*w%p)) (trM p s (ods cs) (w*w%p))):=rfl
  rw[eT]
  have hN:2^s<=2^18:=GN (by decide) (by omega)
  have hN1:1<=2^s:=Nat.one_le_two_pow
  have e2:2^(s+1)=2*2^s:=by rw[Nat.pow_succ];omega
  rw[e2]at hl ⊢
  have le:=JK cs _ hl
  have lo:=yD cs _ hl
  have ce:=fun x hx=>hc x (UF cs x hx)
  have co:=fun x hx=>hc x (QaS cs x hx)
  have hw2:w*w%p<p:=GY _ (by omega)
  have te:=ZY p s (evs cs) (w*w%p) le
  have tq:=ZY p s (ods cs) (w*w%p) lo
  have pe:=Uq (p:=p) hp.1 s (evs cs) (w*w%p) le ce
  have po:=Uq (p:=p) hp.1 s (ods cs) (w*w%p) lo co
  have i1:=fun h c (b:Bu h c (evs cs))=>ih h c (w*w%p) (evs cs) b le ce hw2
  have i2:=fun h c (b:Bu h c (ods cs))=>ih h c (w*w%p) (ods cs) b lo co hw2
  have rl:=fun q c e o h0=>QgN p g q c e o (2^s) w cs h0 hl (by omega)
  generalize trM p s (evs cs) (w*w%p)=Te at *
  generalize trM p s (ods cs) (w*w%p)=To at *
  generalize hN':2^s=N at *
  refine Cal.of (F:=a131) rfl rfl rfl ?_
  have eh:((2*N:Nat):Int)/2=(N:Nat):=by omega
  have k98:=fun H=>Za H p g w w ⟨by omega,by omega⟩ (by omega) (by omega)
  repeat' first|apply Qf|apply Qb|apply Qt|apply Qn|apply Qe|apply Q7|apply Xm|apply Xn|(apply Qg;refine Qi rfl ?_)|(apply Qd;first|apply Q5|refine XP (by assumption) ?_|refine Qu rfl rfl rfl ?_|refine QG rfl rfl rfl rfl ?_|refine QE rfl rfl rfl rfl rfl rfl ?_|refine Xh rfl rfl rfl rfl rfl rfl rfl rfl ?_)|(apply Qc;first|(refine QD rfl ?_;intro h1 e1 c1)|refine Qr rfl rfl ?_|(refine z8 rfl rfl (by omega) ?_;rw[eh])|(have z:=b2;refine Qad rfl rfl (by omega) ?_;intro h3 e3 b3)|(refine Qad rfl rfl (by omega) ?_;intro h2 e2 b2)|refine Ql rfl ?_|refine Xl rfl rfl (by omega) ?_)
  have ev1:=Qof hl
  have od1:=QnH hl
  refine QV (I131 p g h0.length c h1.length h2.length N w cs h0) N (R131 p g h0.length c h1.length h2.length N w cs h0) ⟨0,Gm _,rfl,⟨(e1.trans e2).trans e3,(c1.ext e2).ext e3,((b.ext e1).ext e2).ext e3,by rw[Zf];exact b2.ext e3,by rw[Zf];exact b3,by have:=b.lt;have:=c1.lt;have:=e1.len;have:=e2.len;have:=b2.lt;omega⟩,rfl⟩ (rl h0.length c h1.length h2.length h0) ?_
  rintro ex E' h4 ⟨rfl,s4,_,_,_,rfl⟩
  rw[ev1,od1]at s4
  have c4:=s4.c2
  have b4:=s4.bc
  repeat' first|apply Qf|apply Qb|apply Qt|apply QK|apply Qe|apply Q7|apply Xm|apply Xn|(apply Qd;first|apply Q5|apply Xw|refine XP (by assumption) ?_|refine QE rfl rfl rfl rfl rfl rfl ?_|refine Q4 rfl rfl rfl rfl rfl rfl rfl ?_|refine Q9 rfl rfl rfl rfl rfl rfl rfl rfl rfl ?_)|(apply Qc;first|(have z:=s6;refine Qad rfl rfl (by omega) ?_;intro h8 e8 b8)|refine QU rfl c4 ?_|(refine Qj rfl (k98 _) ?_;rintro v5 h5 ⟨e5,rfl⟩;replace c4:=c4.ext e5;have be5:=s4.be.ext e5;have bo5:=s4.bo.ext e5;have x5:=s4.x.trans e5)|(refine Qj rfl (i1 _ _ be5) ?_;rintro v6 h6 ⟨e6,ide,l6,rfl,b6⟩;replace c4:=c4.ext e6;have bo6:=bo5.ext e6;have x6:=x5.trans e6)|(refine Qj rfl (i2 _ _ bo6) ?_;rintro v7 h7 ⟨e7,ido,l7,rfl,b7⟩;replace c4:=c4.ext e7;have be7:=b6.ext e7;have s6:=x6.trans e7)|refine Qr rfl rfl ?_|refine Ql rfl ?_)
  have lo7:h0.length<=h7.length/\ide<h7.length/\ido<h7.length/\h0.length<h7.length:=⟨s6.len,be7.lt,b7.lt,c4.lt⟩
  refine QV (Qjc p g h0.length ide ido h7.length N w Te To h0) N (QmI p g h0.length ide ido h7.length N w Te To h0) ⟨0,Gm _,rfl,⟨s6.trans e8,c4.ext e8,be7.ext e8,b7.ext e8,by unfold zw;rw[Zf,Zf,List.replicate_append_replicate,show N+N=2*N by omega];exact b8,lo7⟩,rfl⟩ (Qfc p g h0.length ide ido h7.length N w Te To h0 hp hw ⟨te,pe⟩ ⟨tq,po⟩ (by omega)) ?_
  rintro ex E' h9 ⟨rfl,s9,_,_,_,_,_,_,_,_,_,rfl⟩
  repeat' first|apply Qf|apply Qb|apply QK|apply Qs|apply Qe|(apply Qd;refine Qq rfl ?_)|(apply Qc;refine Ql rfl ?_)
  exact⟨.inr rfl,s9.x,h7.length,lo7.1,rfl,s9.bv⟩
def JM(i:Nat):Nat:=2305843009213562881-131072*i
def qB(n b:Nat):Nat:=YM n 64 1 b ((n-1)/131072)
def qD(n b:Nat):Bool:=YM n 64 1 (qB n b) 65536==n-1
abbrev fP(l:List (Nat×Nat)):List P2:=l.map fun x=>(SV.int .u64 (x.1:Int),SV.int .u64 (x.2:Int))
def YD(i:Nat):List (Nat×Nat):=(if 15<i then [(p1,r1)] else [])++(if 27<i then [(p2,r2)] else [])
theorem prs28:((List.range 28).all fun i=>prM (JM i)==(i==15 || i==27))=true:=by decide +kernel
theorem Qkt{i:Nat}(h:i<28):prM (JM i)=(i==15 || i==27):=by
 have:=Hn.1 prs28 i (Ho.2 h)
 exact eq_of_beq this
theorem root1:qD p1 13=true/\((List.range 13).all fun b=>decide (b<2) || qD p1 b==false)=true/\qB p1 13=r1:=by decide +kernel
theorem root2:qD p2 5=true/\((List.range 5).all fun b=>decide (b<2) || qD p2 b==false)=true/\qB p2 5=r2:=by decide +kernel
structure RootAt(n B r:Nat):Prop where
 ok:qD n B=true
 no:∀ b,2<=b->b<B->qD n b=false
 eq:qB n B=r
 two:2<=B
 le:B<=100
theorem QlJ{n B:Nat}(h:((List.range B).all fun b=>decide (b<2) || qD n b==false)=true):∀ b,2<=b->b<B->qD n b=false:=fun b h1 h2=>by
 have:=Hn.1 h b (Ho.2 h2)
 rw[Bool.or_eq_true,decide_eq_true_iff]at this
 rcases this with h|h
 ·omega
 ·exact eq_of_beq h
theorem Qko:RootAt p1 13 r1:=⟨root1.1,QlJ root1.2.1,root1.2.2,by decide,by decide⟩
theorem Qkn:RootAt p2 5 r2:=⟨root2.1,QlJ root2.2.1,root2.2.2,by decide,by decide⟩
structure F95(q5 n r:Nat)(s:SV)(ps:List P2)(h0 h:Qa):Prop where
 x:Ext h0 h
 c5:Cel h q5 (.int .u64 (n:Nat)) (.int .u64 (r:Nat))
 o:OwnD h0 h s ps
 l:h0.length<=q5
theorem F95.ext{q5 n r:Nat}{s:SV}{ps:List P2}{h0 h h':Qa}(f:F95 q5 n r s ps h0 h)(e:Ext h h'):F95 q5 n r s ps h0 h':=⟨f.x.trans e,f.c5.ext e,f.o.ext e,f.l⟩
def I95b(q5 n B c:Nat)(s:SV)(ps:List P2)(h0:Qa)(m:Nat)(E:Env)(h:Qa):Prop:=∃ b r,2<=b/\b<=B/\m=B-b/\F95 q5 n r s ps h0 h ∧
 E.keep [0,3,4,5,6]=[(0,some (.sc (.int .i64 (c:Nat)))),(3,some (.sc s)),(4,some (u n)),(5,some (.sc (.ptr q5 0))),(6,some (u b))]
def R95b(q5 n r c:Nat)(s:SV)(ps:List P2)(h0:Qa)(ex:Ex)(E:Env)(h:Qa):Prop:=ex = .ex 2/\F95 q5 n r s ps h0 h ∧
 ∃ a b,E=[(0,some (.sc (.int .i64 (c:Nat)))),(3,some (.sc s)),(4,some (u n)),(5,some (.sc (.ptr q5 0))),(6,a),(35,b)]
theorem Qgr(q5 n B R c:Nat)(s:SV)(ps:List P2)(h0:Qa)(hn:2<n/\n<9223372036854775808)(hB:RootAt n B R)(m:Nat)(E:Env)(h:Qa)(hI:I95b q5 n B c s ps h0 m E h) :
  wA FT HKt QlV (E.keep [0,3,4,5,6]) h (Qp (I95b q5 n B c s ps h0) m (R95b q5 n R c s ps h0)):=by
 obtain⟨b,r,h2,hb,rfl,f,hE⟩:=hI
 rw[hE]
 have le:=hB.le
 have c5:=f.c5
 have k1:=fun H (r':Nat)=>yU H n r' b ((n-1)/131072) ⟨by omega,by omega⟩ (by omega) (by omega)
 have hlt:YM n 64 1 b ((n-1)/131072)<18446744073709551616:=GL (ZN 64 1 b _ (by omega)) (by omega)
 have k2:=fun H=>yU H n (YM n 64 1 b ((n-1)/131072)) (YM n 64 1 b ((n-1)/131072)) 65536 ⟨by omega,by omega⟩ hlt (by omega)
 have eR:YM n 64 1 b ((n-1)/131072)=qB n b:=rfl
 rw[eR]at k1 k2 hlt
 have hsh:((n:Int)-1)/((2^17:Nat):Int)=(((n-1)/131072:Nat):Int):=by omega
 have e1:((n:Int)-1)=((n-1:Nat):Int):=by omega
 have hlt2:YM n 64 1 (qB n b) 65536<n:=ZN 64 1 _ _ (by omega)
 by_cases hok:qD n b=true
 ·have hv:YM n 64 1 (qB n b) 65536=n-1:=eq_of_beq hok
  have:b=B:=by
   apply Classical.byContradiction
   intro hne
   have:=hB.no b h2 (by omega)
   rw[this]at hok;cases hok
  subst this
  have eq:=hB.eq
  rw[hv]at k2
  repeat' first|apply Qf|apply Qb|apply QS|apply Qt|apply QQ|apply Qe|(refine JV ?_ ?_;rfl)|(apply Qg;refine Qk rfl ?_)|(apply Qd;first|refine QO rfl rfl rfl rfl rfl ?_|refine QE rfl rfl rfl rfl rfl rfl ?_)|(apply Qc;first|refine QU rfl c5 ?_|refine QW rfl ?_|(refine XN rfl rfl (by omega) ?_)|(refine XU (q:=17) rfl rfl rfl (by decide) ?_;rw[hsh])|(refine Qj rfl (k1 _ _) ?_;rintro v1 h1 ⟨x1,rfl⟩;have f1:=f.ext x1;have c6:=f1.c5)|(refine JD rfl rfl c6 ?_;intro h2 w2;have c7:=w2.cel)|refine QU rfl c7 ?_|refine QH rfl c7 ?_|(refine Qj rfl (k2 _) ?_;rintro v3 h3 ⟨x3,rfl⟩)|refine Ql rfl ?_|refine Xu rfl rfl (by omega) ?_)
  exact QB ⟨rfl,⟨(w2.ext f1.x f1.l).trans x3,by rw[← eq];exact c7.ext x3,(f1.o.wrC w2).ext x3,f1.l⟩,_,_,rfl⟩
 ·have hv:YM n 64 1 (qB n b) 65536≠n-1:=fun e=>hok (by unfold qD;rw[e];simp)
  have hbB:b<B:=by
   rcases GD b B with h|h
   ·exact h
   ·have:b=B:=by omega
    subst this;exact absurd hB.ok hok
  generalize YM n 64 1 (qB n b) 65536=V at *
  repeat' first|apply Qf|apply Qb|apply Qt|apply QL|apply Qn|apply Qe|(apply Qg;refine Qi rfl ?_)|(apply Qd;first|refine QO rfl rfl rfl rfl rfl ?_|refine QE rfl rfl rfl rfl rfl rfl ?_)|(apply Qc;first|refine QU rfl c5 ?_|refine QW rfl ?_|(refine XN rfl rfl (by omega) ?_)|(refine XU (q:=17) rfl rfl rfl (by decide) ?_;rw[hsh])|(refine Qj rfl (k1 _ _) ?_;rintro v1 h1 ⟨x1,rfl⟩;have f1:=f.ext x1;have c6:=f1.c5)|(refine JD rfl rfl c6 ?_;intro h2 w2;have c7:=w2.cel)|refine QU rfl c7 ?_|refine QH rfl c7 ?_|(refine Qj rfl (k2 _) ?_;rintro v3 h3 ⟨x3,rfl⟩)|refine YT rfl rfl (by omega) ?_|refine Ql rfl ?_|refine Xl rfl rfl (by omega) ?_)
  exact Qz (j:=B-(b+1)) (by omega) ⟨b+1,qB n b,by omega,by omega,rfl,⟨(w2.ext f1.x f1.l).trans x3,c7.ext x3,(f1.o.wrC w2).ext x3,f1.l⟩,rfl⟩
def I95(c:Nat)(h0:Qa)(m:Nat)(E:Env)(h:Qa):Prop:=∃(i:Nat) (s:SV),i<=28/\m=28-i/\(YD i).length<=c/\Ext h0 h/\OwnD h0 h s (fP (YD i)) ∧
 E.keep [0,3,4]=[(0,some (.sc (.int .i64 (c:Nat)))),(3,some (.sc s)),(4,some (u (JM i)))]
def R95(c:Nat)(h0:Qa)(ex:Ex)(E:Env)(h:Qa):Prop:=ex = .ex 0/\Ext h0 h/\∃(i:Nat) (s:SV),i<=28/\(YD i).length=c/\OwnD h0 h s (fP (YD i)) ∧
 ∃ a b d,E=[(0,a),(3,some (.sc s)),(4,b),(12,d)]
theorem OwnD.len'{h0 h:Qa}{s:SV}{l:List (Nat×Nat)}(o:OwnD h0 h s (fP l)):Yh false s=some (l.length:Int):=by
 have:=o.is.len
 rw[Gj]at this
 exact this
theorem QfO(i:Nat):(YD i).length<=2:=by unfold YD;split <;> split <;> simp
theorem Qdd{i:Nat}(h1:i≠15)(h2:i≠27):YD (i+1)=YD i:=by
 unfold YD
 by_cases h:15<i
 ·rw[if_pos h,if_pos (by omega)]
  by_cases h3:27<i
  ·rw[if_pos h3,if_pos (by omega)]
  ·rw[if_neg h3,if_neg (by omega)]
 ·rw[if_neg h,if_neg (by omega),if_neg (by omega),if_neg (by omega)]
theorem QfN{i:Nat}(h:i=15∨i=27):∃ B r,RootAt (JM i) B r/\YD (i+1)=YD i++[(JM i,r)]:=by
 rcases h with rfl|rfl
 ·exact⟨13,r1,Qko,by decide⟩
 ·exact⟨5,r2,Qkn,by decide⟩
theorem Qj1(c:Nat)(hc:1<=c/\c<=2)(h0:Qa)(m:Nat)(E:Env)(h:Qa)(hI:I95 c h0 m E h) :
  wA FT HKt QlW (E.keep [0,3,4]) h (Qp (I95 c h0) m (R95 c h0)):=by
 obtain⟨i,s,hi,rfl,hl,x,o,hE⟩:=hI
 rw[hE]
 have ls:=OwnD.len' o
 by_cases hlt:(YD i).length<c
 ·have hi28:i<28:=by
   rcases GD i 28 with h|h
   ·exact h
   ·have:i=28:=by omega
    subst this
    have:(YD 28).length=2:=by decide
    omega
  have hcl:2305843000000000000<JM i/\JM i<9223372036854775808:=by unfold JM;omega
  have hc1:JM (i+1)+131072=JM i:=by unfold JM;omega
  have k118:=fun H=>QeL H (JM i) ⟨by omega,by omega⟩
  have hpr:=Qkt hi28
  by_cases hp:i=15∨i=27
  ·have hp1:prM (JM i)=true:=by rw[hpr];rcases hp with rfl|rfl <;> rfl
   rw[hp1]at k118
   obtain⟨B,R,ra,hf⟩:=QfN hp
   have rl:=fun q5 h1 (o:OwnD h0 h1 s (fP (YD i)))=>Qgr q5 (JM i) B R c s (fP (YD i)) h0 ⟨by omega,hcl.2⟩ ra
   have two:=ra.two
   clear ra hpr hp1
   generalize hn:JM i=n at *
   generalize hn1:JM (i+1)=n1 at *
   have en:((n:Int)-131072)=(n1:Nat):=by omega
   repeat' first|apply Qf|apply Qb|apply Qt|apply Qn|apply Qe|(apply Qg;first|refine Qk rfl ?_|refine Qi rfl ?_)|(apply Qd;first|refine QG rfl rfl rfl rfl ?_|refine QO rfl rfl rfl rfl rfl ?_)|(apply Qc;first|refine Qr rfl ls ?_|(refine Qj rfl (k118 _) ?_;rintro v1 h1 ⟨x1,rfl⟩)|refine Xz rfl rfl ?_|(refine X2 rfl ?_;intro h2 x2 c5)|refine Ql rfl ?_|refine XC rfl ?_|refine Qx rfl rfl (by omega) ?_)
   refine QV (I95b h1.length n B c s (fP (YD i)) h0) (B-2) (R95b h1.length n R c s (fP (YD i)) h0) ⟨2,0,Gd _,two,rfl,⟨(x.trans x1).trans x2,c5,(o.ext x1).ext x2,by have:=x.len;have:=x1.len;omega⟩,rfl⟩ (rl h1.length h2 ((o.ext x1).ext x2)) ?_
   rintro ex E' h3 ⟨rfl,f3,_,_,rfl⟩
   have c3:=f3.c5
   repeat' first|apply Qb|apply QL|apply QK|apply Qe|(apply Qd;refine Qu rfl rfl rfl ?_)|(apply Qc;first|refine QU rfl c3 ?_|(refine qU rfl ?_;intro h4 x4 s4)|(refine JG (f3.x.trans x4) (f3.o.ext x4) rfl rfl s4 (by have:=QfO i;simp only[Gj,XS];omega) ?_;intro s5 h5 o5 x5 fr5 l5)|(refine XN rfl rfl (by omega) ?_;rw[en])|refine Ql rfl ?_)
   refine Qz (j:=28-(i+1)) (by omega) ⟨i+1,s5,by omega,rfl,by rw[hf];simp;omega,x5,?_,by rw[hn1];rfl⟩
   rw[hf]
   simpa using o5
  ·have hp1:prM (JM i)=false:=by
    rw[hpr,Bool.or_eq_false_iff,beq_eq_false_iff_ne,beq_eq_false_iff_ne]
    exact⟨fun e=>hp (.inl e),fun e=>hp (.inr e)⟩
   rw[hp1]at k118
   have hf:=Qdd (i:=i) (fun e=>hp (.inl e)) (fun e=>hp (.inr e))
   generalize hn:JM i=n at *
   generalize hn1:JM (i+1)=n1 at *
   have en:((n:Int)-131072)=(n1:Nat):=by omega
   repeat' first|apply Qf|apply Qb|apply QS|apply Qt|apply QK|apply Qn|apply QQ|apply Qe|(apply Qg;refine Qk rfl ?_)|(apply Qd;first|refine Qu rfl rfl rfl ?_|refine QG rfl rfl rfl rfl ?_)|(apply Qc;first|refine Qr rfl ls ?_|(refine Qj rfl (k118 _) ?_;rintro v1 h1 ⟨x1,rfl⟩)|(refine XN rfl rfl (by omega) ?_;rw[en])|refine Ql rfl ?_|refine X1 rfl ?_|refine Qx rfl rfl (by omega) ?_)
   exact Qz (j:=28-(i+1)) (by omega) ⟨i+1,s,by omega,rfl,by rw[hf];exact hl,x.trans x1,by rw[hf];exact o.ext x1,by rw[hn1];rfl⟩
 ·repeat' first|apply Qf|apply Qb|apply QS|apply QQ|apply Qe|(apply Qg;refine Qi rfl ?_)|(apply Qd;refine QG rfl rfl rfl rfl ?_)|(apply Qc;first|refine Qr rfl ls ?_|refine Ql rfl ?_|refine QF rfl rfl (by omega) ?_)
  exact QB ⟨rfl,x,i,s,hi,by omega,o,_,_,_,rfl⟩
def Yy(c:Nat):List (Nat×Nat):=if c=1 then [(p1,r1)] else [(p1,r1),(p2,r2)]
theorem Qde{i c:Nat}(hc:1<=c/\c<=2)(h:(YD i).length=c):YD i=Yy c:=by
 unfold Yy
 unfold YD at h ⊢
 by_cases h1:15<i
 ·by_cases h2:27<i
  ·rw[if_pos h1,if_pos h2]at h ⊢
   rw[if_neg (by simp at h;omega)];rfl
  ·rw[if_pos h1,if_neg h2]at h ⊢
   rw[if_pos (by simp at h;omega)];rfl
 ·rw[if_neg h1,if_neg (by omega)]at h
  simp at h;omega
theorem Qom(h0:Qa)(c:Nat)(hc:1<=c/\c<=2):∃ r h',Cal FT HKt 95 [.sc (.int .i64 (c:Nat))] h0 r h'/\Ext h0 h'/\∃ s,r = .sc s/\OwnD h0 h' s (fP (Yy c)):=by
 refine Cal.of (F:=a95) rfl rfl rfl ?_
 repeat' first|apply Qf|apply Qb|apply Qt|apply Qe|(apply Qd;first|refine Qq rfl ?_|refine QA rfl rfl ?_|refine Qu rfl rfl rfl ?_)|(apply Qc;first|(refine Qhz (Ext.refl h0) rfl rfl ⟨by decide,by omega,by unfold XS;omega⟩ ?_;intro s1 h1 o1 x1 x1' l1)|refine Ql rfl ?_)
 have e0:List.replicate ((0:Int)).toNat (SV.int .u64 0,SV.int .u64 0)=fP (YD 0):=by decide
 rw[e0]at o1
 refine QV (I95 c h0) 28 (R95 c h0) ⟨0,s1,by omega,rfl,by rw[show YD 0=[] by decide];exact Gm _,x1,o1,rfl⟩ (Qj1 c hc h0) ?_
 rintro ex E' h2 ⟨rfl,x2,i,s2,hi,hl,o2,_,_,_,rfl⟩
 rw[Qde hc hl]at o2
 repeat' first|apply Qf|apply Qb|apply QK|apply Qs|apply Qe|(apply Qd;refine Qq rfl ?_)|(apply Qc;refine Ql rfl ?_)
 exact⟨.inr rfl,x2,s2,rfl,o2⟩
def Qf0(p N t:Nat)(pws:List Nat)(x:Nat)(m:Tm):Nat:=adM p x (ofM p m.2*pws.getD (m.1.toNat*t%N) 0%p)
def acc(p N t:Nat)(pws:List Nat)(l:List Tm):Nat:=l.foldl (Qf0 p N t pws) 0
theorem Qi5{p N t i:Nat}{pws:List Nat}{l:List Tm}{m:Tm}(h:l[i]?=some m):acc p N t pws (l.take (i+1))=Qf0 p N t pws (acc p N t pws (l.take i)) m:=by
 unfold acc
 rw[GB,h,List.foldl_append];rfl
def VJ(p:Nat)(m:Tm):Prop:=0<=m.1/\m.1<=100000/\m.2.natAbs<p
theorem Qdw{p N t:Nat}{pws:List Nat}(hp:0<p):∀ {l:List Tm},acc p N t pws l<p:=by
 intro l
 unfold acc
 have:∀(l:List Tm) (x:Nat),x<p->l.foldl (Qf0 p N t pws) x<p:=by
  intro l
  induction l with
  | nil=>intro x h;exact h
  | cons m l ih=>intro x h;exact ih _ (Qdv h (GY _ hp))
 exact this l 0 hp
structure S108(q rid:Nat)(top:List SV)(row:List Nat)(hb H h:Qa):Prop where
 x:Ext hb h
 c:Chg (·=rid) H h
 t:h[q]?=some (.cells top true 1)
 b:Bu h rid row
 lo:hb.length<=rid/\q≠rid
theorem S108.ext{q rid:Nat}{top:List SV}{row:List Nat}{hb H h h':Qa}(s:S108 q rid top row hb H h)(e:Ext h h'):S108 q rid top row hb H h' :=
 ⟨s.x.trans e,s.c.ext e,by obtain⟨t,rfl⟩:=e;rw[Gn (Gb.1 s.t).1,s.t],s.b.ext e,s.lo⟩
theorem S108.put{q rid:Nat}{top:List SV}{row:List Nat}{hb H h:Qa}(s:S108 q rid top row hb H h)(row':List Nat):S108 q rid top row' hb H (h.set rid (.cells (row'.map fun (x:Nat)=>SV.int .u64 (x:Int)) true 1)) :=
 ⟨Ext.setF s.x s.lo.1 _,s.c.set rfl _,by rw[Gk (Ne.symm s.lo.2),s.t],s.b.set,s.lo⟩
section
variable {FT:zzA} {HK:zzH} {E:Env} {h:Qa} {K:Env->Qa->Prop} {r:List AOp} {x:AO}
theorem qI{t:Nat}{z1 z2 v w:SV}(hx:ev (Qv (some t) (some (.sc (.ptr h.length 0))) E) x=some (.agg [v,w]))(hw:∀ h1,Ext h h1->Cel h1 h.length v w->Qm FT HK r (Qv (some t) (some (.sc (.ptr h.length 0))) E) h1 K) :
  Qm FT HK (⟨some t,.new [z1,z2],none⟩::⟨none,.st 2 (.t t) x,none⟩::r) E h K :=
 Xa fun h1 e1 c1=>Xg (by simp[evS,ev,Qv,Env.get]) hx c1 fun h2 w2=>hw h2 (w2.ext e1 (Gd _)) w2.cel
end
theorem QaA{h:Qa}{q i:Nat}{cs:List SV}{v:SV}(ht:h[q]?=some (.cells cs true 1))(hi:cs[i]?=some v):Q3 h q (0+i*1) 1=some [v]:=by
 have hl:=(Gb.1 hi).1
 simp only[Q3,ht,cut]
 rw[if_pos (by omega)]
 congr 1
 rw[Hd,Hh]
 apply Gt
 intro j
 cases j with
 | zero=>simp[hi]
 | succ j=>simp;omega
def Qjg(p g q3 N t pid q rid n i k:Nat)(pws row:List Nat)(top:List SV)(l:List Tm)(ts:SV)(a1 a2 a8 a12 a64 a65 a71 a72 a73 a84 a85 a86:AV)(hb H:Qa)(m:Nat)(E:Env)(h:Qa):Prop:=∃ j,j<=l.length/\m=l.length-j/\S108 q rid top (row.set k (acc p N t pws (l.take j))) hb H h ∧
 E.keep [1,2,3,7,8,10,12,13,14,15,17,64,65,71,72,73,84,85,86,91,92,93]=[(1,some a1),(2,some a2),(3,some (.sc (.ptr q3 0))),(7,some (.sc (.int .i64 (N:Nat)))),(8,some a8),(10,some (.sc (.slc pid 0 N (some N)))),(12,some a12),(13,some (.sc (.int .i64 (t:Nat)))),(14,some (.sc (.slc q 0 n (some n)))),(15,some (.sc (.int .i64 (i:Nat)))),(17,some (.sc (.int .i64 (k:Nat)))),(64,some a64),(65,some a65),(71,some a71),(72,some a72),(73,some a73),(84,some a84),(85,some a85),(86,some a86),(91,some (.sc ts)),(92,some (.sc (.int .i64 (l.length:Nat)))),(93,some (.sc (.int .i64 (j:Nat))))]
def QmM(p g q3 N t pid q rid n i k:Nat)(pws row:List Nat)(top:List SV)(l:List Tm)(a1 a2 a8 a12 a64 a65 a71 a72 a73 a84 a85 a86:AV)(hb H:Qa)(ex:Ex)(E:Env)(h:Qa):Prop:=ex = .ex 12/\S108 q rid top (row.set k (acc p N t pws l)) hb H h ∧
 ∃ a b c d,E=[(1,some a1),(2,some a2),(3,some (.sc (.ptr q3 0))),(7,some (.sc (.int .i64 (N:Nat)))),(8,some a8),(10,some (.sc (.slc pid 0 N (some N)))),(12,some a12),(13,some (.sc (.int .i64 (t:Nat)))),(14,some (.sc (.slc q 0 n (some n)))),(15,some (.sc (.int .i64 (i:Nat)))),(17,a),(64,some a64),(65,some a65),(71,some a71),(72,some a72),(73,some a73),(84,some a84),(85,some a85),(86,some a86),(91,b),(92,c),(93,d),(94,some (.sc (.bool false)))]
theorem Qfg(p g q3 N t pid q rid n i k:Nat)(pws row:List Nat)(top:List SV)(l:List Tm)(ts:SV)(a1 a2 a8 a12 a64 a65 a71 a72 a73 a84 a85 a86:AV)(hb H:Qa)(hp:0<p/\p<9223372036854775808)(hN:0<N/\N<=131072)(ht:t<N)(hl:l.length<=1000000)(hi:i<n)(hk:k<n)(hrow:row.length=n)
  (c3:Cel hb q3 (.int .u64 (p:Nat)) (.int .u64 (g:Nat))) (bp:Bu hb pid pws) (lp:pws.length=N) (pp:∀ x∈pws,x<p) (dt:IsD hb ts (tms l)) (tok:∀ m∈l,VJ p m) (htop:top[i]?=some (.slc rid 0 n (some n))) (m:Nat) (E:Env) (h:Qa) (hI:Qjg p g q3 N t pid q rid n i k pws row top l ts a1 a2 a8 a12 a64 a65 a71 a72 a73 a84 a85 a86 hb H m E h) :
  wA FT HKt QiG (E.keep [1,2,3,7,8,10,12,13,14,15,17,64,65,71,72,73,84,85,86,91,92,93]) h (Qp (Qjg p g q3 N t pid q rid n i k pws row top l ts a1 a2 a8 a12 a64 a65 a71 a72 a73 a84 a85 a86 hb H) m (QmM p g q3 N t pid q rid n i k pws row top l a1 a2 a8 a12 a64 a65 a71 a72 a73 a84 a85 a86 hb H)):=by
 obtain⟨j,hj,rfl,s,hE⟩:=hI
 rw[hE]
 by_cases hlt:j<l.length
 ·obtain⟨y,hy⟩:∃ y,l[j]?=some y:=⟨_,Ga hlt⟩
  have ok:=tok y (Gg hy)
  obtain⟨id,off,cap,es,rA⟩:=dt.at (i:=j) (p:=tmP y) (by simp[hy])
  rw[Q6]at es
  subst es
  have rA0:=Qw s.x rA
  obtain⟨e,he⟩:∃ e:Nat,y.1=e:=⟨y.1.toNat,by have:=ok.1;omega⟩
  obtain⟨y1,y2⟩:=y
  simp only at he
  subst he
  have step:=Qi5 (p:=p) (N:=N) (t:=t) (pws:=pws) hy
  have hmul:e*t<=100000*131072:=Hj (by have:=ok.2.1;simp only at this;omega) (by omega)
  have hme:((e:Int)*(t:Int))=((e*t:Nat):Int):=by rw[GZ]
  have hmr:(((e*t:Nat):Int)%(N:Int))=((e*t%N:Nat):Int):=by rw[Int.natCast_emod]
  have hix:e*t%N<N:=GY _ hN.1
  have rp:=fun h (x:Ext hb h)=>Qw x (bp.rd (i:=e*t%N) (by omega))
  have hpw:pws.getD (e*t%N) 0<p:=by rw[Ge,Ga (by omega)];exact pp _ (GI _)
  have rt:=QaA s.t htop
  have hac:acc p N t pws (l.take j)<p:=Qdw hp.1
  have rv:=s.b.rd (i:=k) (by rw[G9];omega)
  have gd:(row.set k (acc p N t pws (l.take j))).getD k 0=acc p N t pws (l.take j):=by rw[Ge,GA (by omega)];rfl
  rw[gd]at rv
  have k99:=fun H=>Qdj H p g y2 hp.2 ok.2.2
  have hof:ofM p y2<p:=QcZ ok.2.2
  have k98:=fun H=>Za H p g (ofM p y2) (pws.getD (e*t%N) 0) ⟨hp.1,by omega⟩ (by omega) (by omega)
  have hT:ofM p y2*pws.getD (e*t%N) 0%p<p:=GY _ hp.1
  have k129:=fun H=>Qbn H p g (acc p N t pws (l.take j)) (ofM p y2*pws.getD (e*t%N) 0%p) hp.2 hac hT
  have ea:adM p (acc p N t pws (l.take j)) (ofM p y2*pws.getD (e*t%N) 0%p)=acc p N t pws (l.take (j+1)):=step.symm
  rw[ea]at k129
  have nx:=fun h' (x:Ext h h')=>(s.ext x).put ((row.set k (acc p N t pws (l.take j))).set k (acc p N t pws (l.take (j+1))))
  have wr:=fun h' (x:Ext h h')=>(s.ext x).b.wr (i:=k) (y:=acc p N t pws (l.take (j+1))) (by rw[G9];omega)
  rw[List.set_set]at nx wr
  clear step ea
  generalize hA1:acc p N t pws (l.take (j+1))=A1 at *
  generalize acc p N t pws (l.take j)=A0 at *
  generalize hP:pws.getD (e*t%N) 0=P at *
  generalize ofM p y2=Y at *
  generalize Y*P%p=T at *
  generalize e*t%N=ix at *
  have x0:=Ext.refl h
  repeat' first|apply Qf|apply Qb|apply Qt|apply QL|apply Qn|apply Qe|apply Q7|apply Xm|apply Xn|(apply Qg;refine Qk rfl ?_)|(apply Qd;first|apply Q5|apply Xw|refine XP (by assumption) ?_|refine ye rfl rfl rfl rfl rfl rfl rfl rfl rfl rfl rfl rfl rfl rfl rfl rfl rfl rfl rfl rfl rfl rfl ?_|refine yd rfl rfl rfl rfl rfl rfl rfl rfl rfl rfl rfl rfl rfl rfl rfl rfl rfl rfl rfl rfl rfl rfl rfl ?_|refine Uo rfl rfl rfl rfl rfl rfl rfl rfl rfl rfl rfl rfl rfl rfl rfl rfl rfl rfl rfl rfl rfl rfl rfl rfl ?_)|(apply Qc;first|(refine qI rfl ?_;intro h1 x1 c20;replace x0:=x1)|refine QW rfl ?_|(have z:=c20;refine QN rfl (c20.ext (Ext.refl _)) ?_)|refine QH rfl c20 ?_|refine XH rfl rA0 ?_|(refine JR rfl rfl (by rw[hme];omega) ?_;rw[hme])|(refine yK rfl rfl (by omega) ?_;rw[hmr])|refine Qy (esz:=1) rfl rfl (by omega) ?_|refine Qy (esz:=2) rfl rfl (by omega) ?_|refine Q1 rfl (rp _ (s.x.trans x0)) ?_|refine Q1 rfl (Qw x0 rt) ?_|refine Q1 rfl (Qw x0 rv) ?_|refine QU rfl (c3.ext (s.x.trans x0)) ?_|(refine Qj rfl (k99 _) ?_;rintro v2 h2 ⟨e2,rfl⟩;replace x0:=x0.trans e2)|(refine Qj rfl (k98 _) ?_;rintro v2 h2 ⟨e2,rfl⟩;replace x0:=x0.trans e2)|(refine Qj rfl (k129 _) ?_;rintro v2 h2 ⟨e2,rfl⟩;replace x0:=x0.trans e2)|refine Jk rfl rfl (wr _ x0) ?_|refine Ql rfl ?_|refine QM rfl rfl (by omega) ?_|refine Qx rfl rfl (by omega) ?_)
  exact Qz (j:=l.length-(j+1)) (by omega) ⟨j+1,by omega,rfl,by rw[hA1];exact nx _ x0,rfl⟩
 ·have:j=l.length:=by omega
  subst this
  rw[Gx]at s
  repeat' first|apply Qf|apply Qb|apply QS|apply QQ|apply Qe|(apply Qg;refine Qi rfl ?_)|(apply Qd;refine yd rfl rfl rfl rfl rfl rfl rfl rfl rfl rfl rfl rfl rfl rfl rfl rfl rfl rfl rfl rfl rfl rfl rfl ?_)|(apply Qc;refine QF rfl rfl (by omega) ?_)
  exact QB ⟨rfl,s,_,_,_,_,rfl⟩
def Ent1(h:Qa)(s:SV)(r:List (List Tm)):Prop:=∃ ss:List SV,ss.length=r.length/\IsSl h s 1 ss.length ss/\∀(i:Nat) (t:SV) (l:List Tm),ss[i]?=some t->r[i]?=some l->IsD h t (tms l)
def Ents(h:Qa)(s:SV)(es:List (List (List Tm))):Prop:=∃ ss:List SV,ss.length=es.length/\IsSl h s 1 ss.length ss/\∀(i:Nat) (t:SV) (r:List (List Tm)),ss[i]?=some t->es[i]?=some r->Ent1 h t r
theorem Ent1.ext{h h':Qa}{s:SV}{r:List (List Tm)}(e:Ent1 h s r)(x:Ext h h'):Ent1 h' s r:=by
 obtain⟨ss,h1,h2,h3⟩:=e
 exact⟨ss,h1,h2.ext x,fun i t l a b=>(h3 i t l a b).ext x⟩
theorem Ents.ext{h h':Qa}{s:SV}{r:List (List (List Tm))}(e:Ents h s r)(x:Ext h h'):Ents h' s r:=by
 obtain⟨ss,h1,h2,h3⟩:=e
 exact⟨ss,h1,h2.ext x,fun i t l a b=>(h3 i t l a b).ext x⟩
def yo(p N t:Nat)(pws:List Nat)(r:List (List Tm)):List Nat:=r.map (acc p N t pws)
def Qjl(p g q3 N t pid q rid n i:Nat)(pws:List Nat)(top:List SV)(r:List (List Tm))(rs:SV)(a1 a2 a8 a12 a64 a65 a71 a72 a73:AV)(hb H:Qa)(m:Nat)(E:Env)(h:Qa):Prop:=∃ k,k<=n/\m=n-k/\S108 q rid top (fill (fun k=>acc p N t pws (r.getD k [])) n k) hb H h ∧
 E.keep [1,2,3,7,8,10,12,13,14,15,64,65,71,72,73,84,85,86]=[(1,some a1),(2,some a2),(3,some (.sc (.ptr q3 0))),(7,some (.sc (.int .i64 (N:Nat)))),(8,some a8),(10,some (.sc (.slc pid 0 N (some N)))),(12,some a12),(13,some (.sc (.int .i64 (t:Nat)))),(14,some (.sc (.slc q 0 n (some n)))),(15,some (.sc (.int .i64 (i:Nat)))),(64,some a64),(65,some a65),(71,some a71),(72,some a72),(73,some a73),(84,some (.sc rs)),(85,some (.sc (.int .i64 (n:Nat)))),(86,some (.sc (.int .i64 (k:Nat))))]
def QmR(p g q3 N t pid q rid n i:Nat)(pws:List Nat)(top:List SV)(r:List (List Tm))(a1 a2 a8 a12 a64 a65 a71 a72 a73:AV)(hb H:Qa)(ex:Ex)(E:Env)(h:Qa):Prop:=ex = .ex 10/\S108 q rid top (yo p N t pws r) hb H h ∧
 ∃ a b c d e,E=[(1,some a1),(2,some a2),(3,some (.sc (.ptr q3 0))),(7,some (.sc (.int .i64 (N:Nat)))),(8,some a8),(10,some (.sc (.slc pid 0 N (some N)))),(12,some a12),(13,some (.sc (.int .i64 (t:Nat)))),(14,some (.sc (.slc q 0 n (some n)))),(15,a),(64,some a64),(65,some a65),(71,some a71),(72,some a72),(73,some a73),(84,b),(85,c),(86,d),(87,e)]
theorem Qfl(p g q3 N t pid q rid n i:Nat)(pws:List Nat)(top:List SV)(r:List (List Tm))(rs:SV)(a1 a2 a8 a12 a64 a65 a71 a72 a73:AV)(hb H:Qa)(hp:0<p/\p<9223372036854775808)(hN:0<N/\N<=131072)(ht:t<N)(hi:i<n)(hn:n<=1000000)
  (c3:Cel hb q3 (.int .u64 (p:Nat)) (.int .u64 (g:Nat))) (bp:Bu hb pid pws) (lp:pws.length=N) (pp:∀ x∈pws,x<p) (er:Ent1 hb rs r) (hr:r.length=n) (tok:∀ l∈r,l.length<=1000000/\∀ m∈l,VJ p m) (htop:top[i]?=some (.slc rid 0 n (some n))) (m:Nat) (E:Env) (h:Qa) (hI:Qjl p g q3 N t pid q rid n i pws top r rs a1 a2 a8 a12 a64 a65 a71 a72 a73 hb H m E h) :
  wA FT HKt QiH (E.keep [1,2,3,7,8,10,12,13,14,15,64,65,71,72,73,84,85,86]) h (Qp (Qjl p g q3 N t pid q rid n i pws top r rs a1 a2 a8 a12 a64 a65 a71 a72 a73 hb H) m (QmR p g q3 N t pid q rid n i pws top r a1 a2 a8 a12 a64 a65 a71 a72 a73 hb H)):=by
 obtain⟨k,hk,rfl,s,hE⟩:=hI
 rw[hE]
 by_cases hlt:k<n
 ·obtain⟨ss,l1,l2,l3⟩:=er
  obtain⟨ts,hts⟩:∃ x,ss[k]?=some x:=⟨_,Ga (by omega)⟩
  obtain⟨l,hl⟩:∃ x,r[k]?=some x:=⟨_,Ga (by omega)⟩
  have dt:=l3 k ts l hts hl
  obtain⟨ll,lt⟩:=tok l (Gg hl)
  obtain⟨id,off,cap,es,rd⟩:=l2.at hts
  subst es
  have ld:=dt.len
  rw[Q6]at ld
  have rd0:=Qw s.x rd
  have el:r.getD k []=l:=by rw[Ge,hl];rfl
  have fs:=Zt (f:=fun k=>acc p N t pws (r.getD k [])) hlt
  rw[el]at fs
  repeat' first|apply Qf|apply Qb|apply Qt|apply Qn|apply Qe|(apply Qg;refine Qk rfl ?_)|(apply Qd;first|refine yf rfl rfl rfl rfl rfl rfl rfl rfl rfl rfl rfl rfl rfl rfl rfl rfl rfl rfl rfl ?_|refine Up rfl rfl rfl rfl rfl rfl rfl rfl rfl rfl rfl rfl rfl rfl rfl rfl rfl rfl rfl rfl ?_|refine ye rfl rfl rfl rfl rfl rfl rfl rfl rfl rfl rfl rfl rfl rfl rfl rfl rfl rfl rfl rfl rfl rfl ?_)|(apply Qc;first|refine Qy (esz:=1) rfl rfl (by omega) ?_|refine Q1 rfl rd0 ?_|refine Qr rfl ld ?_|refine Ql rfl ?_|refine Qx rfl rfl (by omega) ?_)
  refine QV (Qjg p g q3 N t pid q rid n i k pws (fill (fun k=>acc p N t pws (r.getD k [])) n k) top l ts a1 a2 a8 a12 a64 a65 a71 a72 a73 (.sc (.slc id off ss.length cap)) (.sc (.int .i64 (n:Nat))) (.sc (.int .i64 (k:Nat))) hb H) l.length (QmM p g q3 N t pid q rid n i k pws (fill (fun k=>acc p N t pws (r.getD k [])) n k) top l a1 a2 a8 a12 a64 a65 a71 a72 a73 (.sc (.slc id off ss.length cap)) (.sc (.int .i64 (n:Nat))) (.sc (.int .i64 (k:Nat))) hb H) ⟨0,Gm _,rfl,?_,rfl⟩
   (Qfg p g q3 N t pid q rid n i k pws (fill (fun k=>acc p N t pws (r.getD k [])) n k) top l ts a1 a2 a8 a12 a64 a65 a71 a72 a73 (.sc (.slc id off ss.length cap)) (.sc (.int .i64 (n:Nat))) (.sc (.int .i64 (k:Nat))) hb H hp hN ht ll hi hlt YI c3 bp lp pp dt lt htop) ?_
  ·have e0:(fill (fun k=>acc p N t pws (r.getD k [])) n k).set k (acc p N t pws (l.take 0))=fill (fun k=>acc p N t pws (r.getD k [])) n k:=by
    have:acc p N t pws (l.take 0)=0:=rfl
    rw[this]
    apply Gt
    intro j
    rw[GQ]
    by_cases e:k=j
    ·subst e
     rw[if_pos rfl,if_pos (by rw[YI];exact hlt)]
     unfold fill
     rw[Gh,Gv hlt]
     simp
    ·rw[if_neg e]
   rw[e0];exact s
  ·rintro ex E' h2 ⟨rfl,s2,_,_,_,_,rfl⟩
   rw[fs]at s2
   repeat' first|apply Qb|apply QL|apply QK|apply Qe|(apply Qd;refine ZX rfl rfl rfl rfl rfl rfl rfl rfl rfl rfl rfl rfl rfl rfl rfl rfl rfl rfl ?_)|(apply Qc;first|refine Ql rfl ?_|refine QM rfl rfl (by omega) ?_)
   exact Qz (j:=n-(k+1)) (by omega) ⟨k+1,by omega,rfl,s2,rfl⟩
 ·have:k=n:=by omega
  subst this
  rw[Zg]at s
  have e:(List.range k).map (fun j=>acc p N t pws (r.getD j []))=yo p N t pws r:=by
   unfold yo
   apply Gt
   intro j
   rw[Gh,Gh]
   rcases GD j k with h|h
   ·rw[Gv h,Gp,Ge,Ga (by omega)];rfl
   ·rw[Gr (by simpa using h),Gr (by omega)];rfl
  rw[e]at s
  repeat' first|apply Qf|apply Qb|apply QS|apply QQ|apply Qe|(apply Qg;refine Qi rfl ?_)|(apply Qd;refine yf rfl rfl rfl rfl rfl rfl rfl rfl rfl rfl rfl rfl rfl rfl rfl rfl rfl rfl rfl ?_)|(apply Qc;refine QF rfl rfl (by omega) ?_)
  exact QB ⟨rfl,s,_,_,_,_,_,rfl⟩
theorem Ent1.len{h:Qa}{s:SV}{r:List (List Tm)}(e:Ent1 h s r):Yh false s=some (r.length:Int):=by
 obtain⟨ss,l1,l2,-⟩:=e
 rw[← l1];exact IsSl.len l2
structure P108(p N t q n:Nat)(pws:List Nat)(es:List (List (List Tm)))(i:Nat)(ms:List X8)(hb h:Qa):Prop where
 x:Ext hb h
 tp:h[q]?=some (.cells (ms.map (Ym n)++List.replicate (n-i) .nilS) true 1)
 l:ms.length=i
 nd:(ms.map (·.1)).Nodup
 ql:hb.length<=q
 lo:∀ m∈ms,hb.length<=m.1/\m.1≠q
 row:∀ m∈ms,Bu h m.1 m.2
 v:ms.map (·.2)=(es.take i).map (yo p N t pws)
def Qji(p g q3 N t pid q n:Nat)(pws:List Nat)(es:List (List (List Tm)))(esl:SV)(a1 a2 a8 a12 a64 a65:AV)(hb:Qa)(m:Nat)(E:Env)(h:Qa):Prop:=∃ i ms,i<=n/\m=n-i/\P108 p N t q n pws es i ms hb h ∧
 E.keep [1,2,3,7,8,10,12,13,14,64,65,71,72,73]=[(1,some a1),(2,some a2),(3,some (.sc (.ptr q3 0))),(7,some (.sc (.int .i64 (N:Nat)))),(8,some a8),(10,some (.sc (.slc pid 0 N (some N)))),(12,some a12),(13,some (.sc (.int .i64 (t:Nat)))),(14,some (.sc (.slc q 0 n (some n)))),(64,some a64),(65,some a65),(71,some (.sc esl)),(72,some (.sc (.int .i64 (n:Nat)))),(73,some (.sc (.int .i64 (i:Nat))))]
def QmO(p g q3 N t pid q n:Nat)(pws:List Nat)(es:List (List (List Tm)))(a1 a2 a8 a12 a64 a65:AV)(hb:Qa)(ex:Ex)(E:Env)(h:Qa):Prop:=ex = .ex 8/\∃ ms,P108 p N t q n pws es n ms hb h ∧
 ∃ b c d e,E=[(1,some a1),(2,some a2),(3,some (.sc (.ptr q3 0))),(7,some (.sc (.int .i64 (N:Nat)))),(8,some a8),(10,some (.sc (.slc pid 0 N (some N)))),(12,some a12),(13,some (.sc (.int .i64 (t:Nat)))),(14,some (.sc (.slc q 0 n (some n)))),(64,some a64),(65,some a65),(71,b),(72,c),(73,d),(74,e)]
theorem Qfi(p g q3 N t pid q n:Nat)(pws:List Nat)(es:List (List (List Tm)))(esl:SV)(a1 a2 a8 a12 a64 a65:AV)(hb:Qa)(hp:0<p/\p<9223372036854775808)(hN:0<N/\N<=131072)(ht:t<N)(hn:n<=1000000)
  (c3:Cel hb q3 (.int .u64 (p:Nat)) (.int .u64 (g:Nat))) (bp:Bu hb pid pws) (lp:pws.length=N) (pp:∀ x∈pws,x<p) (ee:Ents hb esl es) (he:es.length=n) (tok:∀ r∈es,r.length=n/\∀ l∈r,l.length<=1000000/\∀ m∈l,VJ p m) (m:Nat) (E:Env) (h:Qa) (hI:Qji p g q3 N t pid q n pws es esl a1 a2 a8 a12 a64 a65 hb m E h) :
  wA FT HKt QiI (E.keep [1,2,3,7,8,10,12,13,14,64,65,71,72,73]) h (Qp (Qji p g q3 N t pid q n pws es esl a1 a2 a8 a12 a64 a65 hb) m (QmO p g q3 N t pid q n pws es a1 a2 a8 a12 a64 a65 hb)):=by
 obtain⟨i,ms,hi,rfl,s,hE⟩:=hI
 rw[hE]
 by_cases hlt:i<n
 ·obtain⟨ss,l1,l2,l3⟩:=ee
  obtain⟨rs,hrs⟩:∃ x,ss[i]?=some x:=⟨_,Ga (by omega)⟩
  obtain⟨r,hr⟩:∃ x,es[i]?=some x:=⟨_,Ga (by omega)⟩
  have er:=l3 i rs r hrs hr
  obtain⟨lr,lt⟩:=tok r (Gg hr)
  obtain⟨id,off,cap,e1,rd⟩:=l2.at hrs
  subst e1
  have ld:=er.len
  rw[lr]at ld
  have rd0:=Qw s.x rd
  have hqh:q<h.length:=(Gb.1 s.tp).1
  have tset:(ms.map (Ym n)++List.replicate (n-i) SV.nilS).set i (.slc h.length 0 n (some n))=ms.map (Ym n) ++ .slc h.length 0 n (some n)::List.replicate (n-(i+1)) .nilS:=by
   rw[Hc _ _ (by simp[s.l]),Gj,s.l,G1,show n-i=(n-(i+1))+1 by omega,List.replicate_succ,List.set_cons_zero]
  have w1:=fun h1 (x1:Ext h h1)=>wr1 (h:=h1) (q:=q) (i:=i) (v:=SV.slc h.length 0 n (some n)) (by obtain⟨t,rfl⟩:=x1;rw[Gn hqh,s.tp]) (by simp[s.l];omega)
  rw[tset]at w1
  have xb:=s.x.len
  repeat' first|apply Qf|apply Qb|apply Qt|apply Qn|apply Qe|(apply Qg;refine Qk rfl ?_)|(apply Qd;first|refine Jr rfl rfl rfl rfl rfl rfl rfl rfl rfl rfl rfl rfl rfl rfl rfl ?_|refine ZC rfl rfl rfl rfl rfl rfl rfl rfl rfl rfl rfl rfl rfl rfl rfl rfl ?_|refine ZX rfl rfl rfl rfl rfl rfl rfl rfl rfl rfl rfl rfl rfl rfl rfl rfl rfl rfl ?_)|(apply Qc;first|refine Qy (esz:=1) rfl rfl (by omega) ?_|refine Q1 rfl rd0 ?_|refine Qr rfl ld ?_|(refine Qad rfl rfl (by omega) ?_;intro h1 x1 b1)|refine Jk rfl rfl (w1 _ x1) ?_|refine Ql rfl ?_|refine Qx rfl rfl (by omega) ?_)
  have hne:q≠h.length:=by omega
  have top2:(h1.set q (.cells (ms.map (Ym n) ++ .slc h.length 0 n (some n)::List.replicate (n-(i+1)) .nilS) true 1))[q]?=some (.cells (ms.map (Ym n) ++ .slc h.length 0 n (some n)::List.replicate (n-(i+1)) .nilS) true 1):=by
   rw[GA (by have:=x1.len;omega)]
  have b2:=b1.other hne (.cells (ms.map (Ym n) ++ .slc h.length 0 n (some n)::List.replicate (n-(i+1)) .nilS) true 1)
  have x2:=Ext.setF (s.x.trans x1) s.ql (.cells (ms.map (Ym n) ++ .slc h.length 0 n (some n)::List.replicate (n-(i+1)) .nilS) true 1)
  have rows2:∀ m∈ms,Bu (h1.set q (.cells (ms.map (Ym n) ++ .slc h.length 0 n (some n)::List.replicate (n-(i+1)) .nilS) true 1)) m.1 m.2:=fun m hm=>((s.row m hm).ext x1).other (Ne.symm (s.lo m hm).2) _
  generalize h1.set q (.cells (ms.map (Ym n) ++ .slc h.length 0 n (some n)::List.replicate (n-(i+1)) .nilS) true 1)=h2 at *
  have hat:(ms.map (Ym n)++SV.slc h.length 0 n (some n)::List.replicate (n-(i+1)) SV.nilS)[i]?=some (.slc h.length 0 n (some n)):=by
   rw[Gi (by simp[s.l]),Gj,s.l,G1];rfl
  generalize htop:ms.map (Ym n)++SV.slc h.length 0 n (some n)::List.replicate (n-(i+1)) SV.nilS=top at *
  refine QV (Qjl p g q3 N t pid q h.length n i pws top r rs a1 a2 a8 a12 a64 a65 (.sc (.slc id off ss.length cap)) (.sc (.int .i64 (n:Nat))) (.sc (.int .i64 (i:Nat))) hb h2) n (QmR p g q3 N t pid q h.length n i pws top r a1 a2 a8 a12 a64 a65 (.sc (.slc id off ss.length cap)) (.sc (.int .i64 (n:Nat))) (.sc (.int .i64 (i:Nat))) hb h2)
   ⟨0,Gm _,rfl,⟨x2,Chg.refl _,top2,by rw[Zf];exact b2,by omega,hne⟩,rfl⟩
   (Qfl p g q3 N t pid q h.length n i pws top r rs a1 a2 a8 a12 a64 a65 (.sc (.slc id off ss.length cap)) (.sc (.int .i64 (n:Nat))) (.sc (.int .i64 (i:Nat))) hb h2 hp hN ht hlt hn c3 bp lp pp er lr lt hat) ?_
  rintro ex E' h3 ⟨rfl,s3,_,_,_,_,_,rfl⟩
  repeat' first|apply Qb|apply QL|apply QK|apply Qe|(apply Qd;refine qf rfl rfl rfl rfl rfl rfl rfl rfl rfl rfl rfl rfl rfl rfl ?_)|(apply Qc;first|refine Ql rfl ?_|refine QM rfl rfl (by omega) ?_)
  refine Qz (j:=n-(i+1)) (by omega) ⟨i+1,ms++[(h.length,yo p N t pws r)],by omega,rfl,⟨s3.x,?_,by simp[s.l],?_,s.ql,?_,?_,?_⟩,rfl⟩
  ·rw[s3.t,← htop];simp[Ym]
  ·rw[GW,List.nodup_append]
   refine⟨s.nd,by simp,fun a ha b hb'=>?_⟩
   obtain⟨m,hm,rfl⟩:=Gs.1 ha
   simp at hb'
   subst hb'
   have:=(s.row m hm).lt
   omega
  ·intro m hm
   rcases Gy.1 hm with hm|hm
   ·exact s.lo m hm
   ·simp at hm;subst hm;exact⟨by show hb.length<=h.length;omega,Ne.symm hne⟩
  ·intro m hm
   rcases Gy.1 hm with hm|hm
   ·exact s3.c.bu (rows2 m hm) (by have:=(s.row m hm).lt;omega)
   ·simp at hm;subst hm;exact s3.b
  ·rw[GW,s.v,GB,hr];simp
 ·have:i=n:=by omega
  subst this
  repeat' first|apply Qf|apply Qb|apply QS|apply QQ|apply Qe|(apply Qg;refine Qi rfl ?_)|(apply Qd;refine Jr rfl rfl rfl rfl rfl rfl rfl rfl rfl rfl rfl rfl rfl rfl rfl ?_)|(apply Qc;refine QF rfl rfl (by omega) ?_)
  exact QB ⟨rfl,ms,s,_,_,_,_,rfl⟩
section
variable {FT:zzA} {HK:zzH} {E:Env} {h:Qa} {K:Env->Qa->Prop} {d:Option Nat} {r:List AOp} {x y:AO}
theorem repN{v:SV}:∀ n:Nat,rep [v] n=List.replicate n v
 | 0=>rfl
 | n+1=>by rw[rep,repN n];rfl
theorem Qhy{n:Nat}(hx:evS E x=some (.int .i64 (n:Nat)))(hy:evS E y=some (.int .i64 (n:Nat)))(hb:n<=10000000)(hw:∀ h1,Ext h h1->h1[h.length]?=some (.cells (List.replicate n .nilS) true 1)->Qm FT HK r (Qv d (some (.sc (.slc h.length 0 n (some n)))) E) h1 K) :
  Qm FT HK (⟨d,.mk 1 24 [.nilS] x y,none⟩::r) E h K:=by
 refine Q2 (v:=some (.sc (.slc h.length 0 n (some n)))) (h':=h++[.cells (rep [.nilS] n) true 1]) rfl rfl ?_ (hw _ ⟨_,rfl⟩ ?_)
 ·simp only[Qo,hx,hy]
  rw[if_pos ⟨by omega,by omega,by unfold XS;omega⟩,Hp]
 ·rw[Gi (Gd _),G1,repN];rfl
end
theorem Chg.ext'{S:Nat->Prop}{a b c:Qa}(x:Ext a b)(y:Chg S b c)(hs:∀ j,S j->a.length<=j):Ext a c :=
 Chg.toExt ⟨Gq x.len y.len,fun j hj _=>by
  rw[y.same j (GL hj x.len) fun h=>by have:=hs j h;omega]
  obtain⟨t,rfl⟩:=x
  rw[Gn hj]⟩
theorem P108.mx{p N t q n:Nat}{pws:List Nat}{es:List (List (List Tm))}{ms:List X8}{hb h:Qa}(s:P108 p N t q n pws es n ms hb h):Mx h q n ms:=by
 refine⟨by rw[s.tp,G1];simp,s.nd,fun hm=>?_,s.row⟩
 obtain⟨m,h1,h2⟩:=Gs.1 hm
 exact(s.lo m h1).2 h2
def JW(p N n:Nat)(pws:List Nat)(es:List (List (List Tm)))(t:Nat):Nat:=qY p (XZ p) n 0 (es.map (yo p N t pws)) 1
def Qjn(p g q3 N pid vid n:Nat)(pws:List Nat)(es:List (List (List Tm)))(esl:SV)(a2 a8:AV)(hb:Qa)(m:Nat)(E:Env)(h:Qa):Prop:=∃ t,t<=N/\m=N-t/\Ext hb h/\Bu h vid (fill (JW p N n pws es) N t) ∧
 E.keep [1,2,3,7,8,10,12,64,65]=[(1,some (.sc esl)),(2,some a2),(3,some (.sc (.ptr q3 0))),(7,some (.sc (.int .i64 (N:Nat)))),(8,some a8),(10,some (.sc (.slc pid 0 N (some N)))),(12,some (.sc (.slc vid 0 N (some N)))),(64,some (.sc (.int .i64 (N:Nat)))),(65,some (.sc (.int .i64 (t:Nat))))]
def QmT(p g q3 N pid vid n:Nat)(pws:List Nat)(es:List (List (List Tm)))(a2 a8:AV)(hb:Qa)(ex:Ex)(E:Env)(h:Qa):Prop:=ex = .ex 6/\Ext hb h/\Bu h vid ((List.range N).map (JW p N n pws es)) ∧
 ∃ b c d e f,E=[(1,b),(2,some a2),(3,some (.sc (.ptr q3 0))),(7,some (.sc (.int .i64 (N:Nat)))),(8,some a8),(10,c),(12,some (.sc (.slc vid 0 N (some N)))),(64,d),(65,e),(66,f)]
theorem Qfn(p g q3 N pid vid n:Nat)(pws:List Nat)(es:List (List (List Tm)))(esl:SV)(a2 a8:AV)(hb:Qa)(hp:2<=p/\p<9223372036854775808)(hN:0<N/\N<=131072)(hn:n<1000000)
  (c3:Cel hb q3 (.int .u64 (p:Nat)) (.int .u64 (g:Nat))) (bp:Bu hb pid pws) (lp:pws.length=N) (pp:∀ x∈pws,x<p) (ee:Ents hb esl es) (he:es.length=n) (tok:∀ r∈es,r.length=n/\∀ l∈r,l.length<=1000000/\∀ m∈l,VJ p m) (hv:hb.length<=vid) (m:Nat) (E:Env) (h:Qa) (hI:Qjn p g q3 N pid vid n pws es esl a2 a8 hb m E h) :
  wA FT HKt QiJ (E.keep [1,2,3,7,8,10,12,64,65]) h (Qp (Qjn p g q3 N pid vid n pws es esl a2 a8 hb) m (QmT p g q3 N pid vid n pws es a2 a8 hb)):=by
 obtain⟨t,ht,rfl,x,bv,hE⟩:=hI
 rw[hE]
 by_cases hlt:t<N
 ·have ls:Yh false esl=some (n:Int):=by
   obtain⟨ss,l1,l2,-⟩:=ee
   rw[← he,← l1];exact IsSl.len l2
  have c3h:=c3.ext x
  have wv:=fun h' (y:Ext h h')=>(bv.ext y).wr (i:=t) (y:=JW p N n pws es t) (by rw[YI];exact hlt)
  have fs:=Zt (f:=JW p N n pws es) hlt
  rw[fs]at wv
  repeat' first|apply Qf|apply Qb|apply QS|apply QC|apply Qt|apply QL|apply QK|apply Xi|apply Qn|apply Qs|apply QQ|apply Qe|apply Q7|apply Xm|apply Xn|(refine JV ?_ ?_;rfl)|(apply Qg;first|refine Qk rfl ?_|refine Qi rfl ?_)|(apply Qd;first|apply Q5|apply Xw|refine XP ⟨_,rfl⟩ ?_|refine XP (extA _ _ _) ?_|refine XP (by assumption) ?_|apply Qau|refine Qq rfl ?_|refine QA rfl rfl ?_|refine Qu rfl rfl rfl ?_|refine QG rfl rfl rfl rfl ?_|refine QO rfl rfl rfl rfl rfl ?_|refine QE rfl rfl rfl rfl rfl rfl ?_|refine Q4 rfl rfl rfl rfl rfl rfl rfl ?_|refine Xh rfl rfl rfl rfl rfl rfl rfl rfl ?_|refine Q9 rfl rfl rfl rfl rfl rfl rfl rfl rfl ?_|refine XA rfl rfl rfl rfl rfl rfl rfl rfl rfl rfl ?_|refine Yr rfl rfl rfl rfl rfl rfl rfl rfl rfl rfl rfl ?_|refine X0 rfl rfl rfl rfl rfl rfl rfl rfl rfl rfl rfl rfl ?_|refine Y5 rfl rfl rfl rfl rfl rfl rfl rfl rfl rfl rfl rfl rfl ?_|refine qf rfl rfl rfl rfl rfl rfl rfl rfl rfl rfl rfl rfl rfl rfl ?_|refine Jr rfl rfl rfl rfl rfl rfl rfl rfl rfl rfl rfl rfl rfl rfl rfl ?_|refine ZC rfl rfl rfl rfl rfl rfl rfl rfl rfl rfl rfl rfl rfl rfl rfl rfl ?_|refine Jq rfl rfl rfl rfl rfl rfl rfl rfl rfl rfl rfl rfl rfl rfl rfl rfl rfl ?_|refine ZX rfl rfl rfl rfl rfl rfl rfl rfl rfl rfl rfl rfl rfl rfl rfl rfl rfl rfl ?_|refine yf rfl rfl rfl rfl rfl rfl rfl rfl rfl rfl rfl rfl rfl rfl rfl rfl rfl rfl rfl ?_|refine Up rfl rfl rfl rfl rfl rfl rfl rfl rfl rfl rfl rfl rfl rfl rfl rfl rfl rfl rfl rfl ?_|refine w_end21 rfl rfl rfl rfl rfl rfl rfl rfl rfl rfl rfl rfl rfl rfl rfl rfl rfl rfl rfl rfl rfl ?_|refine ye rfl rfl rfl rfl rfl rfl rfl rfl rfl rfl rfl rfl rfl rfl rfl rfl rfl rfl rfl rfl rfl rfl ?_|refine yd rfl rfl rfl rfl rfl rfl rfl rfl rfl rfl rfl rfl rfl rfl rfl rfl rfl rfl rfl rfl rfl rfl rfl ?_|refine Uo rfl rfl rfl rfl rfl rfl rfl rfl rfl rfl rfl rfl rfl rfl rfl rfl rfl rfl rfl rfl rfl rfl rfl rfl ?_)|(apply Qc;first|refine Qr rfl ls ?_|(refine Qhy rfl rfl (by omega) ?_;intro h1 x1 t1)|refine Xd rfl ?_|refine UD rfl ?_|refine QP rfl ?_|refine Ql rfl ?_|refine QR rfl rfl ?_|refine QJ rfl rfl ?_|refine XC rfl ?_|refine X1 rfl ?_|refine QM rfl rfl (by omega) ?_|refine Jj rfl rfl (by omega) ?_|refine JR rfl rfl (by omega) ?_|refine Z1 rfl (by omega) ?_|refine z8 rfl rfl (by omega) ?_|refine yK rfl rfl (by omega) ?_|refine YG rfl (by omega) ?_|refine Qae rfl rfl ?_|refine Qch rfl rfl ?_|refine Qx rfl rfl (by omega) ?_|refine QF rfl rfl (by omega) ?_|refine Vm rfl rfl (fun hc=>?_) (fun hc=>?_)|refine J3 rfl rfl (by omega) ?_|refine JF rfl rfl (by omega) ?_|refine Qci rfl rfl (fun hc=>?_) (fun hc=>?_)|refine XK rfl rfl (by omega) ?_|refine XD rfl rfl (by omega) ?_|refine Vn rfl rfl (fun hc=>?_) (fun hc=>?_)|refine Ye rfl rfl (by omega) ?_|refine X6 rfl rfl (by omega) ?_|refine Qcj rfl rfl (fun hc=>?_) (fun hc=>?_)|refine Xu rfl rfl (by omega) ?_|refine Xl rfl rfl (by omega) ?_|refine Vo rfl rfl (fun hc=>?_) (fun hc=>?_)|refine Ya rfl rfl (by omega) ?_|refine XJ rfl rfl (by omega) ?_|refine Vl rfl rfl (fun hc=>?_) (fun hc=>?_)|refine Qr rfl rfl ?_|refine Xk rfl rfl ?_)
  refine QV (Qji p g q3 N t pid h.length n pws es esl (.sc esl) a2 a8 (.sc (.slc vid 0 N (some N))) (.sc (.int .i64 (N:Nat))) (.sc (.int .i64 (t:Nat))) h) n (QmO p g q3 N t pid h.length n pws es (.sc esl) a2 a8 (.sc (.slc vid 0 N (some N))) (.sc (.int .i64 (N:Nat))) (.sc (.int .i64 (t:Nat))) h)
   ⟨0,[],Gm _,rfl,⟨x1,by simpa using t1,rfl,by simp,Gd _,by simp,by simp,by simp⟩,rfl⟩
   (Qfi p g q3 N t pid h.length n pws es esl (.sc esl) a2 a8 (.sc (.slc vid 0 N (some N))) (.sc (.int .i64 (N:Nat))) (.sc (.int .i64 (t:Nat))) h ⟨by omega,hp.2⟩ hN hlt (by omega) c3h (bp.ext x) lp pp (ee.ext x) he tok) ?_
  rintro ex E' h2 ⟨rfl,ms,s2,_,_,_,_,rfl⟩
  have c32:=c3h.ext s2.x
  have ev:ms.map (·.2)=es.map (yo p N t pws):=by
   have:=s2.v
   rwa [GG (by omega)]at this
  have ro:zO p n ms:=fun m hm=>by
   have:m.2∈es.map (yo p N t pws):=by rw[← ev];exact Gs.2 ⟨m,hm,rfl⟩
   obtain⟨r,hr,e⟩:=Gs.1 this
   rw[← e]
   refine⟨by show (r.map _).length=n;rw[Gj];exact(tok r hr).1,fun y hy=>?_⟩
   obtain⟨l,hl,rfl⟩:=Gs.1 hy
   exact Qdw (by omega)
  have k130:=Qk8 p g h.length n ms h2 hp hn s2.mx ro s2.l
  rw[ev]at k130
  have eV:qY p (XZ p) n 0 (es.map (yo p N t pws)) 1=JW p N n pws es t:=rfl
  rw[eV]at k130
  have lo:=s2.lo
  have x2:=s2.x
  clear s2
  repeat' first|apply Qf|apply Qb|apply QS|apply QC|apply Qt|apply QL|apply QK|apply Xi|apply Qn|apply Qs|apply QQ|apply Qe|apply Q7|apply Xm|apply Xn|(refine JV ?_ ?_;rfl)|(apply Qg;first|refine Qk rfl ?_|refine Qi rfl ?_)|(apply Qd;first|apply Q5|apply Xw|refine XP ⟨_,rfl⟩ ?_|refine XP (extA _ _ _) ?_|refine XP (by assumption) ?_|apply Qau|refine Qq rfl ?_|refine QA rfl rfl ?_|refine Qu rfl rfl rfl ?_|refine QG rfl rfl rfl rfl ?_|refine QO rfl rfl rfl rfl rfl ?_|refine QE rfl rfl rfl rfl rfl rfl ?_|refine Q4 rfl rfl rfl rfl rfl rfl rfl ?_|refine Xh rfl rfl rfl rfl rfl rfl rfl rfl ?_|refine Q9 rfl rfl rfl rfl rfl rfl rfl rfl rfl ?_|refine XA rfl rfl rfl rfl rfl rfl rfl rfl rfl rfl ?_|refine Yr rfl rfl rfl rfl rfl rfl rfl rfl rfl rfl rfl ?_|refine X0 rfl rfl rfl rfl rfl rfl rfl rfl rfl rfl rfl rfl ?_|refine Y5 rfl rfl rfl rfl rfl rfl rfl rfl rfl rfl rfl rfl rfl ?_|refine qf rfl rfl rfl rfl rfl rfl rfl rfl rfl rfl rfl rfl rfl rfl ?_|refine Jr rfl rfl rfl rfl rfl rfl rfl rfl rfl rfl rfl rfl rfl rfl rfl ?_|refine ZC rfl rfl rfl rfl rfl rfl rfl rfl rfl rfl rfl rfl rfl rfl rfl rfl ?_|refine Jq rfl rfl rfl rfl rfl rfl rfl rfl rfl rfl rfl rfl rfl rfl rfl rfl rfl ?_|refine ZX rfl rfl rfl rfl rfl rfl rfl rfl rfl rfl rfl rfl rfl rfl rfl rfl rfl rfl ?_|refine yf rfl rfl rfl rfl rfl rfl rfl rfl rfl rfl rfl rfl rfl rfl rfl rfl rfl rfl rfl ?_|refine Up rfl rfl rfl rfl rfl rfl rfl rfl rfl rfl rfl rfl rfl rfl rfl rfl rfl rfl rfl rfl ?_|refine w_end21 rfl rfl rfl rfl rfl rfl rfl rfl rfl rfl rfl rfl rfl rfl rfl rfl rfl rfl rfl rfl rfl ?_|refine ye rfl rfl rfl rfl rfl rfl rfl rfl rfl rfl rfl rfl rfl rfl rfl rfl rfl rfl rfl rfl rfl rfl ?_|refine yd rfl rfl rfl rfl rfl rfl rfl rfl rfl rfl rfl rfl rfl rfl rfl rfl rfl rfl rfl rfl rfl rfl rfl ?_|refine Uo rfl rfl rfl rfl rfl rfl rfl rfl rfl rfl rfl rfl rfl rfl rfl rfl rfl rfl rfl rfl rfl rfl rfl rfl ?_)|(apply Qc;first|refine QU rfl c32 ?_|(refine Qj rfl k130 ?_;rintro v3 h3 ⟨ch,rfl⟩;have x3:Ext h h3:=Chg.ext' x2 ch (by rintro j (rfl|⟨m,hm,rfl⟩);exact Gd _;exact(lo m hm).1))|refine Qy (esz:=1) rfl rfl (by omega) ?_|refine Jk rfl rfl (wv _ x3) ?_|refine Xd rfl ?_|refine UD rfl ?_|refine QP rfl ?_|refine Ql rfl ?_|refine QR rfl rfl ?_|refine QJ rfl rfl ?_|refine XC rfl ?_|refine X1 rfl ?_|refine QM rfl rfl (by omega) ?_|refine Jj rfl rfl (by omega) ?_|refine JR rfl rfl (by omega) ?_|refine Z1 rfl (by omega) ?_|refine z8 rfl rfl (by omega) ?_|refine yK rfl rfl (by omega) ?_|refine YG rfl (by omega) ?_|refine Qae rfl rfl ?_|refine Qch rfl rfl ?_|refine Qx rfl rfl (by omega) ?_|refine QF rfl rfl (by omega) ?_|refine Vm rfl rfl (fun hc=>?_) (fun hc=>?_)|refine J3 rfl rfl (by omega) ?_|refine JF rfl rfl (by omega) ?_|refine Qci rfl rfl (fun hc=>?_) (fun hc=>?_)|refine XK rfl rfl (by omega) ?_|refine XD rfl rfl (by omega) ?_|refine Vn rfl rfl (fun hc=>?_) (fun hc=>?_)|refine Ye rfl rfl (by omega) ?_|refine X6 rfl rfl (by omega) ?_|refine Qcj rfl rfl (fun hc=>?_) (fun hc=>?_)|refine Xu rfl rfl (by omega) ?_|refine Xl rfl rfl (by omega) ?_|refine Vo rfl rfl (fun hc=>?_) (fun hc=>?_)|refine Ya rfl rfl (by omega) ?_|refine XJ rfl rfl (by omega) ?_|refine Vl rfl rfl (fun hc=>?_) (fun hc=>?_)|refine Qr rfl rfl ?_|refine Xk rfl rfl ?_)
  refine Qz (j:=N-(t+1)) (by omega) ⟨t+1,by omega,rfl,Ext.setF (x.trans x3) hv _,(bv.ext x3).set,rfl⟩
 ·have:t=N:=by omega
  subst this
  rw[Zg]at bv
  repeat' first|apply Qf|apply Qb|apply QS|apply QC|apply Qt|apply QL|apply QK|apply Xi|apply Qn|apply Qs|apply QQ|apply Qe|apply Q7|apply Xm|apply Xn|(refine JV ?_ ?_;rfl)|(apply Qg;first|refine Qk rfl ?_|refine Qi rfl ?_)|(apply Qd;first|apply Q5|apply Xw|refine XP ⟨_,rfl⟩ ?_|refine XP (extA _ _ _) ?_|refine XP (by assumption) ?_|apply Qau|refine Qq rfl ?_|refine QA rfl rfl ?_|refine Qu rfl rfl rfl ?_|refine QG rfl rfl rfl rfl ?_|refine QO rfl rfl rfl rfl rfl ?_|refine QE rfl rfl rfl rfl rfl rfl ?_|refine Q4 rfl rfl rfl rfl rfl rfl rfl ?_|refine Xh rfl rfl rfl rfl rfl rfl rfl rfl ?_|refine Q9 rfl rfl rfl rfl rfl rfl rfl rfl rfl ?_|refine XA rfl rfl rfl rfl rfl rfl rfl rfl rfl rfl ?_|refine Yr rfl rfl rfl rfl rfl rfl rfl rfl rfl rfl rfl ?_|refine X0 rfl rfl rfl rfl rfl rfl rfl rfl rfl rfl rfl rfl ?_|refine Y5 rfl rfl rfl rfl rfl rfl rfl rfl rfl rfl rfl rfl rfl ?_|refine qf rfl rfl rfl rfl rfl rfl rfl rfl rfl rfl rfl rfl rfl rfl ?_|refine Jr rfl rfl rfl rfl rfl rfl rfl rfl rfl rfl rfl rfl rfl rfl rfl ?_|refine ZC rfl rfl rfl rfl rfl rfl rfl rfl rfl rfl rfl rfl rfl rfl rfl rfl ?_|refine Jq rfl rfl rfl rfl rfl rfl rfl rfl rfl rfl rfl rfl rfl rfl rfl rfl rfl ?_|refine ZX rfl rfl rfl rfl rfl rfl rfl rfl rfl rfl rfl rfl rfl rfl rfl rfl rfl rfl ?_|refine yf rfl rfl rfl rfl rfl rfl rfl rfl rfl rfl rfl rfl rfl rfl rfl rfl rfl rfl rfl ?_|refine Up rfl rfl rfl rfl rfl rfl rfl rfl rfl rfl rfl rfl rfl rfl rfl rfl rfl rfl rfl rfl ?_|refine w_end21 rfl rfl rfl rfl rfl rfl rfl rfl rfl rfl rfl rfl rfl rfl rfl rfl rfl rfl rfl rfl rfl ?_|refine ye rfl rfl rfl rfl rfl rfl rfl rfl rfl rfl rfl rfl rfl rfl rfl rfl rfl rfl rfl rfl rfl rfl ?_|refine yd rfl rfl rfl rfl rfl rfl rfl rfl rfl rfl rfl rfl rfl rfl rfl rfl rfl rfl rfl rfl rfl rfl rfl ?_|refine Uo rfl rfl rfl rfl rfl rfl rfl rfl rfl rfl rfl rfl rfl rfl rfl rfl rfl rfl rfl rfl rfl rfl rfl rfl ?_)|(apply Qc;first|refine Xd rfl ?_|refine UD rfl ?_|refine QP rfl ?_|refine Ql rfl ?_|refine QR rfl rfl ?_|refine QJ rfl rfl ?_|refine XC rfl ?_|refine X1 rfl ?_|refine QM rfl rfl (by omega) ?_|refine Jj rfl rfl (by omega) ?_|refine JR rfl rfl (by omega) ?_|refine Z1 rfl (by omega) ?_|refine z8 rfl rfl (by omega) ?_|refine yK rfl rfl (by omega) ?_|refine YG rfl (by omega) ?_|refine Qae rfl rfl ?_|refine Qch rfl rfl ?_|refine Qx rfl rfl (by omega) ?_|refine QF rfl rfl (by omega) ?_|refine Vm rfl rfl (fun hc=>?_) (fun hc=>?_)|refine J3 rfl rfl (by omega) ?_|refine JF rfl rfl (by omega) ?_|refine Qci rfl rfl (fun hc=>?_) (fun hc=>?_)|refine XK rfl rfl (by omega) ?_|refine XD rfl rfl (by omega) ?_|refine Vn rfl rfl (fun hc=>?_) (fun hc=>?_)|refine Ye rfl rfl (by omega) ?_|refine X6 rfl rfl (by omega) ?_|refine Qcj rfl rfl (fun hc=>?_) (fun hc=>?_)|refine Xu rfl rfl (by omega) ?_|refine Xl rfl rfl (by omega) ?_|refine Vo rfl rfl (fun hc=>?_) (fun hc=>?_)|refine Ya rfl rfl (by omega) ?_|refine XJ rfl rfl (by omega) ?_|refine Vl rfl rfl (fun hc=>?_) (fun hc=>?_)|refine Qr rfl rfl ?_|refine Xk rfl rfl ?_)
  exact QB ⟨rfl,x,bv,_,_,_,_,_,rfl⟩
