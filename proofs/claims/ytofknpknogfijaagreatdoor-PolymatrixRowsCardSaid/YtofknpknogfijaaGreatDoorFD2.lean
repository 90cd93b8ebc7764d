/- Rows of residues in memory;the inner function of the determinant. -/
import Derived.Test.YtofknpknogfijaaGreatDoorAwake
namespace Go.Proofs.YtofknpknogfijaaGreatDoor
open Go.Ab
set_option linter.all false
set_option maxHeartbeats 16000000
set_option maxRecDepth 20000
attribute [local irreducible] Ql wA Xr Xp QA Qp QW QY
variable [HB]
structure Chg (S:Nat→Prop) (h h':Qa):Prop where
 len:h.length≤h'.length
 same:∀ j,j < h.length→¬ S j→h'[j]?=h[j]?
theorem Chg.refl {S:Nat→Prop} (h:Qa):Chg S h h:=⟨Gf _,fun _ _ _=>rfl⟩
theorem Chg.trans {S:Nat→Prop} {a b c:Qa} (x:Chg S a b) (y:Chg S b c):Chg S a c:=⟨Gn x.len y.len,fun j h1 h2=>by rw [y.same j (GG h1 x.len) h2,x.same j h1 h2]⟩
theorem Chg.mono {S T:Nat→Prop} {a b:Qa} (x:Chg S a b) (h:∀ j,j < a.length→S j→T j):Chg T a b:=⟨x.len,fun j h1 h2=>x.same j h1 fun h3=>h2 (h j h1 h3)⟩
theorem Chg.ext {S:Nat→Prop} {a b c:Qa} (x:Chg S a b) (e:Ext b c):Chg S a c:=by
 obtain ⟨t,rfl⟩:=e
 exact x.trans ⟨by simp,fun j h1 _=>by rw [Gk h1]⟩
theorem Chg.set {S:Nat→Prop} {a b:Qa} (x:Chg S a b) {id:Nat} (hs:S id) (blk:Blk):Chg S a (b.set id blk) :=
 x.trans ⟨by simp,fun j h1 h2=>Gj (fun e=>h2 (by rw [← e];exact hs))⟩
theorem Chg.toExt {a b:Qa} (x:Chg (fun _=>False) a b):Ext a b:=by
 refine ⟨b.drop a.length,?_⟩
 apply Gr
 intro i
 rcases Gw i a.length with h | h
 ·rw [Gk h,x.same i h (fun h=>h)]
 ·rw [Gg h,GL];congr 1;omega
theorem Chg.get {S:Nat→Prop} {a b:Qa} (x:Chg S a b) {j:Nat} {blk:Blk} (h:a[j]?=some blk) (hs:¬ S j):b[j]?=some blk:=by
 rw [x.same j (Gb.1 h).1 hs,h]
def Bu (h:Qa) (id:Nat) (xs:List Nat):Prop:=h[id]?=some (.cells (xs.map fun (x:Nat)=>SV.int .u64 (x:Int)) true 1)
theorem Bu.ext {h h':Qa} {id:Nat} {xs:List Nat} (b:Bu h id xs) (e:Ext h h'):Bu h' id xs:=by
 obtain ⟨t,rfl⟩:=e
 unfold Bu at *
 rw [Gk (Gb.1 b).1,b]
theorem Bu.lt {h:Qa} {id:Nat} {xs:List Nat} (b:Bu h id xs):id < h.length:=(Gb.1 b).1
theorem Bu.rd {h:Qa} {id i:Nat} {xs:List Nat} (b:Bu h id xs) (hi:i < xs.length):QZ h id (0+i*1) 1=some [.int .u64 ((xs.getD i 0:Nat):Int)]:=by
 unfold Bu at b
 simp only [QZ,b,cut,Gt]
 rw [if_pos (by omega)]
 congr 1
 rw [G0,G3]
 apply Gr
 intro j
 cases j with
 | zero=>simp [Ge,Ga hi]
 | succ j=>simp;omega
theorem Bu.wr {h:Qa} {id i y:Nat} {xs:List Nat} (b:Bu h id xs) (hi:i < xs.length):Xx h id (0+i*1) [.int .u64 (y:Int)]=some (h.set id (.cells ((xs.set i y).map fun (x:Nat)=>SV.int .u64 (x:Int)) true 1)):=by
 unfold Bu at b
 simp only [Xx,b,Gt,GA,GV]
 rw [if_pos (by omega)]
 congr 3
 unfold Xh
 rw [G0,G3]
 apply Gr
 intro j
 simp only [GA,GV,Gi,GH]
 rcases Hs j i with h1 | h1 | h1
 ·rw [if_neg (by omega),GI,Gk (by simp;omega)]
  simp [GJ,h1]
 ·subst h1
  rw [if_pos rfl,if_pos hi,GI,Gg (by simp;omega)]
  simp [G2 (Hx hi)]
 ·rw [if_neg (by omega),Gg (by simp;omega)]
  simp only [GK,Hn,Gt,GA,GV,GL,Gi]
  rw [G2 (Hx hi)]
  congr 2;omega
theorem Bu.set {h:Qa} {id:Nat} {xs ys:List Nat} (b:Bu h id xs):Bu (h.set id (.cells (ys.map fun (x:Nat)=>SV.int .u64 (x:Int)) true 1)) id ys:=by
 unfold Bu;rw [GC b.lt]
theorem Bu.other {h:Qa} {id j:Nat} {xs:List Nat} (b:Bu h j xs) (hn:id≠j) (blk:Blk):Bu (h.set id blk) j xs:=by
 unfold Bu at *;rw [Gj hn,b]
theorem Cel.other {h:Qa} {id j:Nat} {x y:SV} (b:Cel h j x y) (hn:id≠j) (blk:Blk):Cel (h.set id blk) j x y:=by
 unfold Cel at *;rw [Gj hn];exact b
theorem Cel1.other {h:Qa} {id j:Nat} {x:SV} (b:Cel1 h j x) (hn:id≠j) (blk:Blk):Cel1 (h.set id blk) j x:=by
 unfold Cel1 at *;rw [Gj hn];exact b
def elP (p k f c:Nat) (piv r:List Nat):List Nat:=r.mapIdx fun i x=>if k < i∧i < c then sbM p x (f*piv.getD i 0%p) else x
theorem QaA {p k f c:Nat} {piv r:List Nat}:(elP p k f c piv r).length=r.length:=by simp [elP]
theorem Qe0 {p k f:Nat} {piv r:List Nat}:elP p k f (k+1) piv r=r:=by
 unfold elP
 apply Gr
 intro i
 rw [GR]
 cases r[i]? with
 | none=>rfl
 | some x=>simp only [Gl];rw [if_neg (by omega)]
theorem Qjy {p k f:Nat} {piv r:List Nat}:elP p k f r.length piv r=elR p k f piv r:=by
 unfold elP elR
 apply Gr
 intro i
 rw [GR,GR]
 cases h:r[i]? with
 | none=>rfl
 | some x =>
  have:=(Gb.1 h).1
  simp only [Gl]
  by_cases hk:k < i
  ·rw [if_pos ⟨hk,this⟩,if_pos hk]
  ·rw [if_neg (by omega),if_neg hk]
theorem QgU {p k f c:Nat} {piv r:List Nat} (h:c < r.length):(elP p k f c piv r).getD c 0=r.getD c 0:=by
 unfold elP
 simp only [Ge,GR]
 rw [Ga h]
 simp
theorem QbU {p k f c:Nat} {piv r:List Nat} (hk:k < c) (h:c < r.length):(elP p k f c piv r).set c (sbM p (r.getD c 0) (f*piv.getD c 0%p))=elP p k f (c+1) piv r:=by
 unfold elP
 apply Gr
 intro i
 rw [GH,GR,GR,List.length_mapIdx]
 by_cases e:c=i
 ·subst e
  rw [if_pos rfl,if_pos h,Ga h]
  simp only [Gl]
  rw [if_pos ⟨hk,by omega⟩,Ge,Ga h];rfl
 ·rw [if_neg e]
  cases r[i]? with
  | none=>rfl
  | some x =>
   simp only [Gl]
   by_cases h1:k < i∧i < c
   ·rw [if_pos h1,if_pos ⟨h1.1,by omega⟩]
   ·rw [if_neg h1,if_neg (by omega)]
theorem Qa1 {p x:Nat}:sbM p x 0=x:=by unfold sbM;rw [if_neg (by omega)];rfl
theorem QgT {p k f c:Nat} {piv r:List Nat} (hk:k < c) (h:c < r.length) (h0:f*piv.getD c 0%p=0):elP p k f c piv r=elP p k f (c+1) piv r:=by
 rw [← QbU hk h,h0,Qa1,← QgU (p:=p) (k:=k) (f:=f) (piv:=piv) h]
 apply Gr
 intro i
 rw [GH]
 by_cases e:c=i
 ·subst e
  have hl:c < (elP p k f c piv r).length:=by rw [QaA];exact h
  rw [if_pos rfl,if_pos hl,Ge,Ga hl];rfl
 ·rw [if_neg e]
theorem QgS {p k:Nat} {piv r:List Nat}:elR p k 0 piv r=r:=by
 unfold elR
 apply Gr
 intro i
 rw [GR]
 cases r[i]? with
 | none=>rfl
 | some x=>simp only [Gl,Nat.zero_mul,Nat.zero_mod,Qa1,ite_self]
structure S141 (p g id pid q8 q2 n:Nat) (cap:Option Nat) (piv row:List Nat) (h0 h:Qa):Prop where
 c:Chg (·=id) h0 h
 b:Bu h id row
 bp:Bu h pid piv
 c8:Cel1 h q8 (.slc pid 0 n cap)
 c2:Cel h q2 (.int .u64 (p:Nat)) (.int .u64 (g:Nat))
 ne:id≠pid∧id≠q8∧id≠q2
theorem S141.ext {p g id pid q8 q2 n:Nat} {cap:Option Nat} {piv row:List Nat} {h0 h h':Qa} (s:S141 p g id pid q8 q2 n cap piv row h0 h) (e:Ext h h'):S141 p g id pid q8 q2 n cap piv row h0 h':=⟨s.c.ext e,s.b.ext e,s.bp.ext e,s.c8.ext e,s.c2.ext e,s.ne⟩
theorem S141.put {p g id pid q8 q2 n:Nat} {cap:Option Nat} {piv row:List Nat} {h0 h:Qa} (s:S141 p g id pid q8 q2 n cap piv row h0 h) (ys:List Nat):S141 p g id pid q8 q2 n cap piv ys h0 (h.set id (.cells (ys.map fun (x:Nat)=>SV.int .u64 (x:Int)) true 1)) :=
 ⟨s.c.set rfl _,s.b.set,s.bp.other s.ne.1 _,Cel1.other s.c8 s.ne.2.1 _,Cel.other s.c2 s.ne.2.2 _,s.ne⟩
def I141 (p g id pid q8 q2 n k f:Nat) (cap cap':Option Nat) (piv row:List Nat) (h0:Qa) (m:Nat) (E:Env) (h:Qa):Prop:=∃ c,k < c∧c≤n∧m=n-c∧S141 p g id pid q8 q2 n cap piv (elP p k f c piv row) h0 h ∧
 E.keep [0,1,3,4,7]=[(0,some (.sc (.slc id 0 n cap'))),(1,some (u f)),(3,some (.sc (.ptr q8 0))),(4,some (.sc (.ptr q2 0))),(7,some (.sc (.int .i64 (c:Nat))))]
def R141 (p g id pid q8 q2 n k f:Nat) (cap:Option Nat) (piv row:List Nat) (h0:Qa) (ex:Ex) (E:Env) (h:Qa):Prop:=ex=.ex 0∧S141 p g id pid q8 q2 n cap piv (elR p k f piv row) h0 h
theorem QfM (p g id pid q8 q2 n k f:Nat) (cap cap':Option Nat) (piv row:List Nat) (h0:Qa) (hp:0 < p∧p < 9223372036854775808) (hf:f < p) (hr:row.length=n) (hv:piv.length=n) (hn:n < 1000000)
  (hrp:∀ x∈row,x < p) (hvp:∀ x∈piv,x < p) (m:Nat) (E:Env) (h:Qa) (hI:I141 p g id pid q8 q2 n k f cap cap' piv row h0 m E h) :
  wA FT HKt Qhq (E.keep [0,1,3,4,7]) h (Qp (I141 p g id pid q8 q2 n k f cap cap' piv row h0) m (R141 p g id pid q8 q2 n k f cap piv row h0)):=by
 obtain ⟨c,hk,hc,rfl,s,hE⟩:=hI
 rw [hE]
 by_cases hlt:c < n
 ·have rv:=s.bp.rd (i:=c) (by omega)
  have rr:=s.b.rd (i:=c) (by rw [QaA];omega)
  rw [QgU (by omega)] at rr
  have hx:row.getD c 0 < p:=by rw [Ge,Ga (by omega)];exact hrp _ (GD _)
  have hy:piv.getD c 0 < p:=by rw [Ge,Ga (by omega)];exact hvp _ (GD _)
  have c8:=s.c8
  have c2:=s.c2
  have st:=QbU (p:=p) (k:=k) (f:=f) (piv:=piv) (r:=row) (c:=c) hk (by omega)
  by_cases h0':piv.getD c 0=0
  ·have sk:=QgT (p:=p) (k:=k) (f:=f) (piv:=piv) (r:=row) (c:=c) hk (by omega) (by rw [h0'];simp)
   rw [sk] at s
   rw [h0'] at rv
   repeat' (first | refine Qg ?_ | refine Qb ?_ | refine Qv ?_ | refine QJ ?_ | refine Qn ?_ | refine Qf ?_ | ((refine Qh ?_);first | refine Qj rfl ?_ | refine Qk rfl ?_) | ((refine Qe ?_);first | refine QU rfl rfl rfl rfl rfl ?_ | refine QT rfl rfl rfl rfl rfl rfl ?_) | ((refine Qc ?_);first | refine Xu rfl c8.at rfl ?_ | refine Qs rfl rfl ?_ | refine Qw (esz:=1) rfl rfl (by omega) ?_ | refine Q4 rfl rv ?_ | refine Qo rfl ?_ | refine QK rfl rfl (by omega) ?_ | refine Qy rfl rfl (by omega) ?_ | refine XS rfl rfl (by omega) ?_))
   exact QB (j:=n-(c+1)) (by omega) ⟨c+1,by omega,by omega,rfl,s,rfl⟩
  ·have k98:=fun H=>YY H p g f (piv.getD c 0) ⟨hp.1,by omega⟩ (by omega) (by omega)
   have k122:=fun H=>Ub H p g (row.getD c 0) (f*piv.getD c 0%p) hp.2 hx (Hx (GU _ hp.1))
   generalize piv.getD c 0=y at *
   generalize row.getD c 0=x at *
   repeat' (first | refine Qg ?_ | refine Qb ?_ | refine Qv ?_ | refine QJ ?_ | refine Qn ?_ | refine Qf ?_ | refine Q2 ?_ | refine Xk ?_ | refine Xl ?_ | ((refine Qh ?_);refine Qj rfl ?_) | ((refine Qe ?_);first | refine Q1 ?_ | refine Xw ?_ | refine XZ (by assumption) ?_ | refine QU rfl rfl rfl rfl rfl ?_ | refine QT rfl rfl rfl rfl rfl rfl ?_) | ((refine Qc ?_);first | refine Xu rfl c8.at rfl ?_ | refine QI rfl c2 ?_ | refine Qs rfl rfl ?_ | refine Qw (esz:=1) rfl rfl (by omega) ?_ | refine Q4 rfl rv ?_ | refine Q4 rfl rr ?_ | (refine Qi rfl (k98 _) ?_;rintro v h1 ⟨e1,rfl⟩;replace s:=s.ext e1) | (refine Qi rfl (k122 _) ?_;rintro v h2 ⟨e2,rfl⟩;replace s:=s.ext e2;have wr:=s.b.wr (i:=c) (y:=sbM p x (f*y%p)) (by rw [QaA];omega)) | refine ZX rfl rfl wr ?_ | refine Qo rfl ?_ | refine QK rfl rfl (by omega) ?_ | refine Qy rfl rfl (by omega) ?_ | refine Yg rfl rfl (by omega) ?_))
   refine QB (j:=n-(c+1)) (by omega) ⟨c+1,by omega,by omega,rfl,?_,rfl⟩
   rw [← st]
   exact s.put _
 ·have:c=n:=by omega
  subst this
  repeat' (first | refine Qg ?_ | refine Qb ?_ | refine Q0 ?_ | refine QX ?_ | refine Qf ?_ | ((refine Qh ?_);refine Qk rfl ?_) | ((refine Qe ?_);refine QT rfl rfl rfl rfl rfl rfl ?_) | ((refine Qc ?_);first | refine Qs rfl rfl ?_ | refine Qo rfl ?_ | refine QM rfl rfl (by omega) ?_))
  refine QN ⟨rfl,?_⟩
  rw [← hr,Qjy] at s
  rw [← hr];exact s
theorem QjI (p g id pid q6 q8 q2 n k f:Nat) (cap cap':Option Nat) (piv row:List Nat) (h0:Qa) (hp:0 < p∧p < 9223372036854775808) (hf:f < p) (hr:row.length=n) (hv:piv.length=n) (hn:n < 1000000)
  (hrp:∀ x∈row,x < p) (hvp:∀ x∈piv,x < p) (hk:k < n) (c6:Cel1 h0 q6 (.int .i64 (k:Nat))) (s:S141 p g id pid q8 q2 n cap piv row h0 h0) :
  ∃ r h',Cal FT HKt 141 ([.sc (.slc id 0 n cap'),u f]++([(q6,0),(q8,0),(q2,0)]:List (Nat × Nat)).map fun p=>AV.sc (.ptr p.1 p.2)) h0 r h'∧S141 p g id pid q8 q2 n cap piv (elR p k f piv row) h0 h':=by
 refine Cal.of (F:=a141) rfl rfl rfl ?_
 repeat' (first | refine Qg ?_ | refine Qb ?_ | refine Qv ?_ | refine Qf ?_ | ((refine Qe ?_);refine QU rfl rfl rfl rfl rfl ?_) | ((refine Qc ?_);first | refine Xu rfl c6.at rfl ?_ | refine Qo rfl ?_ | refine QK rfl rfl (by omega) ?_))
 refine Q9 (I141 p g id pid q8 q2 n k f cap cap' piv row h0) (n-(k+1)) (R141 p g id pid q8 q2 n k f cap piv row h0) ⟨k+1,by omega,by omega,rfl,by rw [Qe0];exact s,rfl⟩ (QfM p g id pid q8 q2 n k f cap cap' piv row h0 hp hf hr hv hn hrp hvp) ?_
 rintro ex E' h2 ⟨rfl,s2⟩
 repeat' (refine QP ?_)
 exact ⟨.inl rfl,s2⟩
abbrev X2:=Nat × List Nat
def Yf (n:Nat) (m:X2):SV:=.slc m.1 0 n (some n)
structure Mx (h:Qa) (q n:Nat) (ms:List X2):Prop where
 top:h[q]?=some (.cells (ms.map (Yf n)) true 1)
 nd:(ms.map (·.1)).Nodup
 qn:q ∉ ms.map (·.1)
 row:∀ m∈ms,Bu h m.1 m.2
theorem Mx.ext {h h':Qa} {q n:Nat} {ms:List X2} (m:Mx h q n ms) (e:Ext h h'):Mx h' q n ms:=by
 refine ⟨?_,m.nd,m.qn,fun x hx=>(m.row x hx).ext e⟩
 obtain ⟨t,rfl⟩:=e
 rw [Gk (Gb.1 m.top).1,m.top]
theorem Mx.rd {h:Qa} {q n i:Nat} {ms:List X2} {x:X2} (m:Mx h q n ms) (hi:ms[i]?=some x):QZ h q (0+i*1) 1=some [Yf n x]:=by
 have hl:=(Gb.1 hi).1
 simp only [QZ,m.top,cut,Gt]
 rw [if_pos (by omega)]
 congr 1
 rw [G0,G3]
 apply Gr
 intro j
 cases j with
 | zero=>simp [hi]
 | succ j=>simp;omega
def zh (p n:Nat) (ms:List X2):Prop:=∀ m∈ms,m.2.length=n∧∀ x∈m.2,x < p
def Qh6 (p g q q2 q6 n k d:Nat) (ms:List X2) (hb:Qa) (m:Nat) (E:Env) (h:Qa):Prop:=∃ j,k≤j∧j≤n∧m=n-j∧h=hb∧(∀ (i:Nat) (x:X2),k≤i→i < j→ms[i]?=some x→x.2.getD k 0=0) ∧
 E.keep [1,2,5,6,7,14,15]=[(1,some (.sc (.slc q 0 n (some n)))),(2,some (.sc (.ptr q2 0))),(5,some (u d)),(6,some (.sc (.ptr q6 0))),(7,some (.sc (.int .i64 (j:Nat)))),(14,some (.sc (.int .i64 (n:Nat)))),(15,some (.sc (.int .i64 (k:Nat))))]
def QkT (p g q q2 q6 n k d:Nat) (ms:List X2) (hb:Qa) (ex:Ex) (E:Env) (h:Qa):Prop:=ex=.ex 2∧h=hb∧∃ j,k≤j∧j≤n∧(∀ (i:Nat) (x:X2),k≤i→i < j→ms[i]?=some x→x.2.getD k 0=0)∧(∀ x:X2,ms[j]?=some x→x.2.getD k 0≠0) ∧
 ∃ a,E=[(1,some (.sc (.slc q 0 n (some n)))),(2,some (.sc (.ptr q2 0))),(5,some (u d)),(6,some (.sc (.ptr q6 0))),(7,some (.sc (.int .i64 (j:Nat)))),(14,some (.sc (.int .i64 (n:Nat)))),(15,some (.sc (.int .i64 (k:Nat)))),(32,a)]
theorem Qel (p g q q2 q6 n k d:Nat) (ms:List X2) (hb:Qa) (hn:n < 1000000) (hk:k < n) (hl:ms.length=n) (M:Mx hb q n ms) (ro:zh p n ms) (c6:Cel1 hb q6 (.int .i64 (k:Nat))) (m:Nat) (E:Env) (h:Qa) (hI:Qh6 p g q q2 q6 n k d ms hb m E h) :
  wA FT HKt Qhu (E.keep [1,2,5,6,7,14,15]) h (Qp (Qh6 p g q q2 q6 n k d ms hb) m (QkT p g q q2 q6 n k d ms hb)):=by
 obtain ⟨j,hkj,hj,rfl,rfl,hz,hE⟩:=hI
 rw [hE]
 by_cases hlt:j < n
 ·obtain ⟨x,hx⟩:∃ x,ms[j]?=some x:=⟨_,Ga (by omega)⟩
  have hxm:=Gh hx
  have r1:=M.rd hx
  obtain ⟨id,r⟩:=x
  have r2:=(M.row _ hxm).rd (i:=k) (by rw [(ro _ hxm).1];exact hk)
  simp only [Yf] at r1 r2
  by_cases h0:r.getD k 0=0
  ·rw [h0] at r2
   repeat' (first | refine Qg ?_ | refine Qb ?_ | refine Qv ?_ | refine QJ ?_ | refine Qn ?_ | refine Qf ?_ | refine Q2 ?_ | refine Xk ?_ | refine Xl ?_ | ((refine Qh ?_);refine Qj rfl ?_) | ((refine Qe ?_);first | refine Q1 ?_ | refine Xn rfl rfl rfl rfl rfl rfl rfl ?_ | refine Xa rfl rfl rfl rfl rfl rfl rfl rfl ?_) | ((refine Qc ?_);first | refine Qs rfl rfl ?_ | refine Xu rfl c6.at rfl ?_ | refine Qw (esz:=1) rfl rfl (by omega) ?_ | refine Q4 rfl r1 ?_ | refine Q4 rfl r2 ?_ | refine QL rfl ?_ | refine Qo rfl ?_ | refine QS rfl rfl ?_ | refine QK rfl rfl (by omega) ?_ | refine Qy rfl rfl (by omega) ?_ | refine XD rfl rfl (by omega) ?_))
   refine QB (j:=n-(j+1)) (by omega) ⟨j+1,by omega,by omega,rfl,rfl,fun i y h1 h2 h3=>?_,rfl⟩
   by_cases e:i=j
   ·subst e;rw [hx] at h3;cases h3;exact h0
   ·exact hz i y h1 (by omega) h3
  ·generalize hv:r.getD k 0=v at *
   repeat' (first | refine Qg ?_ | refine Qb ?_ | refine Q0 ?_ | refine QX ?_ | refine Q2 ?_ | refine Xk ?_ | refine Xl ?_ | ((refine Qh ?_);refine Qk rfl ?_) | ((refine Qe ?_);first | refine Q1 ?_ | refine Xa rfl rfl rfl rfl rfl rfl rfl rfl ?_) | ((refine Qc ?_);first | refine Qs rfl rfl ?_ | refine Xu rfl c6.at rfl ?_ | refine Qw (esz:=1) rfl rfl (by omega) ?_ | refine Q4 rfl r1 ?_ | refine Q4 rfl r2 ?_ | refine Xf rfl rfl (by omega) ?_ | refine QL rfl ?_ | refine Qo rfl ?_ | refine QS rfl rfl ?_ | refine Qy rfl rfl (by omega) ?_))
   refine QN ⟨rfl,rfl,j,hkj,hj,hz,fun y hy=>?_,_,rfl⟩
   rw [hx] at hy;cases hy;rw [hv];exact h0
 ·have:j=n:=by omega
  subst this
  repeat' (first | refine Qg ?_ | refine Qb ?_ | refine Q0 ?_ | refine QX ?_ | refine Q2 ?_ | refine Xk ?_ | refine Xl ?_ | ((refine Qh ?_);refine Qk rfl ?_) | ((refine Qe ?_);first | refine Q1 ?_ | refine Xa rfl rfl rfl rfl rfl rfl rfl rfl ?_) | ((refine Qc ?_);first | refine Qs rfl rfl ?_ | refine Xd rfl ?_ | refine Qo rfl ?_ | refine QC rfl rfl ?_ | refine QM rfl rfl (by omega) ?_))
  refine QN ⟨rfl,rfl,j,hkj,hj,hz,fun y hy=>?_,_,rfl⟩
  rw [Gp (by omega)] at hy;cases hy
structure S130 (p g q q2 q6 q8 n k:Nat) (pre Zg:List X2) (pv:X2) (dn:List X2) (h0 h:Qa):Prop where
 c:Chg (fun j=>j=q∨∃ m∈pre++pv::(dn++Zg),m.1=j) h0 h
 M:Mx h q n (pre++pv::(dn++Zg))
 ro:zh p n (pre++pv::(dn++Zg))
 c2:Cel h q2 (.int .u64 (p:Nat)) (.int .u64 (g:Nat))
 c6:Cel1 h q6 (.int .i64 (k:Nat))
 c8:Cel1 h q8 (.slc pv.1 0 n (some n))
 ne:∀ m∈pre++pv::(dn++Zg),m.1≠q2∧m.1≠q6∧m.1≠q8
theorem S130.ext {p g q q2 q6 q8 n k:Nat} {pre Zg dn:List X2} {pv:X2} {h0 h h':Qa} (s:S130 p g q q2 q6 q8 n k pre Zg pv dn h0 h) (e:Ext h h'):S130 p g q q2 q6 q8 n k pre Zg pv dn h0 h' :=
 ⟨s.c.ext e,s.M.ext e,s.ro,s.c2.ext e,s.c6.ext e,s.c8.ext e,s.ne⟩
theorem Chg.cel {S:Nat→Prop} {a b:Qa} (x:Chg S a b) {q:Nat} {v w:SV} (c:Cel a q v w) (hs:¬ S q):Cel b q v w:=x.get c hs
theorem Chg.cel1 {S:Nat→Prop} {a b:Qa} (x:Chg S a b) {q:Nat} {v:SV} (c:Cel1 a q v) (hs:¬ S q):Cel1 b q v:=x.get c hs
theorem Chg.bu {S:Nat→Prop} {a b:Qa} (x:Chg S a b) {q:Nat} {xs:List Nat} (c:Bu a q xs) (hs:¬ S q):Bu b q xs:=x.get c hs
theorem Qf7 {A B:List X2} {x:X2} (h:((A++x::B).map (·.1)).Nodup) {m:X2} (hm:m∈A∨m∈B):m.1≠x.1:=fun e=>by
 rw [Hb,Gy,List.nodup_append] at h
 obtain ⟨h1,h2,h3⟩:=h
 rcases hm with hm | hm
 ·exact h3 m.1 (Gu.2 ⟨m,hm,rfl⟩) x.1 (.head _) e
 ·exact (List.nodup_cons.1 h2).1 (Gu.2 ⟨m,hm,e⟩)
theorem Mx.upd {h h':Qa} {q n:Nat} {A B:List X2} {x y:X2} (m:Mx h q n (A++x::B)) (c:Chg (·=x.1) h h') (hy:y.1=x.1) (b:Bu h' y.1 y.2):Mx h' q n (A++y::B):=by
 have e1:(A++y::B).map (·.1)=(A++x::B).map (·.1):=by simp [hy]
 have e2:(A++y::B).map (Yf n)=(A++x::B).map (Yf n):=by simp [Yf,hy]
 refine ⟨?_,by rw [e1];exact m.nd,by rw [e1];exact m.qn,fun z hz=>?_⟩
 ·rw [e2]
  exact c.get m.top fun e=>m.qn (by rw [e];simp)
 ·rcases Gv.1 hz with hz | hz
  ·exact c.bu (m.row z (by simp [hz])) (Qf7 m.nd (.inl hz))
  ·rcases GN.1 hz with rfl | hz
   ·exact b
   ·exact c.bu (m.row z (by simp [hz])) (Qf7 m.nd (.inr hz))
def elM (p k iv:Nat) (pv m:X2):X2:=(m.1,elR p k (m.2.getD k 0*iv%p) pv.2 m.2)
theorem Qjw {p k f:Nat} {piv r:List Nat}:(elR p k f piv r).length=r.length:=by simp [elR]
theorem Qjv {p k f:Nat} {piv r:List Nat} (h:∀ x∈r,x < p):∀ x∈elR p k f piv r,x < p:=fun x hx=>by
 unfold elR at hx
 rw [List.mem_mapIdx] at hx
 obtain ⟨i,hi,rfl⟩:=hx
 have:=h _ (GD hi)
 split
 ·exact yQ this
 ·exact this
theorem S130.step {p g q q2 q6 q8 n k iv:Nat} {pre Zg dn:List X2} {pv x:X2} {h0 h h':Qa} (s:S130 p g q q2 q6 q8 n k pre (x::Zg) pv dn h0 h)
  (t:S141 p g x.1 pv.1 q8 q2 n (some n) pv.2 (elM p k iv pv x).2 h h'):S130 p g q q2 q6 q8 n k pre Zg pv (dn++[elM p k iv pv x]) h0 h':=by
 have eL:pre++pv::(dn++x::Zg)=(pre++pv::dn)++x::Zg:=by simp
 have eL':pre++pv::((dn++[elM p k iv pv x])++Zg)=(pre++pv::dn)++elM p k iv pv x::Zg:=by simp
 have hx:x∈pre++pv::(dn++x::Zg):=by simp
 have mem:∀ m∈(pre++pv::dn)++elM p k iv pv x::Zg,m=elM p k iv pv x∨m∈(pre++pv::dn)++x::Zg:=fun m hm=>by
  rcases Gv.1 hm with hm | hm
  ·exact .inr (Gv.2 (.inl hm))
  ·rcases GN.1 hm with hm | hm
   ·exact .inl hm
   ·exact .inr (Gv.2 (.inr (.tail _ hm)))
 have nx:=s.ne x hx
 refine ⟨?_,?_,?_,t.c.cel s.c2 (fun e=>nx.1 e.symm),t.c.cel1 s.c6 (fun e=>nx.2.1 e.symm),t.c8,?_⟩
 ·rw [eL']
  refine (s.c.mono fun j _ hj=>?_).trans (t.c.mono fun j _ hj=>.inr ⟨elM p k iv pv x,by simp,hj.symm⟩)
  rcases hj with hj | ⟨m,hm,rfl⟩
  ·exact .inl hj
  ·refine .inr ?_
   rw [eL] at hm
   rcases Gv.1 hm with hm | hm
   ·exact ⟨m,Gv.2 (.inl hm),rfl⟩
   ·rcases GN.1 hm with rfl | hm
    ·exact ⟨elM p k iv pv m,by simp,rfl⟩
    ·exact ⟨m,Gv.2 (.inr (.tail _ hm)),rfl⟩
 ·rw [eL']
  exact Mx.upd (eL ▸ s.M) t.c rfl t.b
 ·rw [eL']
  intro m hm
  rcases mem m hm with rfl | hm
  ·have:=s.ro x hx
   exact ⟨by show (elR _ _ _ _ _).length=n;rw [Qjw];exact this.1,Qjv this.2⟩
  ·exact s.ro m (eL ▸ hm)
 ·rw [eL']
  intro m hm
  rcases mem m hm with rfl | hm
  ·exact nx
  ·exact s.ne m (eL ▸ hm)
def Qh5 (p g q q2 q6 q8 n k d iv:Nat) (pre rest:List X2) (pv:X2) (h0:Qa) (m:Nat) (E:Env) (h:Qa):Prop:=∃ i,i≤rest.length∧m=rest.length-i ∧
 S130 p g q q2 q6 q8 n k pre (rest.drop i) pv ((rest.take i).map (elM p k iv pv)) h0 h ∧
 E.keep [1,2,5,6,9,10,14,15,80,81,82]=[(1,some (.sc (.slc q 0 n (some n)))),(2,some (.sc (.ptr q2 0))),(5,some (u d)),(6,some (.sc (.ptr q6 0))),(9,some (u iv)),(10,some (.sc (.fn 141 [(q6,0),(q8,0),(q2,0)]))),(14,some (.sc (.int .i64 (n:Nat)))),(15,some (.sc (.int .i64 (k:Nat)))),(80,some (.sc (.slc q (0+(k+1)) (n-(k+1)) (some (n-(k+1)))))),(81,some (.sc (.int .i64 ((n-(k+1):Nat):Int)))),(82,some (.sc (.int .i64 (i:Nat))))]
def QkS (p g q q2 q6 q8 n k d iv:Nat) (pre rest:List X2) (pv:X2) (h0:Qa) (ex:Ex) (E:Env) (h:Qa):Prop:=ex=.ex 4∧S130 p g q q2 q6 q8 n k pre [] pv (rest.map (elM p k iv pv)) h0 h ∧
 ∃ a b c e f g' l,E=[(1,some (.sc (.slc q 0 n (some n)))),(2,some (.sc (.ptr q2 0))),(5,some (u d)),(6,a),(9,b),(10,c),(14,some (.sc (.int .i64 (n:Nat)))),(15,some (.sc (.int .i64 (k:Nat)))),(80,e),(81,f),(82,g'),(83,l)]
theorem Qek (p g q q2 q6 q8 n k d iv:Nat) (pre rest:List X2) (pv:X2) (h0:Qa) (hp:0 < p∧p < 9223372036854775808) (hn:n < 1000000) (hk:k=pre.length) (hl:rest.length+(k+1)=n) (hiv:iv < p) (m:Nat) (E:Env) (h:Qa) (hI:Qh5 p g q q2 q6 q8 n k d iv pre rest pv h0 m E h) :
  wA FT HKt Qht (E.keep [1,2,5,6,9,10,14,15,80,81,82]) h (Qp (Qh5 p g q q2 q6 q8 n k d iv pre rest pv h0) m (QkS p g q q2 q6 q8 n k d iv pre rest pv h0)):=by
 obtain ⟨i,hi,rfl,s,hE⟩:=hI
 rw [hE]
 by_cases hlt:i < rest.length
 ·obtain ⟨x,hx⟩:∃ x,rest[i]?=some x:=⟨_,Ga hlt⟩
  have hdr:rest.drop i=x::rest.drop (i+1):=by
   rw [GS hlt]
   congr 1
   rw [Ga hlt] at hx
   exact Option.some.inj hx
  have htk:(rest.take (i+1)).map (elM p k iv pv)=(rest.take i).map (elM p k iv pv)++[elM p k iv pv x]:=by
   rw [GF,hx];simp
  rw [hdr] at s
  have hxm:x∈pre++pv::((rest.take i).map (elM p k iv pv)++x::rest.drop (i+1)):=by simp
  have hpm:pv∈pre++pv::((rest.take i).map (elM p k iv pv)++x::rest.drop (i+1)):=by simp
  have hat:(pre++pv::((rest.take i).map (elM p k iv pv)++x::rest.drop (i+1)))[k+1+i]?=some x:=by
   rw [Gg (by omega),show k+1+i-pre.length=i+1 by omega,List.getElem?_cons_succ,Gg (by simp;omega)]
   simp [G2 (Hx hlt)]
  have r1:=s.M.rd hat
  rw [show 0+(k+1+i)*1=0+(k+1)+i*1 by omega] at r1
  have rx:=s.ro x hxm
  have rp:=s.ro pv hpm
  have r2:=(s.M.row x hxm).rd (i:=k) (by rw [rx.1];omega)
  have nx:=s.ne x hxm
  have hxp:x.1≠pv.1:=by
   have:=s.M.nd
   rw [show pre++pv::((rest.take i).map (elM p k iv pv)++x::rest.drop (i+1))=(pre++pv::(rest.take i).map (elM p k iv pv))++x::rest.drop (i+1) by simp] at this
   exact (Qf7 this (m:=pv) (.inl (by simp))).symm
  have s0:∀ H,Ext h H→S141 p g x.1 pv.1 q8 q2 n (some n) pv.2 x.2 H H:=fun H e=>⟨Chg.refl _,(s.M.row x hxm).ext e,(s.M.row pv hpm).ext e,s.c8.ext e,s.c2.ext e,hxp,nx.2.2,nx.1⟩
  have hvk:x.2.getD k 0 < p:=by rw [Ge,Ga (by rw [rx.1];omega)];exact rx.2 _ (GD _)
  have c2:=s.c2
  have c6:=s.c6
  have stp:=fun (H h':Qa) (e:Ext h H) (t:S141 p g x.1 pv.1 q8 q2 n (some n) pv.2 (elM p k iv pv x).2 H h')=>S130.step (iv:=iv) (s.ext e) t
  have skp:x.2.getD k 0=0→S130 p g q q2 q6 q8 n k pre (rest.drop (i+1)) pv ((rest.take i).map (elM p k iv pv)++[elM p k iv pv x]) h0 h:=fun e=>by
   have e2:elM p k iv pv x=x:=by unfold elM;rw [e,Nat.zero_mul,Nat.zero_mod,QgS]
   have:=s.step (iv:=iv) (h':=h) (by rw [e2];exact s0 h (Ext.refl _))
   exact this
  rw [← htk] at stp skp
  have k98:=fun H=>YY H p g (x.2.getD k 0) iv ⟨hp.1,by omega⟩ (by omega) (by omega)
  have k141:=fun H (e:Ext h H)=>QjI p g x.1 pv.1 q6 q8 q2 n k (x.2.getD k 0*iv%p) (some n) (some n) pv.2 x.2 H hp (GU _ hp.1) rx.1 rp.1 hn rx.2 rp.2 (by omega) (c6.ext e) (s0 H e)
  have hel:elR p k (x.2.getD k 0*iv%p) pv.2 x.2=(elM p k iv pv x).2:=rfl
  rw [hel] at k141
  clear hel
  simp only [Yf] at r1 r2
  by_cases h0':x.2.getD k 0=0
  ·have skp:=skp h0'
   rw [h0'] at r2
   repeat' (first | refine Qg ?_ | refine Qb ?_ | refine Qv ?_ | refine QJ ?_ | refine Qn ?_ | refine Qf ?_ | ((refine Qh ?_);first | refine Qj rfl ?_ | refine Qk rfl ?_) | ((refine Qe ?_);first | refine X6 rfl rfl rfl rfl rfl rfl rfl rfl rfl rfl rfl ?_ | refine XC rfl rfl rfl rfl rfl rfl rfl rfl rfl rfl rfl rfl ?_ | refine Yy rfl rfl rfl rfl rfl rfl rfl rfl rfl rfl rfl rfl rfl ?_) | ((refine Qc ?_);first | refine Xu rfl c6.at rfl ?_ | refine Qw (esz:=1) rfl rfl (by omega) ?_ | refine Q4 rfl r1 ?_ | refine Q4 rfl r2 ?_ | refine Qo rfl ?_ | refine QK rfl rfl (by omega) ?_ | refine Qy rfl rfl (by omega) ?_ | refine XS rfl rfl (by omega) ?_))
   exact QB (j:=rest.length-(i+1)) (by omega) ⟨i+1,by omega,rfl,skp,rfl⟩
  ·generalize x.2.getD k 0=v at *
   have e0:=Ext.refl h
   repeat' (first | refine Qg ?_ | refine Qb ?_ | refine Qv ?_ | refine QJ ?_ | refine Qn ?_ | refine Qf ?_ | refine Q2 ?_ | refine Xk ?_ | refine Xl ?_ | ((refine Qh ?_);refine Qj rfl ?_) | ((refine Qe ?_);first | refine Q1 ?_ | refine Xw ?_ | refine X6 rfl rfl rfl rfl rfl rfl rfl rfl rfl rfl rfl ?_ | refine XC rfl rfl rfl rfl rfl rfl rfl rfl rfl rfl rfl rfl ?_ | refine Yy rfl rfl rfl rfl rfl rfl rfl rfl rfl rfl rfl rfl rfl ?_) | ((refine Qc ?_);first | refine Xu rfl (c6.ext e0).at rfl ?_ | refine QI rfl c2 ?_ | refine Qw (esz:=1) rfl rfl (by omega) ?_ | refine Q4 rfl r1 ?_ | refine Q4 rfl r2 ?_ | refine Yg rfl rfl (by omega) ?_ | (refine Qi rfl (k98 _) ?_;rintro v1 h1 ⟨e1,rfl⟩) | (refine Xq rfl rfl (k141 _ e1) ?_;rintro v2 h2 t2) | refine Qo rfl ?_ | refine QK rfl rfl (by omega) ?_ | refine Qy rfl rfl (by omega) ?_))
   exact QB (j:=rest.length-(i+1)) (by omega) ⟨i+1,by omega,rfl,stp _ _ e1 t2,rfl⟩
 ·have:i=rest.length:=by omega
  subst this
  repeat' (first | refine Qg ?_ | refine Qb ?_ | refine Q0 ?_ | refine QX ?_ | refine Qf ?_ | ((refine Qh ?_);refine Qk rfl ?_) | ((refine Qe ?_);refine XC rfl rfl rfl rfl rfl rfl rfl rfl rfl rfl rfl rfl ?_) | ((refine Qc ?_);refine QM rfl rfl (by omega) ?_))
  rw [Hf,Gx] at s
  exact QN ⟨rfl,s,_,_,_,_,_,_,_,rfl⟩
