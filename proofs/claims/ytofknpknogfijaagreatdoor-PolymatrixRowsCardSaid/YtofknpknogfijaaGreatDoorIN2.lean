/- The determinant's coefficients out of their residues: lifted,and compared. -/
import Derived.Test.YtofknpknogfijaaGreatDoorWB
import Derived.Test.YtofknpknogfijaaGreatDoorAb50
namespace Go.Proofs.YtofknpknogfijaaGreatDoor
open Go.Ab
set_option linter.all false
set_option maxHeartbeats 16000000
set_option maxRecDepth 20000
attribute [local irreducible] Ql wA Xr Xp QA Qp QW QY
variable [HB]
def Bi (h:Qa) (id:Nat) (xs:List Int):Prop:=h[id]?=some (.cells (xs.map (SV.int .i64)) true 1)
theorem Bi.ext {h h':Qa} {id:Nat} {xs:List Int} (b:Bi h id xs) (e:Ext h h'):Bi h' id xs:=by
 obtain ⟨t,rfl⟩:=e
 unfold Bi at *
 rw [Gk (Gb.1 b).1,b]
theorem Bi.lt {h:Qa} {id:Nat} {xs:List Int} (b:Bi h id xs):id < h.length:=(Gb.1 b).1
theorem Bi.rd {h:Qa} {id i:Nat} {xs:List Int} {x:Int} (b:Bi h id xs) (hi:xs[i]?=some x):QZ h id (0+i*1) 1=some [.int .i64 x] :=
 Qfq b (by rw [Gi,hi];rfl)
theorem Bi.wr {h:Qa} {id i:Nat} {y:Int} {xs:List Int} (b:Bi h id xs) (hi:i < xs.length):Xx h id (0+i*1) [.int .i64 y]=some (h.set id (.cells ((xs.set i y).map (SV.int .i64)) true 1)):=by
 rw [wr1 b (by simpa using hi),List.map_set]
theorem Bi.set {h:Qa} {id:Nat} {xs ys:List Int} (b:Bi h id xs):Bi (h.set id (.cells (ys.map (SV.int .i64)) true 1)) id ys:=by
 unfold Bi;rw [GC b.lt]
theorem Bi.ints {h:Qa} {id:Nat} {xs:List Int} {c:Option Nat} (b:Bi h id xs):IsInts h (.slc id 0 xs.length c) xs:=by
 refine .inr ⟨id,0,c,_,rfl,b,rfl,fun h=>by rw [Gz h];rfl,fun _=>⟨_,_,rfl,?_⟩⟩
 unfold cut
 rw [if_pos (by simp [ESz.one_n])]
 simp only [ESz.one_n,Ho,G3]
 rw [GQ (by simp)]
def yz (f:Nat→Int) (n i:Nat):List Int:=(List.range n).map fun j=>if j < i then f j else 0
theorem QbP {f:Nat→Int} {n i:Nat}:(yz f n i).length=n:=by simp [yz]
theorem VI {f:Nat→Int} {n:Nat}:yz f n 0=List.replicate n 0:=by
 unfold yz
 apply Gr
 intro j
 rw [Gi,Hu]
 rcases Gw j n with h | h
 ·rw [Gq h,if_pos h];simp
 ·rw [Gp (by simpa using h),if_neg (by omega)];rfl
theorem QbO {f:Nat→Int} {n i:Nat} (h:i < n):(yz f n i).set i (f i)=yz f n (i+1):=by
 unfold yz
 apply Gr
 intro j
 rw [GH,Gi,Gi,Gt,List.length_range]
 by_cases e:i=j
 ·subst e
  rw [if_pos rfl,if_pos h,Gq h];simp
 ·rw [if_neg e]
  rcases Gw j n with hj | hj
  ·rw [Gq hj]
   simp only [Gl]
   by_cases h1:j < i
   ·rw [if_pos h1,if_pos (by omega)]
   ·rw [if_neg h1,if_neg (by omega)]
  ·rw [Gp (by simpa using hj)];rfl
theorem VJ {f:Nat→Int} {n:Nat}:yz f n n=(List.range n).map f:=by
 unfold yz
 refine GO fun j hj=>?_
 rw [if_pos (Hk.1 hj)]
theorem Qjo {f:Nat→Int} {n i:Nat} (h:i < n):(yz f n (i+1))[i]?=some (f i):=by
 unfold yz
 rw [Gi,Gq h];simp
section
variable {FT:FuncId→Option AFun} {HK:FuncId→Option Xj} {E:Env} {h:Qa} {K:Env→Qa→Prop} {d:Option Nat} {r:List AOp} {x y:AO}
theorem Qkk {n:Nat} (hx:evS E x=some (.int .i64 (n:Nat))) (hy:evS E y=some (.int .i64 (n:Nat))) (hb:n≤10000000) (hw:∀ h1,Ext h h1→Bi h1 h.length (List.replicate n 0)→Ql FT HK r (Qr d (some (.sc (.slc h.length 0 n (some n)))) E) h1 K) :
  Ql FT HK (⟨d,.mk 1 8 [.int .i64 0] x y,none⟩::r) E h K:=by
 refine Xe (v:=some (.sc (.slc h.length 0 n (some n)))) (h':=h++[.cells (rep [.int .i64 0] n) true 1]) rfl rfl ?_ (hw _ ⟨_,rfl⟩ ?_)
 ·simp only [Qm,hx,hy]
  rw [if_pos ⟨by omega,by omega,by unfold Yu;omega⟩,Int.toNat_natCast]
 ·unfold Bi
  rw [Gg (Gf _),Hg,repN,List.map_replicate];rfl
end
def I77a (p g q9 cid xid M N:Nat) (xs:List Nat) (a0 a1 a22 a23 a24:AV) (hb:Qa) (m:Nat) (E:Env) (h:Qa):Prop:=∃ j,j≤M∧m=M-j∧Ext hb h∧Bi h cid (yz (fun i=>lfM p (xs.getD i 0)) M j)∧(∀ i,i < j→(lfM p (xs.getD i 0)).natAbs≤cM) ∧
 E.keep [0,1,7,9,10,22,23,24,37,38,39]=[(0,some a0),(1,some a1),(7,some (.sc (.slc cid 0 M (some M)))),(9,some (.sc (.ptr q9 0))),(10,some (.sc (.slc xid 0 M (some N)))),(22,some a22),(23,some a23),(24,some a24),(37,some (.sc (.slc xid 0 M (some N)))),(38,some (.sc (.int .i64 (M:Nat)))),(39,some (.sc (.int .i64 (j:Nat))))]
def R77a (p g q9 cid xid M N:Nat) (xs:List Nat) (a0 a1 a22 a23 a24:AV) (hb:Qa) (ex:Ex) (E:Env) (h:Qa):Prop:=Ext hb h ∧
 ((ex = .ex 2 ∧ Bi h cid ((List.range M).map fun i => lfM p (xs.getD i 0)) ∧ (∀ i, i < M → (lfM p (xs.getD i 0)).natAbs ≤ cM) ∧
   ∃ a b c d,E=[(0,some a0),(1,some a1),(7,some (.sc (.slc cid 0 M (some M)))),(9,some (.sc (.ptr q9 0))),(10,some (.sc (.slc xid 0 M (some N)))),(22,some a22),(23,some a23),(24,some a24),(37,a),(38,b),(39,c),(40,d)]) ∨
  (ex=.rt∧(∃ i,i < M∧¬ (lfM p (xs.getD i 0)).natAbs≤cM)∧E=[(4,some (.sc .nilS)),(5,some (.sc (.bool false)))]))
theorem QfF (p g q9 cid xid M N:Nat) (xs:List Nat) (a0 a1 a22 a23 a24:AV) (hb:Qa) (hp:2≤p∧p < 9223372036854775808) (hM:M≤xs.length) (hM2:M≤1000000) (hx:∀ i,i < M→xs.getD i 0 < p) (c9:Cel hb q9 (.int .u64 (p:Nat)) (.int .u64 (g:Nat))) (bx:Bu hb xid xs) (hl:hb.length≤cid) (m:Nat) (E:Env) (h:Qa) (hI:I77a p g q9 cid xid M N xs a0 a1 a22 a23 a24 hb m E h) :
  wA FT HKt Qku (E.keep [0,1,7,9,10,22,23,24,37,38,39]) h (Qp (I77a p g q9 cid xid M N xs a0 a1 a22 a23 a24 hb) m (R77a p g q9 cid xid M N xs a0 a1 a22 a23 a24 hb)):=by
 obtain ⟨j,hj,rfl,x,b,hall,hE⟩:=hI
 rw [hE]
 have c9h:=c9.ext x
 by_cases hlt:j < M
 ·have r1:=QH x (bx.rd (i:=j) (by omega))
  have hxj:=hx j hlt
  have k97:=fun H=>Qmj H p g (xs.getD j 0) hp.2 hxj
  have fs:=QbO (f:=fun i=>lfM p (xs.getD i 0)) hlt
  have wv:=fun h' (y:Ext h h')=>(b.ext y).wr (i:=j) (y:=lfM p (xs.getD j 0)) (by rw [QbP];exact hlt)
  rw [fs] at wv
  have r2:=fun h' (y:Ext h h')=>(((b.ext y).set (ys:=yz (fun i=>lfM p (xs.getD i 0)) M (j+1)))).rd (Qjo hlt)
  have hlf:(lfM p (xs.getD j 0)).natAbs < 9223372036854775808:=by unfold lfM;split <;> omega
  have hc:cM=1125899906842624:=rfl
  have nx:(lfM p (xs.getD j 0)).natAbs≤cM→∀ i,i < j+1→(lfM p (xs.getD i 0)).natAbs≤cM:=fun h i hi=>by
   by_cases e:i=j
   ·subst e;exact h
   ·exact hall i (by omega)
  generalize hL:lfM p (xs.getD j 0)=L at *
  by_cases h1:L > 1125899906842624
  ·repeat' (first | refine Qg ?_ | refine Qb ?_ | refine QD ?_ | refine Qv ?_ | refine Xs ?_ | refine Qn ?_ | refine Qt ?_ | refine Qf ?_ | ((refine Qh ?_);refine Qj rfl ?_) | ((refine Qe ?_);first | refine QE rfl rfl ?_ | refine XC rfl rfl rfl rfl rfl rfl rfl rfl rfl rfl rfl rfl ?_ | refine Yy rfl rfl rfl rfl rfl rfl rfl rfl rfl rfl rfl rfl rfl ?_) | ((refine Qc ?_);first | refine QI rfl c9h ?_ | refine Qw (esz:=1) rfl rfl (by omega) ?_ | refine Q4 rfl r1 ?_ | (refine Qi rfl (k97 _) ?_;rintro v1 h1 ⟨x1,rfl⟩) | refine ZX rfl rfl (wv _ x1) ?_ | refine Q4 rfl (r2 _ x1) ?_ | refine Xd rfl ?_ | refine Qo rfl ?_ | refine QS rfl rfl ?_ | refine Qy rfl rfl (by omega) ?_ | refine XV rfl rfl (by omega) ?_))
   exact XI ⟨Ext.setF (x.trans x1) hl _,.inr ⟨rfl,⟨j,hlt,by rw [hL];omega⟩,rfl⟩⟩
  by_cases h2:L < -1125899906842624
  ·repeat' (first | refine Qg ?_ | refine Qb ?_ | refine QD ?_ | refine Qv ?_ | refine Xs ?_ | refine Qn ?_ | refine Qt ?_ | refine Qf ?_ | ((refine Qh ?_);refine Qj rfl ?_) | ((refine Qe ?_);first | refine QE rfl rfl ?_ | refine XC rfl rfl rfl rfl rfl rfl rfl rfl rfl rfl rfl rfl ?_ | refine Yy rfl rfl rfl rfl rfl rfl rfl rfl rfl rfl rfl rfl rfl ?_) | ((refine Qc ?_);first | refine QI rfl c9h ?_ | refine Qw (esz:=1) rfl rfl (by omega) ?_ | refine Q4 rfl r1 ?_ | (refine Qi rfl (k97 _) ?_;rintro v1 h1 ⟨x1,rfl⟩) | refine ZX rfl rfl (wv _ x1) ?_ | refine Q4 rfl (r2 _ x1) ?_ | refine QL rfl ?_ | refine Qo rfl ?_ | refine QC rfl rfl ?_ | refine Qy rfl rfl (by omega) ?_ | refine XT rfl rfl (by omega) ?_))
   exact XI ⟨Ext.setF (x.trans x1) hl _,.inr ⟨rfl,⟨j,hlt,by rw [hL];omega⟩,rfl⟩⟩
  repeat' (first | refine Qg ?_ | refine Qb ?_ | refine Qv ?_ | refine QJ ?_ | refine Qn ?_ | refine Qf ?_ | ((refine Qh ?_);first | refine Qj rfl ?_ | refine Qk rfl ?_) | ((refine Qe ?_);first | refine X6 rfl rfl rfl rfl rfl rfl rfl rfl rfl rfl rfl ?_ | refine XC rfl rfl rfl rfl rfl rfl rfl rfl rfl rfl rfl rfl ?_ | refine Yy rfl rfl rfl rfl rfl rfl rfl rfl rfl rfl rfl rfl rfl ?_) | ((refine Qc ?_);first | refine QI rfl c9h ?_ | refine Qw (esz:=1) rfl rfl (by omega) ?_ | refine Q4 rfl r1 ?_ | (refine Qi rfl (k97 _) ?_;rintro v1 h1 ⟨x1,rfl⟩) | refine ZX rfl rfl (wv _ x1) ?_ | refine Q4 rfl (r2 _ x1) ?_ | refine QL rfl ?_ | refine Qo rfl ?_ | refine QC rfl rfl ?_ | refine QK rfl rfl (by omega) ?_ | refine Qy rfl rfl (by omega) ?_ | refine QM rfl rfl (by omega) ?_ | refine XT rfl rfl (by omega) ?_))
  exact QB (j:=M-(j+1)) (by omega) ⟨j+1,by omega,rfl,Ext.setF (x.trans x1) hl _,(b.ext x1).set,nx (by omega),rfl⟩
 ·have:j=M:=by omega
  subst this
  rw [VJ] at b
  repeat' (first | refine Qg ?_ | refine Qb ?_ | refine Q0 ?_ | refine QX ?_ | refine Qf ?_ | ((refine Qh ?_);refine Qk rfl ?_) | ((refine Qe ?_);refine XC rfl rfl rfl rfl rfl rfl rfl rfl rfl rfl rfl rfl ?_) | ((refine Qc ?_);refine QM rfl rfl (by omega) ?_))
  exact QN ⟨x,.inl ⟨rfl,b,hall,_,_,_,_,rfl⟩⟩
def Qj3 (p g q9 M N:Nat) (xid:Nat) (xs:List Nat) (zs:List Int) (cs:SV) (a0 a1 a22 a23 a24:AV) (hb:Qa) (m:Nat) (E:Env) (h:Qa):Prop:=∃ j,j≤M∧m=M-j∧Ext hb h∧(∀ i,i < j→ofM p (zs.getD i 0)=xs.getD i 0) ∧
 E.keep [0,1,7,9,22,23,24,63,64,65]=[(0,some a0),(1,some a1),(7,some (.sc cs)),(9,some (.sc (.ptr q9 0))),(22,some a22),(23,some a23),(24,some a24),(63,some (.sc (.slc xid 0 M (some N)))),(64,some (.sc (.int .i64 (M:Nat)))),(65,some (.sc (.int .i64 (j:Nat))))]
def R77b (p g q9 M N:Nat) (xs:List Nat) (zs:List Int) (cs:SV) (a0 a1 a22 a23 a24:AV) (hb:Qa) (ex:Ex) (E:Env) (h:Qa):Prop:=Ext hb h ∧
 ((ex = .ex 4 ∧ (∀ i, i < M → ofM p (zs.getD i 0) = xs.getD i 0) ∧
   ∃ a b c d e,E=[(0,some a0),(1,some a1),(7,some (.sc cs)),(9,e),(22,some a22),(23,some a23),(24,some a24),(63,a),(64,b),(65,c),(66,d)]) ∨
  (ex=.rt∧(∃ i,i < M∧ofM p (zs.getD i 0)≠xs.getD i 0)∧E=[(4,some (.sc .nilS)),(5,some (.sc (.bool false)))]))
theorem Qa5 (p g q9 M N xid:Nat) (xs:List Nat) (zs:List Int) (cs:SV) (a0 a1 a22 a23 a24:AV) (hb:Qa) (hp:2251799813685248 < p∧p < 9223372036854775808) (hM:M≤xs.length) (hM2:M≤1000000) (hx:∀ i,i < M→xs.getD i 0 < p) (hz:zs.length=M) (hzc:∀ z∈zs,z.natAbs≤cM) (c9:Cel hb q9 (.int .u64 (p:Nat)) (.int .u64 (g:Nat))) (bx:Bu hb xid xs) (ic:IsInts hb cs zs) (m:Nat) (E:Env) (h:Qa) (hI:Qj3 p g q9 M N xid xs zs cs a0 a1 a22 a23 a24 hb m E h) :
  wA FT HKt Qkt (E.keep [0,1,7,9,22,23,24,63,64,65]) h (Qp (Qj3 p g q9 M N xid xs zs cs a0 a1 a22 a23 a24 hb) m (R77b p g q9 M N xs zs cs a0 a1 a22 a23 a24 hb)):=by
 obtain ⟨j,hj,rfl,x,hall,hE⟩:=hI
 rw [hE]
 have c9h:=c9.ext x
 by_cases hlt:j < M
 ·have r1:=QH x (bx.rd (i:=j) (by omega))
  have hxj:=hx j hlt
  obtain ⟨z,hz0⟩:∃ z,zs[j]?=some z:=⟨_,Ga (by omega)⟩
  obtain ⟨id,off,cap,e,r2⟩:=IsInts.at ic hz0
  subst e
  have r2:=fun h' (y:Ext h h')=>QH (x.trans y) r2
  have hzm:=hzc z (Gh hz0)
  have hc:cM=1125899906842624:=rfl
  have ez:zs.getD j 0=z:=by rw [Ge,hz0];rfl
  have k99:=fun H=>QcC H p g z hp.2 (by omega)
  have nx:ofM p z=xs.getD j 0→∀ i,i < j+1→ofM p (zs.getD i 0)=xs.getD i 0:=fun h i hi=>by
   by_cases e:i=j
   ·subst e;rw [ez];exact h
   ·exact hall i (by omega)
  have hO:ofM p z < p:=Qcj (by omega)
  have e0:=Ext.refl h
  by_cases hOX:ofM p z=xs.getD j 0
  ·generalize ofM p z=O at *
   generalize hX:xs.getD j 0=X at *
   repeat' (first | refine Qg ?_ | refine Qb ?_ | refine Qv ?_ | refine QJ ?_ | refine Qn ?_ | refine Qf ?_ | refine Q2 ?_ | refine Xk ?_ | refine Xl ?_ | ((refine Qh ?_);first | refine Qj rfl ?_ | refine Qk rfl ?_) | ((refine Qe ?_);first | refine Q1 ?_ | refine Xw ?_ | refine Xy rfl rfl rfl rfl rfl rfl rfl rfl rfl rfl ?_ | refine X6 rfl rfl rfl rfl rfl rfl rfl rfl rfl rfl rfl ?_ | refine XC rfl rfl rfl rfl rfl rfl rfl rfl rfl rfl rfl rfl ?_) | ((refine Qc ?_);first | refine QI rfl c9h ?_ | refine Qw (esz:=1) rfl rfl (by omega) ?_ | refine Q4 rfl r1 ?_ | refine Q4 rfl (r2 _ e0) ?_ | (refine Qi rfl (k99 _) ?_;rintro v1 h1 ⟨x1,rfl⟩) | refine Qo rfl ?_ | refine QK rfl rfl (by omega) ?_ | refine Qy rfl rfl (by omega) ?_ | refine XS rfl rfl (by omega) ?_))
   exact QB (j:=M-(j+1)) (by omega) ⟨j+1,by omega,rfl,x.trans x1,nx hOX,rfl⟩
  ·have h1':ofM p (zs.getD j 0)≠xs.getD j 0:=by rw [ez];exact hOX
   generalize ofM p z=O at *
   generalize hX:xs.getD j 0=X at *
   repeat' (first | refine Qg ?_ | refine Qb ?_ | refine QD ?_ | refine Qv ?_ | refine Xs ?_ | refine Qn ?_ | refine Qt ?_ | refine Qf ?_ | refine Q2 ?_ | refine Xk ?_ | refine Xl ?_ | ((refine Qh ?_);refine Qj rfl ?_) | ((refine Qe ?_);first | refine Q1 ?_ | refine Xw ?_ | refine QE rfl rfl ?_ | refine X6 rfl rfl rfl rfl rfl rfl rfl rfl rfl rfl rfl ?_ | refine XC rfl rfl rfl rfl rfl rfl rfl rfl rfl rfl rfl rfl ?_) | ((refine Qc ?_);first | refine QI rfl c9h ?_ | refine Qw (esz:=1) rfl rfl (by omega) ?_ | refine Q4 rfl r1 ?_ | refine Q4 rfl (r2 _ e0) ?_ | (refine Qi rfl (k99 _) ?_;rintro v1 h1 ⟨x1,rfl⟩) | refine Qo rfl ?_ | refine Qy rfl rfl (by omega) ?_ | refine Yg rfl rfl (by omega) ?_))
   exact XI ⟨x.trans x1,.inr ⟨rfl,⟨j,hlt,by rw [hX];exact h1'⟩,rfl⟩⟩
 ·have:j=M:=by omega
  subst this
  repeat' (first | refine Qg ?_ | refine Qb ?_ | refine Q0 ?_ | refine QX ?_ | refine Qf ?_ | ((refine Qh ?_);refine Qk rfl ?_) | ((refine Qe ?_);refine X6 rfl rfl rfl rfl rfl rfl rfl rfl rfl rfl rfl ?_) | ((refine Qc ?_);refine QM rfl rfl (by omega) ?_))
  exact QN ⟨x,.inl ⟨rfl,hall,_,_,_,_,_,rfl⟩⟩
structure FieldOk (p g:Nat):Prop where
 f:FOK p (XU p)
 r:Rt p 17 g
 lt:g < p
 lo:1152921504606846976 < p
 hi:p < 2305843009213693952
theorem QdH {c:Nat} {x:Nat × Nat} (h:x∈Yt c):FieldOk x.1 x.2:=by
 have k:x=(p1,r1)∨x=(p2,r2):=by
  unfold Yt at h
  split at h
  ·simp at h;exact .inl h
  ·simpa using h
 rcases k with rfl | rfl
 ·exact ⟨fok1,rt1,by decide,by decide,by decide⟩
 ·exact ⟨fok2,rt2,by decide,by decide,by decide⟩
theorem Qgj {p a:Nat} (h:a < p):Cg p (lfM p a) (a:Nat):=by
 unfold lfM
 split
 ·exact ⟨-1,by omega⟩
 ·exact Cg.rfl
theorem QlY {p a:Nat} (h:a < p):2*(lfM p a).natAbs≤p:=by unfold lfM;split <;> omega
theorem QlX {p a:Nat} {d:Int} (h:a < p) (hc:Cg p (a:Int) d) (hd:2*d.natAbs < p):lfM p a=d:=by
 have:=QlY h
 exact ((Qgj h).trans hc).eq (by omega)
theorem QlQ {p a:Nat} {z:Int} (ha:a < p) (hz:z.natAbs < p) (hc:Cg p z (a:Int)):ofM p z=a:=((Qck hz).trans hc).eqN (Qcj hz) ha
def St77 (c M i:Nat) (d:Nat→Int) (cs:SV) (h:Qa):Prop:=(i=0∧cs=.nilS)∨(0 < i∧∃ cid zs,cs=.slc cid 0 M (some M)∧Bi h cid zs∧zs.length=M∧(∀ z∈zs,z.natAbs≤cM)∧∀ (m:Nat) (x:Nat × Nat),m < i→(Yt c)[m]?=some x→∀ j,j < M→Cg x.1 (zs.getD j 0) (d j))
def I77 (c M:Nat) (d:Nat→Int) (esl fs:SV) (hb:Qa) (m:Nat) (E:Env) (h:Qa):Prop:=∃ i cs,i≤(Yt c).length∧m=(Yt c).length-i∧Ext hb h∧St77 c M i d cs h ∧
 E.keep [0,1,7,22,23,24]=[(0,some (.sc esl)),(1,some (.sc (.int .i64 ((M-1:Nat):Int)))),(7,some (.sc cs)),(22,some (.sc fs)),(23,some (.sc (.int .i64 ((Yt c).length:Nat)))),(24,some (.sc (.int .i64 (i:Nat))))]
def R77 (c M:Nat) (d:Nat→Int) (hb:Qa) (ex:Ex) (E:Env) (h:Qa):Prop:=Ext hb h ∧
 ((ex = .ex 0 ∧ ∃ cs, St77 c M (Yt c).length d cs h ∧ ∃ a b e f g, E = [(0, a), (1, b), (7, some (.sc cs)), (22, e), (23, f), (24, g), (25, some (.sc (.bool false)))]) ∨
  (ex=.rt∧(∃ j,j < M∧cM < (d j).natAbs)∧E=[(4,some (.sc .nilS)),(5,some (.sc (.bool false)))]))
theorem QiP (c M n:Nat) (d:Nat→Int) (esl fs:SV) (es:List (List (List Tm))) (hb:Qa) (hM:1≤M∧M≤65537) (hn:n < 1000000) (ee:Ents hb esl es) (he:es.length=n) (tok:∀ r∈es,r.length=n∧∀ l∈r,l.length≤1000000∧∀ m∈l,0≤m.1∧m.1≤100000∧m.2.natAbs≤cM)
  (hD:∀ x:Int,D (es.map (evR x)) (List.range' 0 n)=sm M fun j=>d j*x ^ j) (ff:IsD hb fs (fP (Yt c))) (m:Nat) (E:Env) (h:Qa) (hI:I77 c M d esl fs hb m E h) :
  wA FT HKt Qkv (E.keep [0,1,7,22,23,24]) h (Qp (I77 c M d esl fs hb) m (R77 c M d hb)):=by
 obtain ⟨i,cs,hi,rfl,x,st,hE⟩:=hI
 rw [hE]
 by_cases hlt:i < (Yt c).length
 ·obtain ⟨y,hy⟩:∃ y,(Yt c)[i]?=some y:=⟨_,Ga hlt⟩
  have fo:=QdH (Gh hy)
  obtain ⟨p,g⟩:=y
  obtain ⟨id,off,cap,e1,rA⟩:=ff.at (i:=i) (p:=(SV.int .u64 ((p:Nat):Int),SV.int .u64 ((g:Nat):Int))) (by rw [Gi,hy];rfl)
  rw [Gt] at e1
  subst e1
  have rA0:=QH x rA
  have lo:=fo.lo
  have hip:=fo.hi
  have tok1:∀ r∈es,r.length=n∧∀ l∈r,l.length≤1000000∧∀ m∈l,U8 p m:=fun r hr=>⟨(tok r hr).1,fun l hl=>⟨((tok r hr).2 l hl).1,fun m hm=>by
   obtain ⟨a,b,c⟩:=((tok r hr).2 l hl).2 m hm
   simp only [cM] at c
   exact ⟨a,b,by show m.2.natAbs < p;simp only at lo;omega⟩⟩⟩
  have k108:=fun H (e:Ext hb H)=>QjO p g n (M-1) H esl es ⟨by simp only at lo;omega,by simp only at hip;omega⟩ fo.lt fo.r (by omega) hn (ee.ext e) he tok1
  have res:=fun k w (hk:k≤17) (hdk:M-1 < 2 ^ k) (hw:w < p) (hr:Rt1 p k w)=>resid (d:=d) (deg:=M-1) fo.f (by simp only at lo;omega) hk hw hr hdk he (fun r hr=>⟨(tok1 r hr).1,fun l hl=>((tok1 r hr).2 l hl).2⟩) (fun x=>by rw [hD x,show M-1+1=M by omega])
  simp only at lo hip
  simp only [show M-1+1=M by omega] at k108
  have hf2:(Yt c).length≤2:=by unfold Yt;split <;> simp
  have e0:=Ext.refl h
  repeat' (first | refine Qg ?_ | refine Qb ?_ | refine Qv ?_ | refine Qn ?_ | refine Qf ?_ | ((refine Qh ?_);refine Qj rfl ?_) | ((refine Qe ?_);first | refine Xn rfl rfl rfl rfl rfl rfl rfl ?_ | refine Xa rfl rfl rfl rfl rfl rfl rfl rfl ?_) | ((refine Qc ?_);first | (have z:=c9;refine QI rfl c9 ?_) | (refine qq rfl ?_;intro h1 e1 c9;have x1:=x.trans e1) | refine Qw (esz:=2) rfl rfl (by omega) ?_ | refine XX rfl rA0 ?_ | (refine Qi rfl (k108 _ x1) ?_;rintro v h2 ⟨e2,k,w,xid,hk,hdk,hw,hr,rfl,bx⟩;have rs:=res k w hk hdk hw hr) | refine Qo rfl ?_ | refine Qy rfl rfl (by omega) ?_))
  have lenX:M≤((trM p k ((List.range (2 ^ k)).map (JK p (2 ^ k) n ((List.range (2 ^ k)).map (pwM p w)) es)) (XU p w)).map fun x=>x*XU p (2 ^ k)%p).length:=by
   rw [Gt,ZI p k _ _ (by simp)];omega
  simp only at rs
  generalize ((trM p k ((List.range (2 ^ k)).map (JK p (2 ^ k) n ((List.range (2 ^ k)).map (pwM p w)) es)) (XU p w)).map fun x=>x*XU p (2 ^ k)%p)=xs at *
  generalize 2 ^ k=N at *
  have hxp:∀ i,i < M→xs.getD i 0 < p:=fun i hi=>(rs i (by omega)).1
  have hxc:∀ i,i < M→Cg p ((xs.getD i 0:Nat):Int) (d i):=fun i hi=>(rs i (by omega)).2
  clear rs res k108
  have c92:=c9.ext e2
  have x2:=x1.trans e2
  have hcM:cM=1125899906842624:=rfl
  have bad:∀ zs:List Int,(∀ z∈zs,z.natAbs≤cM)→zs.length=M→(∃ (q:Nat),2*cM < q∧∀ j,j < M→Cg q (zs.getD j 0) (d j))→(∃ j,j < M∧ofM p (zs.getD j 0)≠xs.getD j 0)→∃ j,j < M∧cM < (d j).natAbs:=fun zs hz hzl ⟨q,hq,hc⟩ ⟨j,hj,hne⟩=>by
   refine ⟨j,hj,Nat.lt_of_not_le fun hle=>hne ?_⟩
   have hzj:(zs.getD j 0).natAbs≤cM:=by rw [Ge,Ga (by omega)];exact hz _ (GD _)
   have e:zs.getD j 0=d j:=(hc j hj).eq (by omega)
   exact QlQ (hxp j hj) (by omega) (by rw [e];exact (hxc j hj).symm)
  have good:∀ zs:List Int,(∀ z∈zs,z.natAbs≤cM)→zs.length=M→(∀ j,j < M→ofM p (zs.getD j 0)=xs.getD j 0)→∀ j,j < M→Cg p (zs.getD j 0) (d j):=fun zs hz hzl h j hj=>by
   have hzj:(zs.getD j 0).natAbs≤cM:=by rw [Ge,Ga (by omega)];exact hz _ (GD _)
   have k:=Qck (p:=p) (x:=zs.getD j 0) (by omega)
   rw [h j hj] at k
   exact k.symm.trans (hxc j hj)
  rcases st with ⟨rfl,rfl⟩ | ⟨h0i,cid,zs,rfl,bz,hzl,hzc,hzg⟩
  ·repeat' (first | refine Qg ?_ | refine Qb ?_ | refine Qv ?_ | refine Qf ?_ | ((refine Qh ?_);refine Qj rfl ?_) | ((refine Qe ?_);first | refine Xa rfl rfl rfl rfl rfl rfl rfl rfl ?_ | refine Q5 rfl rfl rfl rfl rfl rfl rfl rfl rfl ?_ | refine X6 rfl rfl rfl rfl rfl rfl rfl rfl rfl rfl rfl ?_) | ((refine Qc ?_);first | refine Qs rfl rfl ?_ | (refine Qkk rfl rfl (by omega) ?_;intro h3 e3 b3) | refine Qo rfl ?_ | refine Xt rfl rfl ?_))
   refine Q9 (I77a p g h.length h2.length xid M N xs (.sc esl) (.sc (.int .i64 ((M-1:Nat):Int))) (.sc (.slc id off (Yt c).length cap)) (.sc (.int .i64 ((Yt c).length:Nat))) (.sc (.int .i64 ((0:Nat):Int))) h2) M (R77a p g h.length h2.length xid M N xs (.sc esl) (.sc (.int .i64 ((M-1:Nat):Int))) (.sc (.slc id off (Yt c).length cap)) (.sc (.int .i64 ((Yt c).length:Nat))) (.sc (.int .i64 ((0:Nat):Int))) h2)
    ⟨0,Gs _,rfl,e3,by rw [VI];exact b3,fun i hi=>by omega,rfl⟩ (QfF p g h.length h2.length xid M N xs _ _ _ _ _ h2 ⟨by omega,by omega⟩ lenX (by omega) hxp c92 bx (Gf _)) ?_
   rintro ex E' h4 ⟨x4,⟨rfl,b4,hall,_,_,_,_,rfl⟩ | ⟨rfl,⟨j,hj,hne⟩,rfl⟩⟩
   ·have hzl:((List.range M).map fun i=>lfM p (xs.getD i 0)).length=M:=by simp
    have hzc:∀ z∈(List.range M).map fun i=>lfM p (xs.getD i 0),z.natAbs≤cM:=fun z hz=>by
     obtain ⟨i,hi,rfl⟩:=Gu.1 hz
     exact hall i (Hk.1 hi)
    have hcg:∀ j,j < M→Cg p (((List.range M).map fun i=>lfM p (xs.getD i 0)).getD j 0) (d j):=fun j hj=>by
     rw [Ge,Gi,Gq hj]
     exact (Qgj (hxp j hj)).trans (hxc j hj)
    generalize (List.range M).map (fun i=>lfM p (xs.getD i 0))=zs at *
    have ic:IsInts h4 (.slc h2.length 0 M (some M)) zs:=by have:=b4.ints (c:=some M);rwa [hzl] at this
    repeat' (first | refine Qg ?_ | refine Qb ?_ | refine Qv ?_ | refine QP ?_ | refine Qf ?_ | ((refine Qe ?_);refine Xy rfl rfl rfl rfl rfl rfl rfl rfl rfl rfl ?_) | ((refine Qc ?_);first | refine Qs rfl rfl ?_ | refine Qo rfl ?_))
    refine Q9 (Qj3 p g h.length M N xid xs zs (.slc h2.length 0 M (some M)) (.sc esl) (.sc (.int .i64 ((M-1:Nat):Int))) (.sc (.slc id off (Yt c).length cap)) (.sc (.int .i64 ((Yt c).length:Nat))) (.sc (.int .i64 ((0:Nat):Int))) h4) M (R77b p g h.length M N xs zs (.slc h2.length 0 M (some M)) (.sc esl) (.sc (.int .i64 ((M-1:Nat):Int))) (.sc (.slc id off (Yt c).length cap)) (.sc (.int .i64 ((Yt c).length:Nat))) (.sc (.int .i64 ((0:Nat):Int))) h4)
     ⟨0,Gs _,rfl,Ext.refl _,fun i hi=>by omega,rfl⟩ (Qa5 p g h.length M N xid xs zs _ _ _ _ _ _ h4 ⟨by omega,by omega⟩ lenX (by omega) hxp hzl hzc (c92.ext x4) (bx.ext x4) ic) ?_
    rintro ex E' h5 ⟨x5,⟨rfl,heq,_,_,_,_,_,rfl⟩ | ⟨rfl,hex,rfl⟩⟩
    ·repeat' (first | refine Qb ?_ | refine QJ ?_ | refine QP ?_ | refine Qf ?_ | ((refine Qe ?_);refine QT rfl rfl rfl rfl rfl rfl ?_) | ((refine Qc ?_);first | refine Qo rfl ?_ | refine QK rfl rfl (by omega) ?_))
     refine QB (j:=(Yt c).length-1) (by omega) ⟨1,_,by omega,rfl,(x2.trans x4).trans x5,.inr ⟨by omega,h2.length,zs,rfl,b4.ext x5,hzl,hzc,fun m y hm hy' j hj=>?_⟩,rfl⟩
     have:m=0:=by omega
     subst this
     rw [hy] at hy';cases hy'
     exact hcg j hj
    ·repeat' (first | refine QD ?_ | refine Xs ?_)
     exact XI ⟨(x2.trans x4).trans x5,.inr ⟨rfl,bad zs hzc hzl ⟨p,by omega,hcg⟩ hex,rfl⟩⟩
   ·repeat' (first | refine QD ?_ | refine Xs ?_)
    refine XI ⟨x2.trans x4,.inr ⟨rfl,⟨j,hj,Nat.lt_of_not_le fun hle=>hne ?_⟩,rfl⟩⟩
    rw [QlX (hxp j hj) (hxc j hj) (by omega)];exact hle
  ·have bz2:=bz.ext (e1.trans e2)
   have ic:IsInts h2 (.slc cid 0 M (some M)) zs:=by have:=bz2.ints (c:=some M);rwa [hzl] at this
   repeat' (first | refine Qg ?_ | refine Qb ?_ | refine Qv ?_ | refine Qn ?_ | refine Qf ?_ | ((refine Qh ?_);refine Qk rfl ?_) | ((refine Qe ?_);first | refine Q5 rfl rfl rfl rfl rfl rfl rfl rfl rfl ?_ | refine Xy rfl rfl rfl rfl rfl rfl rfl rfl rfl rfl ?_) | ((refine Qc ?_);first | refine Qs rfl rfl ?_ | refine Qo rfl ?_ | refine Xt rfl rfl ?_))
   refine Q9 (Qj3 p g h.length M N xid xs zs (.slc cid 0 M (some M)) (.sc esl) (.sc (.int .i64 ((M-1:Nat):Int))) (.sc (.slc id off (Yt c).length cap)) (.sc (.int .i64 ((Yt c).length:Nat))) (.sc (.int .i64 (i:Nat))) h2) M (R77b p g h.length M N xs zs (.slc cid 0 M (some M)) (.sc esl) (.sc (.int .i64 ((M-1:Nat):Int))) (.sc (.slc id off (Yt c).length cap)) (.sc (.int .i64 ((Yt c).length:Nat))) (.sc (.int .i64 (i:Nat))) h2)
    ⟨0,Gs _,rfl,Ext.refl _,fun i hi=>by omega,rfl⟩ (Qa5 p g h.length M N xid xs zs _ _ _ _ _ _ h2 ⟨by omega,by omega⟩ lenX (by omega) hxp hzl hzc c92 bx ic) ?_
   rintro ex E' h5 ⟨x5,⟨rfl,heq,_,_,_,_,_,rfl⟩ | ⟨rfl,hex,rfl⟩⟩
   ·repeat' (first | refine Qb ?_ | refine QJ ?_ | refine QP ?_ | refine Qf ?_ | ((refine Qe ?_);refine QT rfl rfl rfl rfl rfl rfl ?_) | ((refine Qc ?_);first | refine Qo rfl ?_ | refine QK rfl rfl (by omega) ?_))
    refine QB (j:=(Yt c).length-(i+1)) (by omega) ⟨i+1,_,by omega,rfl,x2.trans x5,.inr ⟨by omega,cid,zs,rfl,bz2.ext x5,hzl,hzc,fun m y hm hy' j hj=>?_⟩,rfl⟩
    by_cases e:m=i
    ·subst e
     rw [hy] at hy';cases hy'
     exact good zs hzc hzl heq j hj
    ·exact hzg m y (by omega) hy' j hj
   ·repeat' (first | refine QD ?_ | refine Xs ?_)
    obtain ⟨y0,hy0⟩:∃ y,(Yt c)[0]?=some y:=⟨_,Ga (by omega)⟩
    have f0:=QdH (Gh hy0)
    have:=f0.lo
    exact XI ⟨x2.trans x5,.inr ⟨rfl,bad zs hzc hzl ⟨y0.1,by omega,hzg 0 y0 h0i hy0⟩ hex,rfl⟩⟩
 ·have:i=(Yt c).length:=by omega
  subst this
  repeat' (first | refine Qg ?_ | refine Qb ?_ | refine Q0 ?_ | refine QX ?_ | refine Qf ?_ | ((refine Qh ?_);refine Qk rfl ?_) | ((refine Qe ?_);refine Xn rfl rfl rfl rfl rfl rfl rfl ?_) | ((refine Qc ?_);refine QM rfl rfl (by omega) ?_))
  exact QN ⟨x,.inl ⟨rfl,cs,st,_,_,_,_,_,rfl⟩⟩
