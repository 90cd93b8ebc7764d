/- The determinant's coefficients out of their residues: lifted,and compared. -/
import Derived.Test.YtofknpknogfijaaGreatDoorWB
import Derived.Test.YtofknpknogfijaaGreatDoorAb50
namespace Go.Proofs.YtofknpknogfijaaGreatDoor
open Go.Ab
set_option linter.unusedVariables false
set_option linter.unusedSimpArgs false
set_option maxRecDepth 20000
set_option maxHeartbeats 4000000
attribute [local irreducible] Qi wA Xk Xj Qz Qo QS QV
set_option linter.unusedSectionVars false
variable [HB]
def Bi (h:Qa) (id:Nat) (xs:List Int):Prop:=h[id]?=some (.cells (xs.map (SV.int .i64)) true 1)
theorem Bi.ext {h h':Qa} {id:Nat} {xs:List Int} (b:Bi h id xs) (e:Ext h h'):Bi h' id xs:=by
  obtain ⟨t,rfl⟩:=e
  unfold Bi at *
  rw [List.getElem?_append_left (List.getElem?_eq_some_iff.1 b).1,b]
theorem Bi.lt {h:Qa} {id:Nat} {xs:List Int} (b:Bi h id xs):id < h.length:=(List.getElem?_eq_some_iff.1 b).1
theorem Bi.rd {h:Qa} {id i:Nat} {xs:List Int} {x:Int} (b:Bi h id xs) (hi:xs[i]?=some x):QX h id (0+i*1) 1=some [.int .i64 x] :=
  Qdv b (by rw [List.getElem?_map,hi];rfl)
theorem Bi.wr {h:Qa} {id i:Nat} {y:Int} {xs:List Int} (b:Bi h id xs) (hi:i < xs.length):XB h id (0+i*1) [.int .i64 y]=some (h.set id (.cells ((xs.set i y).map (SV.int .i64)) true 1)):=by
  rw [wr1 b (by simpa using hi),List.map_set]
theorem Bi.set {h:Qa} {id:Nat} {xs ys:List Int} (b:Bi h id xs):Bi (h.set id (.cells (ys.map (SV.int .i64)) true 1)) id ys:=by
  unfold Bi;rw [List.getElem?_set_self b.lt]
theorem Bi.ints {h:Qa} {id:Nat} {xs:List Int} {c:Option Nat} (b:Bi h id xs):IsInts h (.slc id 0 xs.length c) xs:=by
  refine .inr ⟨id,0,c,_,rfl,b,rfl,fun h=>by rw [List.eq_nil_of_length_eq_zero h];rfl,fun _=>⟨_,_,rfl,?_⟩⟩
  unfold cut
  rw [if_pos (by simp [ESz.one_n])]
  simp only [ESz.one_n,List.drop_zero,Nat.mul_one]
  rw [List.take_of_length_le (by simp)]
def ya (f:Nat→Int) (n i:Nat):List Int:=(List.range n).map fun j=>if j < i then f j else 0
theorem Qam {f:Nat→Int} {n i:Nat}:(ya f n i).length=n:=by simp [ya]
theorem UC {f:Nat→Int} {n:Nat}:ya f n 0=List.replicate n 0:=by
  unfold ya
  apply List.ext_getElem?
  intro j
  rw [List.getElem?_map,List.getElem?_replicate]
  rcases Nat.lt_or_ge j n with h | h
  · rw [List.getElem?_range h,if_pos h];simp
  · rw [List.getElem?_eq_none (by simpa using h),if_neg (by omega)];rfl
theorem Qal {f:Nat→Int} {n i:Nat} (h:i < n):(ya f n i).set i (f i)=ya f n (i+1):=by
  unfold ya
  apply List.ext_getElem?
  intro j
  rw [List.getElem?_set,List.getElem?_map,List.getElem?_map,List.length_map,List.length_range]
  by_cases e:i=j
  · subst e
    rw [if_pos rfl,if_pos h,List.getElem?_range h];simp
  · rw [if_neg e]
    rcases Nat.lt_or_ge j n with hj | hj
    · rw [List.getElem?_range hj]
      simp only [Option.map_some]
      by_cases h1:j < i
      · rw [if_pos h1,if_pos (by omega)]
      · rw [if_neg h1,if_neg (by omega)]
    · rw [List.getElem?_eq_none (by simpa using hj)];rfl
theorem UD {f:Nat→Int} {n:Nat}:ya f n n=(List.range n).map f:=by
  unfold ya
  refine List.map_congr_left fun j hj=>?_
  rw [if_pos (List.mem_range.1 hj)]
theorem QgJ {f:Nat→Int} {n i:Nat} (h:i < n):(ya f n (i+1))[i]?=some (f i):=by
  unfold ya
  rw [List.getElem?_map,List.getElem?_range h];simp
section
variable {FT:FuncId→Option AFun} {HK:FuncId→Option Xc} {E:Env} {h:Qa} {K:Env→Qa→Prop} {d:Option Nat} {r:List AOp} {x y:AO}
theorem Qhx {n:Nat} (hx:evS E x=some (.int .i64 (n:Nat))) (hy:evS E y=some (.int .i64 (n:Nat))) (hb:n≤10000000) (hw:∀ h1,Ext h h1→Bi h1 h.length (List.replicate n 0)→Qi FT HK r (Qq d (some (.sc (.slc h.length 0 n (some n)))) E) h1 K) :
    Qi FT HK (⟨d,.mk 1 8 [.int .i64 0] x y,none⟩::r) E h K:=by
  refine Q8 (v:=some (.sc (.slc h.length 0 n (some n)))) (h':=h++[.cells (rep [.int .i64 0] n) true 1]) rfl rfl ?_ (hw _ ⟨_,rfl⟩ ?_)
  · simp only [Ql,hx,hy]
    rw [if_pos ⟨by omega,by omega,by unfold YV;omega⟩,Int.toNat_natCast]
  · unfold Bi
    rw [List.getElem?_append_right (Nat.le_refl _),Nat.sub_self,repN,List.map_replicate];rfl
end
def I77a (p g q9 cid xid M N:Nat) (xs:List Nat) (a0 a1 a22 a23 a24:AV) (hb:Qa) (m:Nat) (E:Env) (h:Qa):Prop:=∃ j,j≤M∧m=M-j∧Ext hb h∧Bi h cid (ya (fun i=>lfM p (xs.getD i 0)) M j)∧(∀ i,i < j→(lfM p (xs.getD i 0)).natAbs≤cM) ∧
  E.keep [0,1,7,9,10,22,23,24,37,38,39]=[(0,some a0),(1,some a1),(7,some (.sc (.slc cid 0 M (some M)))),(9,some (.sc (.ptr q9 0))),(10,some (.sc (.slc xid 0 M (some N)))),(22,some a22),(23,some a23),(24,some a24),(37,some (.sc (.slc xid 0 M (some N)))),(38,some (.sc (.int .i64 (M:Nat)))),(39,some (.sc (.int .i64 (j:Nat))))]
def R77a (p g q9 cid xid M N:Nat) (xs:List Nat) (a0 a1 a22 a23 a24:AV) (hb:Qa) (ex:Ex) (E:Env) (h:Qa):Prop:=Ext hb h ∧
  ((ex=.ex 2∧Bi h cid ((List.range M).map fun i=>lfM p (xs.getD i 0))∧(∀ i,i < M→(lfM p (xs.getD i 0)).natAbs≤cM) ∧
    ∃ a b c d,E=[(0,some a0),(1,some a1),(7,some (.sc (.slc cid 0 M (some M)))),(9,some (.sc (.ptr q9 0))),(10,some (.sc (.slc xid 0 M (some N)))),(22,some a22),(23,some a23),(24,some a24),(37,a),(38,b),(39,c),(40,d)]) ∨
   (ex=.rt∧(∃ i,i < M∧¬ (lfM p (xs.getD i 0)).natAbs≤cM)∧E=[(4,some (.sc .nilS)),(5,some (.sc (.bool false)))]))
theorem QdE (p g q9 cid xid M N:Nat) (xs:List Nat) (a0 a1 a22 a23 a24:AV) (hb:Qa) (hp:2≤p∧p < 9223372036854775808) (hM:M≤xs.length) (hM2:M≤1000000) (hx:∀ i,i < M→xs.getD i 0 < p) (c9:Cel hb q9 (.int .u64 (p:Nat)) (.int .u64 (g:Nat))) (bx:Bu hb xid xs) (hl:hb.length≤cid) (m:Nat) (E:Env) (h:Qa) (hI:I77a p g q9 cid xid M N xs a0 a1 a22 a23 a24 hb m E h) :
    wA FT HKt QhJ (E.keep [0,1,7,9,10,22,23,24,37,38,39]) h (Qo (I77a p g q9 cid xid M N xs a0 a1 a22 a23 a24 hb) m (R77a p g q9 cid xid M N xs a0 a1 a22 a23 a24 hb)):=by
  obtain ⟨j,hj,rfl,x,b,hall,hE⟩:=hI
  rw [hE]
  have c9h:=c9.ext x
  by_cases hlt:j < M
  · have r1:=QO x (bx.rd (i:=j) (by omega))
    have hxj:=hx j hlt
    have k97:=fun H=>Qjq H p g (xs.getD j 0) hp.2 hxj
    have fs:=Qal (f:=fun i=>lfM p (xs.getD i 0)) hlt
    have wv:=fun h' (y:Ext h h')=>(b.ext y).wr (i:=j) (y:=lfM p (xs.getD j 0)) (by rw [Qam];exact hlt)
    rw [fs] at wv
    have r2:=fun h' (y:Ext h h')=>(((b.ext y).set (ys:=ya (fun i=>lfM p (xs.getD i 0)) M (j+1)))).rd (QgJ hlt)
    have hlf:(lfM p (xs.getD j 0)).natAbs < 9223372036854775808:=by unfold lfM;split <;> omega
    have hc:cM=1125899906842624:=rfl
    have nx:(lfM p (xs.getD j 0)).natAbs≤cM→∀ i,i < j+1→(lfM p (xs.getD i 0)).natAbs≤cM:=fun h i hi=>by
      by_cases e:i=j
      · subst e;exact h
      · exact hall i (by omega)
    generalize hL:lfM p (xs.getD j 0)=L at *
    by_cases h1:L > 1125899906842624
    · repeat' (first | refine Qh ?_ | refine Qb ?_ | refine QF ?_ | refine Qt ?_ | refine Xg ?_ | refine Qn ?_ | refine Qs ?_ | refine Qf ?_ | ((refine Qg ?_);refine Qk rfl ?_) | ((refine Qe ?_);first | refine Qv rfl rfl ?_ | refine Xh rfl rfl rfl rfl rfl rfl rfl rfl rfl rfl rfl rfl ?_ | refine Xo rfl rfl rfl rfl rfl rfl rfl rfl rfl rfl rfl rfl rfl ?_) | ((refine Qc ?_);first | refine QN rfl c9h ?_ | refine QD (esz:=1) rfl rfl (by omega) ?_ | refine Xx rfl r1 ?_ | (refine Qm rfl (k97 _) ?_;rintro v1 h1 ⟨x1,rfl⟩) | refine Jk rfl rfl (wv _ x1) ?_ | refine Xx rfl (r2 _ x1) ?_ | refine Xn rfl ?_ | refine Qp rfl ?_ | refine Q1 rfl rfl ?_ | refine Qx rfl rfl (by omega) ?_ | refine XA rfl rfl (by omega) ?_))
      exact XN ⟨Ext.setF (x.trans x1) hl _,.inr ⟨rfl,⟨j,hlt,by rw [hL];omega⟩,rfl⟩⟩
    by_cases h2:L < -1125899906842624
    · repeat' (first | refine Qh ?_ | refine Qb ?_ | refine QF ?_ | refine Qt ?_ | refine Xg ?_ | refine Qn ?_ | refine Qs ?_ | refine Qf ?_ | ((refine Qg ?_);refine Qk rfl ?_) | ((refine Qe ?_);first | refine Qv rfl rfl ?_ | refine Xh rfl rfl rfl rfl rfl rfl rfl rfl rfl rfl rfl rfl ?_ | refine Xo rfl rfl rfl rfl rfl rfl rfl rfl rfl rfl rfl rfl rfl ?_) | ((refine Qc ?_);first | refine QN rfl c9h ?_ | refine QD (esz:=1) rfl rfl (by omega) ?_ | refine Xx rfl r1 ?_ | (refine Qm rfl (k97 _) ?_;rintro v1 h1 ⟨x1,rfl⟩) | refine Jk rfl rfl (wv _ x1) ?_ | refine Xx rfl (r2 _ x1) ?_ | refine QY rfl ?_ | refine Qp rfl ?_ | refine QT rfl rfl ?_ | refine Qx rfl rfl (by omega) ?_ | refine Xq rfl rfl (by omega) ?_))
      exact XN ⟨Ext.setF (x.trans x1) hl _,.inr ⟨rfl,⟨j,hlt,by rw [hL];omega⟩,rfl⟩⟩
    repeat' (first | refine Qh ?_ | refine Qb ?_ | refine Qt ?_ | refine QC ?_ | refine Qn ?_ | refine Qf ?_ | ((refine Qg ?_);first | refine Qk rfl ?_ | refine Qj rfl ?_) | ((refine Qe ?_);first | refine XC rfl rfl rfl rfl rfl rfl rfl rfl rfl rfl rfl ?_ | refine Xh rfl rfl rfl rfl rfl rfl rfl rfl rfl rfl rfl rfl ?_ | refine Xo rfl rfl rfl rfl rfl rfl rfl rfl rfl rfl rfl rfl rfl ?_) | ((refine Qc ?_);first | refine QN rfl c9h ?_ | refine QD (esz:=1) rfl rfl (by omega) ?_ | refine Xx rfl r1 ?_ | (refine Qm rfl (k97 _) ?_;rintro v1 h1 ⟨x1,rfl⟩) | refine Jk rfl rfl (wv _ x1) ?_ | refine Xx rfl (r2 _ x1) ?_ | refine QY rfl ?_ | refine Qp rfl ?_ | refine QT rfl rfl ?_ | refine QK rfl rfl (by omega) ?_ | refine Qx rfl rfl (by omega) ?_ | refine QH rfl rfl (by omega) ?_ | refine Xq rfl rfl (by omega) ?_))
    exact Qu (j:=M-(j+1)) (by omega) ⟨j+1,by omega,rfl,Ext.setF (x.trans x1) hl _,(b.ext x1).set,nx (by omega),rfl⟩
  · have:j=M:=by omega
    subst this
    rw [UD] at b
    repeat' (first | refine Qh ?_ | refine Qb ?_ | refine QP ?_ | refine QL ?_ | refine Qf ?_ | ((refine Qg ?_);refine Qj rfl ?_) | ((refine Qe ?_);refine Xh rfl rfl rfl rfl rfl rfl rfl rfl rfl rfl rfl rfl ?_) | ((refine Qc ?_);refine QH rfl rfl (by omega) ?_))
    exact QG ⟨x,.inl ⟨rfl,b,hall,_,_,_,_,rfl⟩⟩
def Qhg (p g q9 M N:Nat) (xid:Nat) (xs:List Nat) (zs:List Int) (cs:SV) (a0 a1 a22 a23 a24:AV) (hb:Qa) (m:Nat) (E:Env) (h:Qa):Prop:=∃ j,j≤M∧m=M-j∧Ext hb h∧(∀ i,i < j→ofM p (zs.getD i 0)=xs.getD i 0) ∧
  E.keep [0,1,7,9,22,23,24,63,64,65]=[(0,some a0),(1,some a1),(7,some (.sc cs)),(9,some (.sc (.ptr q9 0))),(22,some a22),(23,some a23),(24,some a24),(63,some (.sc (.slc xid 0 M (some N)))),(64,some (.sc (.int .i64 (M:Nat)))),(65,some (.sc (.int .i64 (j:Nat))))]
def R77b (p g q9 M N:Nat) (xs:List Nat) (zs:List Int) (cs:SV) (a0 a1 a22 a23 a24:AV) (hb:Qa) (ex:Ex) (E:Env) (h:Qa):Prop:=Ext hb h ∧
  ((ex=.ex 4∧(∀ i,i < M→ofM p (zs.getD i 0)=xs.getD i 0) ∧
    ∃ a b c d e,E=[(0,some a0),(1,some a1),(7,some (.sc cs)),(9,e),(22,some a22),(23,some a23),(24,some a24),(63,a),(64,b),(65,c),(66,d)]) ∨
   (ex=.rt∧(∃ i,i < M∧ofM p (zs.getD i 0)≠xs.getD i 0)∧E=[(4,some (.sc .nilS)),(5,some (.sc (.bool false)))]))
theorem VL (p g q9 M N xid:Nat) (xs:List Nat) (zs:List Int) (cs:SV) (a0 a1 a22 a23 a24:AV) (hb:Qa) (hp:2251799813685248 < p∧p < 9223372036854775808) (hM:M≤xs.length) (hM2:M≤1000000) (hx:∀ i,i < M→xs.getD i 0 < p) (hz:zs.length=M) (hzc:∀ z∈zs,z.natAbs≤cM) (c9:Cel hb q9 (.int .u64 (p:Nat)) (.int .u64 (g:Nat))) (bx:Bu hb xid xs) (ic:IsInts hb cs zs) (m:Nat) (E:Env) (h:Qa) (hI:Qhg p g q9 M N xid xs zs cs a0 a1 a22 a23 a24 hb m E h) :
    wA FT HKt QhI (E.keep [0,1,7,9,22,23,24,63,64,65]) h (Qo (Qhg p g q9 M N xid xs zs cs a0 a1 a22 a23 a24 hb) m (R77b p g q9 M N xs zs cs a0 a1 a22 a23 a24 hb)):=by
  obtain ⟨j,hj,rfl,x,hall,hE⟩:=hI
  rw [hE]
  have c9h:=c9.ext x
  by_cases hlt:j < M
  · have r1:=QO x (bx.rd (i:=j) (by omega))
    have hxj:=hx j hlt
    obtain ⟨z,hz0⟩:∃ z,zs[j]?=some z:=⟨_,List.getElem?_eq_getElem (by omega)⟩
    obtain ⟨id,off,cap,e,r2⟩:=IsInts.at ic hz0
    subst e
    have r2:=fun h' (y:Ext h h')=>QO (x.trans y) r2
    have hzm:=hzc z (List.mem_of_getElem? hz0)
    have hc:cM=1125899906842624:=rfl
    have ez:zs.getD j 0=z:=by rw [List.getD_eq_getElem?_getD,hz0];rfl
    have k99:=fun H=>Qa7 H p g z hp.2 (by omega)
    have nx:ofM p z=xs.getD j 0→∀ i,i < j+1→ofM p (zs.getD i 0)=xs.getD i 0:=fun h i hi=>by
      by_cases e:i=j
      · subst e;rw [ez];exact h
      · exact hall i (by omega)
    have hO:ofM p z < p:=QaR (by omega)
    have e0:=Ext.refl h
    by_cases hOX:ofM p z=xs.getD j 0
    · generalize ofM p z=O at *
      generalize hX:xs.getD j 0=X at *
      repeat' (first | refine Qh ?_ | refine Qb ?_ | refine Qt ?_ | refine QC ?_ | refine Qn ?_ | refine Qf ?_ | refine Q9 ?_ | refine Xs ?_ | refine Xt ?_ | ((refine Qg ?_);first | refine Qk rfl ?_ | refine Qj rfl ?_) | ((refine Qe ?_);first | refine Xb ?_ | refine XP ?_ | refine Xf rfl rfl rfl rfl rfl rfl rfl rfl rfl rfl ?_ | refine XC rfl rfl rfl rfl rfl rfl rfl rfl rfl rfl rfl ?_ | refine Xh rfl rfl rfl rfl rfl rfl rfl rfl rfl rfl rfl rfl ?_) | ((refine Qc ?_);first | refine QN rfl c9h ?_ | refine QD (esz:=1) rfl rfl (by omega) ?_ | refine Xx rfl r1 ?_ | refine Xx rfl (r2 _ e0) ?_ | (refine Qm rfl (k99 _) ?_;rintro v1 h1 ⟨x1,rfl⟩) | refine Qp rfl ?_ | refine QK rfl rfl (by omega) ?_ | refine Qx rfl rfl (by omega) ?_ | refine XJ rfl rfl (by omega) ?_))
      exact Qu (j:=M-(j+1)) (by omega) ⟨j+1,by omega,rfl,x.trans x1,nx hOX,rfl⟩
    · have h1':ofM p (zs.getD j 0)≠xs.getD j 0:=by rw [ez];exact hOX
      generalize ofM p z=O at *
      generalize hX:xs.getD j 0=X at *
      repeat' (first | refine Qh ?_ | refine Qb ?_ | refine QF ?_ | refine Qt ?_ | refine Xg ?_ | refine Qn ?_ | refine Qs ?_ | refine Qf ?_ | refine Q9 ?_ | refine Xs ?_ | refine Xt ?_ | ((refine Qg ?_);refine Qk rfl ?_) | ((refine Qe ?_);first | refine Xb ?_ | refine XP ?_ | refine Qv rfl rfl ?_ | refine XC rfl rfl rfl rfl rfl rfl rfl rfl rfl rfl rfl ?_ | refine Xh rfl rfl rfl rfl rfl rfl rfl rfl rfl rfl rfl rfl ?_) | ((refine Qc ?_);first | refine QN rfl c9h ?_ | refine QD (esz:=1) rfl rfl (by omega) ?_ | refine Xx rfl r1 ?_ | refine Xx rfl (r2 _ e0) ?_ | (refine Qm rfl (k99 _) ?_;rintro v1 h1 ⟨x1,rfl⟩) | refine Qp rfl ?_ | refine Qx rfl rfl (by omega) ?_ | refine XX rfl rfl (by omega) ?_))
      exact XN ⟨x.trans x1,.inr ⟨rfl,⟨j,hlt,by rw [hX];exact h1'⟩,rfl⟩⟩
  · have:j=M:=by omega
    subst this
    repeat' (first | refine Qh ?_ | refine Qb ?_ | refine QP ?_ | refine QL ?_ | refine Qf ?_ | ((refine Qg ?_);refine Qj rfl ?_) | ((refine Qe ?_);refine XC rfl rfl rfl rfl rfl rfl rfl rfl rfl rfl rfl ?_) | ((refine Qc ?_);refine QH rfl rfl (by omega) ?_))
    exact QG ⟨x,.inl ⟨rfl,hall,_,_,_,_,_,rfl⟩⟩
end Go.Proofs.YtofknpknogfijaaGreatDoor


namespace Go.Proofs.YtofknpknogfijaaGreatDoor
open Go.Ab
set_option linter.unusedVariables false
set_option linter.unusedSimpArgs false
set_option maxRecDepth 20000
set_option maxHeartbeats 4000000
attribute [local irreducible] Qi wA Xk Xj Qz Qo QS QV
set_option linter.unusedSectionVars false
variable [HB]
structure FieldOk (p g:Nat):Prop where
  f:FOK p (XR p)
  r:Rt p 17 g
  lt:g < p
  lo:1152921504606846976 < p
  hi:p < 2305843009213693952
theorem Qb5 {c:Nat} {x:Nat × Nat} (h:x∈Yr c):FieldOk x.1 x.2:=by
  have k:x=(p1,r1)∨x=(p2,r2):=by
    unfold Yr at h
    split at h
    · simp at h;exact .inl h
    · simpa using h
  rcases k with rfl | rfl
  · exact ⟨fok1,rt1,by decide,by decide,by decide⟩
  · exact ⟨fok2,rt2,by decide,by decide,by decide⟩
theorem Qeb {p a:Nat} (h:a < p):Cg p (lfM p a) (a:Nat):=by
  unfold lfM
  split
  · exact ⟨-1,by omega⟩
  · exact Cg.rfl
theorem Qi5 {p a:Nat} (h:a < p):2*(lfM p a).natAbs≤p:=by unfold lfM;split <;> omega
theorem Qi4 {p a:Nat} {d:Int} (h:a < p) (hc:Cg p (a:Int) d) (hd:2*d.natAbs < p):lfM p a=d:=by
  have:=Qi5 h
  exact ((Qeb h).trans hc).eq (by omega)
theorem QiX {p a:Nat} {z:Int} (ha:a < p) (hz:z.natAbs < p) (hc:Cg p z (a:Int)):ofM p z=a:=((QaS hz).trans hc).eqN (QaR hz) ha
def St77 (c M i:Nat) (d:Nat→Int) (cs:SV) (h:Qa):Prop:=(i=0∧cs=.nilS)∨(0 < i∧∃ cid zs,cs=.slc cid 0 M (some M)∧Bi h cid zs∧zs.length=M∧(∀ z∈zs,z.natAbs≤cM)∧∀ (m:Nat) (x:Nat × Nat),m < i→(Yr c)[m]?=some x→∀ j,j < M→Cg x.1 (zs.getD j 0) (d j))
def I77 (c M:Nat) (d:Nat→Int) (esl fs:SV) (hb:Qa) (m:Nat) (E:Env) (h:Qa):Prop:=∃ i cs,i≤(Yr c).length∧m=(Yr c).length-i∧Ext hb h∧St77 c M i d cs h ∧
  E.keep [0,1,7,22,23,24]=[(0,some (.sc esl)),(1,some (.sc (.int .i64 ((M-1:Nat):Int)))),(7,some (.sc cs)),(22,some (.sc fs)),(23,some (.sc (.int .i64 ((Yr c).length:Nat)))),(24,some (.sc (.int .i64 (i:Nat))))]
def R77 (c M:Nat) (d:Nat→Int) (hb:Qa) (ex:Ex) (E:Env) (h:Qa):Prop:=Ext hb h ∧
  ((ex=.ex 0∧∃ cs,St77 c M (Yr c).length d cs h∧∃ a b e f g,E=[(0,a),(1,b),(7,some (.sc cs)),(22,e),(23,f),(24,g),(25,some (.sc (.bool false)))]) ∨
   (ex=.rt∧(∃ j,j < M∧cM < (d j).natAbs)∧E=[(4,some (.sc .nilS)),(5,some (.sc (.bool false)))]))
theorem Qgc (c M n:Nat) (d:Nat→Int) (esl fs:SV) (es:List (List (List Tm))) (hb:Qa) (hM:1≤M∧M≤65537) (hn:n < 1000000) (ee:Ents hb esl es) (he:es.length=n) (tok:∀ r∈es,r.length=n∧∀ l∈r,l.length≤1000000∧∀ m∈l,0≤m.1∧m.1≤100000∧m.2.natAbs≤cM)
    (hD:∀ x:Int,D (es.map (evR x)) (List.range' 0 n)=sm M fun j=>d j*x ^ j) (ff:IsD hb fs (fP (Yr c))) (m:Nat) (E:Env) (h:Qa) (hI:I77 c M d esl fs hb m E h) :
    wA FT HKt QhK (E.keep [0,1,7,22,23,24]) h (Qo (I77 c M d esl fs hb) m (R77 c M d hb)):=by
  obtain ⟨i,cs,hi,rfl,x,st,hE⟩:=hI
  rw [hE]
  by_cases hlt:i < (Yr c).length
  · obtain ⟨y,hy⟩:∃ y,(Yr c)[i]?=some y:=⟨_,List.getElem?_eq_getElem hlt⟩
    have fo:=Qb5 (List.mem_of_getElem? hy)
    obtain ⟨p,g⟩:=y
    obtain ⟨id,off,cap,e1,rA⟩:=ff.at (i:=i) (p:=(SV.int .u64 ((p:Nat):Int),SV.int .u64 ((g:Nat):Int))) (by rw [List.getElem?_map,hy];rfl)
    rw [List.length_map] at e1
    subst e1
    have rA0:=QO x rA
    have lo:=fo.lo
    have hip:=fo.hi
    have tok1:∀ r∈es,r.length=n∧∀ l∈r,l.length≤1000000∧∀ m∈l,Ub p m:=fun r hr=>⟨(tok r hr).1,fun l hl=>⟨((tok r hr).2 l hl).1,fun m hm=>by
      obtain ⟨a,b,c⟩:=((tok r hr).2 l hl).2 m hm
      simp only [cM] at c
      exact ⟨a,b,by show m.2.natAbs < p;simp only at lo;omega⟩⟩⟩
    have k108:=fun H (e:Ext hb H)=>Qg2 p g n (M-1) H esl es ⟨by simp only at lo;omega,by simp only at hip;omega⟩ fo.lt fo.r (by omega) hn (ee.ext e) he tok1
    have res:=fun k w (hk:k≤17) (hdk:M-1 < 2 ^ k) (hw:w < p) (hr:Rt1 p k w)=>resid (d:=d) (deg:=M-1) fo.f (by simp only at lo;omega) hk hw hr hdk he (fun r hr=>⟨(tok1 r hr).1,fun l hl=>((tok1 r hr).2 l hl).2⟩) (fun x=>by rw [hD x,show M-1+1=M by omega])
    simp only at lo hip
    simp only [show M-1+1=M by omega] at k108
    have hf2:(Yr c).length≤2:=by unfold Yr;split <;> simp
    have e0:=Ext.refl h
    repeat' (first | refine Qh ?_ | refine Qb ?_ | refine Qt ?_ | refine Qn ?_ | refine Qf ?_ | ((refine Qg ?_);refine Qk rfl ?_) | ((refine Qe ?_);first | refine Q7 rfl rfl rfl rfl rfl rfl rfl ?_ | refine Q5 rfl rfl rfl rfl rfl rfl rfl rfl ?_) | ((refine Qc ?_);first | (have z:=c9;refine QN rfl c9 ?_) | (refine J5 rfl ?_;intro h1 e1 c9;have x1:=x.trans e1) | refine QD (esz:=2) rfl rfl (by omega) ?_ | refine Yi rfl rA0 ?_ | (refine Qm rfl (k108 _ x1) ?_;rintro v h2 ⟨e2,k,w,xid,hk,hdk,hw,hr,rfl,bx⟩;have rs:=res k w hk hdk hw hr) | refine Qp rfl ?_ | refine Qx rfl rfl (by omega) ?_))
    have lenX:M≤((trM p k ((List.range (2 ^ k)).map (JA p (2 ^ k) n ((List.range (2 ^ k)).map (pwM p w)) es)) (XR p w)).map fun x=>x*XR p (2 ^ k)%p).length:=by
      rw [List.length_map,ZI p k _ _ (by simp)];omega
    simp only at rs
    generalize ((trM p k ((List.range (2 ^ k)).map (JA p (2 ^ k) n ((List.range (2 ^ k)).map (pwM p w)) es)) (XR p w)).map fun x=>x*XR p (2 ^ k)%p)=xs at *
    generalize 2 ^ k=N at *
    have hxp:∀ i,i < M→xs.getD i 0 < p:=fun i hi=>(rs i (by omega)).1
    have hxc:∀ i,i < M→Cg p ((xs.getD i 0:Nat):Int) (d i):=fun i hi=>(rs i (by omega)).2
    clear rs res k108
    have c92:=c9.ext e2
    have x2:=x1.trans e2
    have hcM:cM=1125899906842624:=rfl
    have bad:∀ zs:List Int,(∀ z∈zs,z.natAbs≤cM)→zs.length=M→(∃ (q:Nat),2*cM < q∧∀ j,j < M→Cg q (zs.getD j 0) (d j))→(∃ j,j < M∧ofM p (zs.getD j 0)≠xs.getD j 0)→∃ j,j < M∧cM < (d j).natAbs:=fun zs hz hzl ⟨q,hq,hc⟩ ⟨j,hj,hne⟩=>by
      refine ⟨j,hj,Nat.lt_of_not_le fun hle=>hne ?_⟩
      have hzj:(zs.getD j 0).natAbs≤cM:=by rw [List.getD_eq_getElem?_getD,List.getElem?_eq_getElem (by omega)];exact hz _ (List.getElem_mem _)
      have e:zs.getD j 0=d j:=(hc j hj).eq (by omega)
      exact QiX (hxp j hj) (by omega) (by rw [e];exact (hxc j hj).symm)
    have good:∀ zs:List Int,(∀ z∈zs,z.natAbs≤cM)→zs.length=M→(∀ j,j < M→ofM p (zs.getD j 0)=xs.getD j 0)→∀ j,j < M→Cg p (zs.getD j 0) (d j):=fun zs hz hzl h j hj=>by
      have hzj:(zs.getD j 0).natAbs≤cM:=by rw [List.getD_eq_getElem?_getD,List.getElem?_eq_getElem (by omega)];exact hz _ (List.getElem_mem _)
      have k:=QaS (p:=p) (x:=zs.getD j 0) (by omega)
      rw [h j hj] at k
      exact k.symm.trans (hxc j hj)
    rcases st with ⟨rfl,rfl⟩ | ⟨h0i,cid,zs,rfl,bz,hzl,hzc,hzg⟩
    · repeat' (first | refine Qh ?_ | refine Qb ?_ | refine Qt ?_ | refine Qf ?_ | ((refine Qg ?_);refine Qk rfl ?_) | ((refine Qe ?_);first | refine Q5 rfl rfl rfl rfl rfl rfl rfl rfl ?_ | refine Q6 rfl rfl rfl rfl rfl rfl rfl rfl rfl ?_ | refine XC rfl rfl rfl rfl rfl rfl rfl rfl rfl rfl rfl ?_) | ((refine Qc ?_);first | refine QA rfl rfl ?_ | (refine Qhx rfl rfl (by omega) ?_;intro h3 e3 b3) | refine Qp rfl ?_ | refine XF rfl rfl ?_))
      refine Q2 (I77a p g h.length h2.length xid M N xs (.sc esl) (.sc (.int .i64 ((M-1:Nat):Int))) (.sc (.slc id off (Yr c).length cap)) (.sc (.int .i64 ((Yr c).length:Nat))) (.sc (.int .i64 ((0:Nat):Int))) h2) M (R77a p g h.length h2.length xid M N xs (.sc esl) (.sc (.int .i64 ((M-1:Nat):Int))) (.sc (.slc id off (Yr c).length cap)) (.sc (.int .i64 ((Yr c).length:Nat))) (.sc (.int .i64 ((0:Nat):Int))) h2)
        ⟨0,Nat.zero_le _,rfl,e3,by rw [UC];exact b3,fun i hi=>by omega,rfl⟩ (QdE p g h.length h2.length xid M N xs _ _ _ _ _ h2 ⟨by omega,by omega⟩ lenX (by omega) hxp c92 bx (Nat.le_refl _)) ?_
      rintro ex E' h4 ⟨x4,⟨rfl,b4,hall,_,_,_,_,rfl⟩ | ⟨rfl,⟨j,hj,hne⟩,rfl⟩⟩
      · have hzl:((List.range M).map fun i=>lfM p (xs.getD i 0)).length=M:=by simp
        have hzc:∀ z∈(List.range M).map fun i=>lfM p (xs.getD i 0),z.natAbs≤cM:=fun z hz=>by
          obtain ⟨i,hi,rfl⟩:=List.mem_map.1 hz
          exact hall i (List.mem_range.1 hi)
        have hcg:∀ j,j < M→Cg p (((List.range M).map fun i=>lfM p (xs.getD i 0)).getD j 0) (d j):=fun j hj=>by
          rw [List.getD_eq_getElem?_getD,List.getElem?_map,List.getElem?_range hj]
          exact (Qeb (hxp j hj)).trans (hxc j hj)
        generalize (List.range M).map (fun i=>lfM p (xs.getD i 0))=zs at *
        have ic:IsInts h4 (.slc h2.length 0 M (some M)) zs:=by have:=b4.ints (c:=some M);rwa [hzl] at this
        repeat' (first | refine Qh ?_ | refine Qb ?_ | refine Qt ?_ | refine QE ?_ | refine Qf ?_ | ((refine Qe ?_);refine Xf rfl rfl rfl rfl rfl rfl rfl rfl rfl rfl ?_) | ((refine Qc ?_);first | refine QA rfl rfl ?_ | refine Qp rfl ?_))
        refine Q2 (Qhg p g h.length M N xid xs zs (.slc h2.length 0 M (some M)) (.sc esl) (.sc (.int .i64 ((M-1:Nat):Int))) (.sc (.slc id off (Yr c).length cap)) (.sc (.int .i64 ((Yr c).length:Nat))) (.sc (.int .i64 ((0:Nat):Int))) h4) M (R77b p g h.length M N xs zs (.slc h2.length 0 M (some M)) (.sc esl) (.sc (.int .i64 ((M-1:Nat):Int))) (.sc (.slc id off (Yr c).length cap)) (.sc (.int .i64 ((Yr c).length:Nat))) (.sc (.int .i64 ((0:Nat):Int))) h4)
          ⟨0,Nat.zero_le _,rfl,Ext.refl _,fun i hi=>by omega,rfl⟩ (VL p g h.length M N xid xs zs _ _ _ _ _ _ h4 ⟨by omega,by omega⟩ lenX (by omega) hxp hzl hzc (c92.ext x4) (bx.ext x4) ic) ?_
        rintro ex E' h5 ⟨x5,⟨rfl,heq,_,_,_,_,_,rfl⟩ | ⟨rfl,hex,rfl⟩⟩
        · repeat' (first | refine Qb ?_ | refine QC ?_ | refine QE ?_ | refine Qf ?_ | ((refine Qe ?_);refine QM rfl rfl rfl rfl rfl rfl ?_) | ((refine Qc ?_);first | refine Qp rfl ?_ | refine QK rfl rfl (by omega) ?_))
          refine Qu (j:=(Yr c).length-1) (by omega) ⟨1,_,by omega,rfl,(x2.trans x4).trans x5,.inr ⟨by omega,h2.length,zs,rfl,b4.ext x5,hzl,hzc,fun m y hm hy' j hj=>?_⟩,rfl⟩
          have:m=0:=by omega
          subst this
          rw [hy] at hy';cases hy'
          exact hcg j hj
        · repeat' (first | refine QF ?_ | refine Xg ?_)
          exact XN ⟨(x2.trans x4).trans x5,.inr ⟨rfl,bad zs hzc hzl ⟨p,by omega,hcg⟩ hex,rfl⟩⟩
      · repeat' (first | refine QF ?_ | refine Xg ?_)
        refine XN ⟨x2.trans x4,.inr ⟨rfl,⟨j,hj,Nat.lt_of_not_le fun hle=>hne ?_⟩,rfl⟩⟩
        rw [Qi4 (hxp j hj) (hxc j hj) (by omega)];exact hle
    · have bz2:=bz.ext (e1.trans e2)
      have ic:IsInts h2 (.slc cid 0 M (some M)) zs:=by have:=bz2.ints (c:=some M);rwa [hzl] at this
      repeat' (first | refine Qh ?_ | refine Qb ?_ | refine Qt ?_ | refine Qn ?_ | refine Qf ?_ | ((refine Qg ?_);refine Qj rfl ?_) | ((refine Qe ?_);first | refine Q6 rfl rfl rfl rfl rfl rfl rfl rfl rfl ?_ | refine Xf rfl rfl rfl rfl rfl rfl rfl rfl rfl rfl ?_) | ((refine Qc ?_);first | refine QA rfl rfl ?_ | refine Qp rfl ?_ | refine XF rfl rfl ?_))
      refine Q2 (Qhg p g h.length M N xid xs zs (.slc cid 0 M (some M)) (.sc esl) (.sc (.int .i64 ((M-1:Nat):Int))) (.sc (.slc id off (Yr c).length cap)) (.sc (.int .i64 ((Yr c).length:Nat))) (.sc (.int .i64 (i:Nat))) h2) M (R77b p g h.length M N xs zs (.slc cid 0 M (some M)) (.sc esl) (.sc (.int .i64 ((M-1:Nat):Int))) (.sc (.slc id off (Yr c).length cap)) (.sc (.int .i64 ((Yr c).length:Nat))) (.sc (.int .i64 (i:Nat))) h2)
        ⟨0,Nat.zero_le _,rfl,Ext.refl _,fun i hi=>by omega,rfl⟩ (VL p g h.length M N xid xs zs _ _ _ _ _ _ h2 ⟨by omega,by omega⟩ lenX (by omega) hxp hzl hzc c92 bx ic) ?_
      rintro ex E' h5 ⟨x5,⟨rfl,heq,_,_,_,_,_,rfl⟩ | ⟨rfl,hex,rfl⟩⟩
      · repeat' (first | refine Qb ?_ | refine QC ?_ | refine QE ?_ | refine Qf ?_ | ((refine Qe ?_);refine QM rfl rfl rfl rfl rfl rfl ?_) | ((refine Qc ?_);first | refine Qp rfl ?_ | refine QK rfl rfl (by omega) ?_))
        refine Qu (j:=(Yr c).length-(i+1)) (by omega) ⟨i+1,_,by omega,rfl,x2.trans x5,.inr ⟨by omega,cid,zs,rfl,bz2.ext x5,hzl,hzc,fun m y hm hy' j hj=>?_⟩,rfl⟩
        by_cases e:m=i
        · subst e
          rw [hy] at hy';cases hy'
          exact good zs hzc hzl heq j hj
        · exact hzg m y (by omega) hy' j hj
      · repeat' (first | refine QF ?_ | refine Xg ?_)
        obtain ⟨y0,hy0⟩:∃ y,(Yr c)[0]?=some y:=⟨_,List.getElem?_eq_getElem (by omega)⟩
        have f0:=Qb5 (List.mem_of_getElem? hy0)
        have:=f0.lo
        exact XN ⟨x2.trans x5,.inr ⟨rfl,bad zs hzc hzl ⟨y0.1,by omega,hzg 0 y0 h0i hy0⟩ hex,rfl⟩⟩
  · have:i=(Yr c).length:=by omega
    subst this
    repeat' (first | refine Qh ?_ | refine Qb ?_ | refine QP ?_ | refine QL ?_ | refine Qf ?_ | ((refine Qg ?_);refine Qj rfl ?_) | ((refine Qe ?_);refine Q7 rfl rfl rfl rfl rfl rfl rfl ?_) | ((refine Qc ?_);refine QH rfl rfl (by omega) ?_))
    exact QG ⟨x,.inl ⟨rfl,cs,st,_,_,_,_,_,rfl⟩⟩
end Go.Proofs.YtofknpknogfijaaGreatDoor

