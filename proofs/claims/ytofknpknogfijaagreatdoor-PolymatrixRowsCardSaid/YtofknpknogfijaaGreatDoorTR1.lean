/- The determinant modulo a prime: its contract. -/
import Derived.Test.YtofknpknogfijaaGreatDoorFD2
import Derived.Test.YtofknpknogfijaaGreatDoorAwake
namespace Go.Proofs.YtofknpknogfijaaGreatDoor
open Go.Ab
set_option linter.all false
set_option maxHeartbeats 16000000
set_option maxRecDepth 20000
attribute [local irreducible] Ql wA Xr Xp QA Qp QW QY
variable [HB]
section
variable {FT:FuncId→Option AFun} {HK:FuncId→Option Xj} {E:Env} {h:Qa} {K:Env→Qa→Prop} {d:Option Nat} {r:List AOp} {x:AO}
theorem Qgu {t:Nat} {z v:SV} (hx:ev (Qr (some t) (some (.sc (.ptr h.length 0))) E) x=some (.sc v)) (hw:∀ h1,Ext h h1→Cel1 h1 h.length v→Ql FT HK r (Qr (some t) (some (.sc (.ptr h.length 0))) E) h1 K) :
  Ql FT HK (⟨some t,.new [z],none⟩::⟨none,.st 1 (.t t) x,none⟩::r) E h K :=
 ZY fun h1 e1 c1=>qo (by simp [evS,ev,Qr,Env.get]) hx c1 fun h2 e2 c2=>hw h2 (Chg.toExt ⟨by rw [e2];simpa using e1.len,fun j hj _=>by
  rw [e2,Gj (by omega)]
  obtain ⟨t,rfl⟩:=e1
  rw [Gk hj]⟩) c2
end
theorem Qb8 {cs:List SV} {i:Nat} {v:SV} (h:i < cs.length):Xh cs i [v]=cs.set i v:=by
 unfold Xh
 apply Gr
 intro j
 rw [GH]
 rcases Hs j i with h1 | h1 | h1
 ·rw [if_neg (by omega),GI,Gk (by simp;omega)]
  simp [GJ,h1]
 ·subst h1
  rw [if_pos rfl,if_pos h,GI,Gg (by simp;omega)]
  simp [G2 (Hx h)]
 ·rw [if_neg (by omega),Gg (by simp;omega)]
  simp only [GK,Hn,GA,GV,GL]
  rw [G2 (Hx h)]
  congr 1;omega
theorem wr1 {h:Qa} {q i:Nat} {cs:List SV} {z:ESz} {v:SV} (hb:h[q]?=some (.cells cs true z)) (hi:i < cs.length):Xx h q (0+i*1) [v]=some (h.set q (.cells (cs.set i v) true z)):=by
 simp only [Xx,hb,GA,GV]
 rw [if_pos (by omega),G0,G3,Qb8 hi]
theorem Mx.swap {h:Qa} {q n:Nat} {pre a' c:List X2} {x b:X2} (m:Mx h q n (pre++(x::a')++b::c)) :
  Mx ((h.set q (.cells (((pre++(x::a')++b::c).map (Yf n)).set (pre.length+1+a'.length) (Yf n x)) true 1)).set q (.cells ((((pre++(x::a')++b::c).map (Yf n)).set (pre.length+1+a'.length) (Yf n x)).set pre.length (Yf n b)) true 1)) q n (pre++b::(a'++x::c)):=by
 have hq:q < h.length:=(Gb.1 m.top).1
 have perm:∀ y,y∈pre++b::(a'++x::c)↔y∈pre++(x::a')++b::c:=fun y=>by
  simp only [Gv,GN]
  constructor
  ·rintro (h | h | h | h | h) <;> simp [h]
  ·rintro ((h | h | h) | h | h) <;> simp [h]
 refine ⟨?_,?_,?_,fun y hy=>?_⟩
 ·rw [GC (by simpa using hq)]
  congr 2
  have e1:(pre++(x::a')++b::c).map (Yf n)=pre.map (Yf n)++(Yf n x::(a'.map (Yf n)++Yf n b::c.map (Yf n))):=by simp
  rw [e1,G7 _ _ (by simp;omega),Gt,show pre.length+1+a'.length-pre.length=a'.length+1 by omega,List.set_cons_succ,G7 _ _ (by simp),Gt,Hg,List.set_cons_zero,
   G7 _ _ (by simp),Gt,Hg,List.set_cons_zero]
  simp
 ·have p1:((pre++(x::a')++b::c).map (·.1)).Perm ((pre++b::(a'++x::c)).map (·.1)):=by
   refine List.Perm.map _ ?_
   rw [GI]
   refine List.Perm.append_left _ ?_
   refine ((List.perm_middle (a:=b) (l₁:=x::a') (l₂:=c))).trans (List.Perm.cons _ ?_)
   exact (List.perm_middle (a:=x) (l₁:=a') (l₂:=c)).symm
  exact p1.nodup_iff.1 m.nd
 ·intro hm
  refine m.qn ?_
  obtain ⟨y,hy,e⟩:=Gu.1 hm
  exact Gu.2 ⟨y,(perm y).1 hy,e⟩
 ·have:=m.row y ((perm y).1 hy)
  have hne:q≠y.1:=fun e=>m.qn (by rw [e];exact Gu.2 ⟨y,(perm y).1 hy,rfl⟩)
  exact (this.other hne _).other hne _
def acL:AC→AC
 | .seq a _=>a
 | c=>c
def acR:AC→AC
 | .seq _ b=>b
 | c=>c
def acB:AC→AC
 | .block _ a=>a
 | c=>c
def QiA:AC:=acR (acR (acR (acR (acR (acR (acB (acL (acR (acR YQ)))))))))
theorem QcU (p g q q2 q6 q8 n k d:Nat) (pre rest:List X2) (pv:X2) (h:Qa) (hp:2≤p∧p < 9223372036854775808) (hn:n < 1000000) (hk:k=pre.length) (hl:rest.length+(k+1)=n) (hd:d < p)
  (M:Mx h q n (pre++pv::rest)) (ro:zh p n (pre++pv::rest)) (c2:Cel h q2 (.int .u64 (p:Nat)) (.int .u64 (g:Nat))) (c6:Cel1 h q6 (.int .i64 (k:Nat))) (c8:Cel1 h q8 (.slc pv.1 0 n (some n))) (ne:∀ m∈pre++pv::rest,m.1≠q2∧m.1≠q6∧m.1≠q8)
  (K:Ex→Env→Qa→Prop) (hK:∀ h',S130 p g q q2 q6 q8 n k pre [] pv (rest.map (elM p k (XU p (pv.2.getD k 0)) pv)) h h'→∀ a b c e f g' l,K .nm [(1,some (.sc (.slc q 0 n (some n)))),(2,some (.sc (.ptr q2 0))),(5,some (u (d*pv.2.getD k 0%p))),(6,a),(9,b),(10,c),(14,some (.sc (.int .i64 (n:Nat)))),(15,some (.sc (.int .i64 (k:Nat)))),(80,e),(81,f),(82,g'),(83,l)] h') :
  wA FT HKt QiA [(1,some (.sc (.slc q 0 n (some n)))),(2,some (.sc (.ptr q2 0))),(5,some (u d)),(6,some (.sc (.ptr q6 0))),(8,some (.sc (.ptr q8 0))),(14,some (.sc (.int .i64 (n:Nat)))),(15,some (.sc (.int .i64 (k:Nat))))] h K:=by
 have hpm:pv∈pre++pv::rest:=by simp
 have rp:=ro pv hpm
 have rv:=(M.row pv hpm).rd (i:=k) (by rw [rp.1];omega)
 have hvk:pv.2.getD k 0 < p:=by rw [Ge,Ga (by rw [rp.1];omega)];exact rp.2 _ (GD _)
 have k98:=fun H=>YY H p g d (pv.2.getD k 0) ⟨by omega,by omega⟩ (by omega) (by omega)
 have k121:=fun H=>Uc H p g (pv.2.getD k 0) ⟨hp.1,by omega⟩ (by omega)
 have hiv:XU p (pv.2.getD k 0) < p:=by
  unfold XU
  exact Zy 64 _ _ _ (by omega)
 generalize XU p (pv.2.getD k 0)=iv at *
 generalize pv.2.getD k 0=v at *
 unfold QiA YQ
 simp only [acL,acR,acB]
 have hsl:Jl ((k:Int)+1).toNat ((n:Nat):Int).toNat (.slc q 0 n (some n))=some (.slc q (0+(k+1)) (n-(k+1)) (some (n-(k+1)))):=by
  simp only [Jl,Gl]
  rw [if_pos (by omega)]
  have e1:((k:Int)+1).toNat=k+1:=by omega
  have e2:((n:Nat):Int).toNat=n:=by omega
  rw [e1,e2]
 have e0:=Ext.refl h
 repeat' (first | refine Qg ?_ | refine Qb ?_ | refine Qv ?_ | refine Qf ?_ | refine Q2 ?_ | refine Xk ?_ | refine Xl ?_ | ((refine Qe ?_);first | refine Q1 ?_ | refine Xw ?_ | refine Xn rfl rfl rfl rfl rfl rfl rfl ?_ | refine Xa rfl rfl rfl rfl rfl rfl rfl rfl ?_ | refine X6 rfl rfl rfl rfl rfl rfl rfl rfl rfl rfl rfl ?_) | ((refine Qc ?_);first | refine Xu rfl (c6.ext e0).at rfl ?_ | refine Xu rfl (c8.ext e0).at rfl ?_ | (have z:=x1;refine QI rfl (c2.ext x1) ?_) | refine QI rfl c2 ?_ | refine Qw (esz:=1) rfl rfl (by omega) ?_ | refine Q4 rfl (QH e0 rv) ?_ | (refine Qi rfl (k98 _) ?_;rintro v1 h1 ⟨e1,rfl⟩;have x1:=e1;replace e0:=e1) | (refine Qi rfl (k121 _) ?_;rintro v2 h2 ⟨e2,rfl⟩;replace e0:=x1.trans e2) | refine Ql6 rfl rfl rfl (by omega) hsl ?_ | refine Qo rfl ?_ | refine QK rfl rfl (by omega) ?_ | refine Qs rfl rfl ?_ | refine Xt rfl rfl ?_))
 refine Q9 (Qh5 p g q q2 q6 q8 n k (d*v%p) iv pre rest pv h) rest.length (QkS p g q q2 q6 q8 n k (d*v%p) iv pre rest pv h) ⟨0,Gs _,rfl,⟨(Chg.refl h).ext e0,M.ext e0,ro,c2.ext e0,c6.ext e0,c8.ext e0,ne⟩,rfl⟩ (Qek p g q q2 q6 q8 n k (d*v%p) iv pre rest pv h ⟨by omega,hp.2⟩ hn hk hl hiv) ?_
 rintro ex E' h3 ⟨rfl,s3,a,b,c,e,f,g',l,rfl⟩
 exact QP (hK h3 s3 a b c e f g' l)
structure D130 (p g q q2 n k d X:Nat) (ms0 ms:List X2) (h0 h:Qa):Prop where
 c:Chg (fun j=>j=q∨∃ m∈ms0,m.1=j) h0 h
 M:Mx h q n ms
 ro:zh p n ms
 c2:Cel h q2 (.int .u64 (p:Nat)) (.int .u64 (g:Nat))
 ids:∀ m∈ms,∃ m0∈ms0,m0.1=m.1
 l:ms.length=n
 dl:d < p
 X:qH p (XU p) (n-k) k ((ms.drop k).map (·.2)) d=X
 ne:∀ m∈ms0,m.1≠q2
 nq:q≠q2
def I130 (p g q q2 n X:Nat) (ms0:List X2) (h0:Qa) (m:Nat) (E:Env) (h:Qa):Prop:=∃ k d ms,k≤n∧m=n-k∧D130 p g q q2 n k d X ms0 ms h0 h ∧
 E.keep [1,2,5,14,15]=[(1,some (.sc (.slc q 0 n (some n)))),(2,some (.sc (.ptr q2 0))),(5,some (u d)),(14,some (.sc (.int .i64 (n:Nat)))),(15,some (.sc (.int .i64 (k:Nat))))]
def R130 (q n X:Nat) (ms0:List X2) (h0:Qa) (ex:Ex) (E:Env) (h:Qa):Prop:=Chg (fun j=>j=q∨∃ m∈ms0,m.1=j) h0 h ∧
 ((ex=.ex 0∧∃ a b c e f,E=[(1,a),(2,b),(5,some (u X)),(14,c),(15,e),(16,f)])∨(ex=.rt∧E=[(4,some (u X))]))
theorem D130.next {p g q q2 q6 q8 n k d X:Nat} {ms0 ms:List X2} {pre rest:List X2} {pv:X2} {h0 h H h':Qa} {a c:List (List Nat)} {b:List Nat} (D:D130 p g q q2 n k d X ms0 ms h0 h) (hk:k=pre.length) (hkn:k < n) (hl:rest.length+(k+1)=n) (hc:Chg (fun j=>j=q∨∃ m∈ms0,m.1=j) h0 H)
  (hids:∀ m∈pre++pv::rest,∃ m0∈ms0,m0.1=m.1) (hpk:pick k ((ms.drop k).map (·.2))=some (a,b,c)) (hb:b=pv.2) (ho:Yb a c=rest.map (·.2)) (s:S130 p g q q2 q6 q8 n k pre [] pv (rest.map (elM p k (XU p (pv.2.getD k 0)) pv)) H h') (hp:0 < p) :
  D130 p g q q2 n (k+1) ((if a=[] then d else sbM p 0 d)*pv.2.getD k 0%p) X ms0 (pre++pv::rest.map (elM p k (XU p (pv.2.getD k 0)) pv)) h0 h':=by
 have e0:pre++pv::(rest.map (elM p k (XU p (pv.2.getD k 0)) pv)++[])=pre++pv::rest.map (elM p k (XU p (pv.2.getD k 0)) pv):=by simp
 have hids':∀ m∈pre++pv::rest.map (elM p k (XU p (pv.2.getD k 0)) pv),∃ m0∈ms0,m0.1=m.1:=fun m hm=>by
  rcases Gv.1 hm with hm | hm
  ·exact hids m (by simp [hm])
  ·rcases GN.1 hm with rfl | hm
   ·exact hids m (by simp)
   ·obtain ⟨y,hy,rfl⟩:=Gu.1 hm
    exact hids y (by simp [hy])
 refine ⟨hc.trans (s.c.mono fun j _ hj=>?_),e0 ▸ s.M,e0 ▸ s.ro,s.c2,hids',by simp;omega,GU _ hp,?_,D.ne,D.nq⟩
 ·rcases hj with hj | ⟨m,hm,rfl⟩
  ·exact .inl hj
  ·rw [e0] at hm
   obtain ⟨m0,h1,h2⟩:=hids' m hm
   exact .inr ⟨m0,h1,h2⟩
 ·have hX:=D.X
  obtain ⟨t,ht⟩:∃ t,n-k=t+1:=⟨n-k-1,by omega⟩
  rw [ht] at hX
  unfold qH at hX
  rw [hpk] at hX
  simp only at hX
  rw [← hX,hb,ho,show n-(k+1)=t by omega]
  have ed:(pre++pv::rest.map (elM p k (XU p (pv.2.getD k 0)) pv)).drop (k+1)=rest.map (elM p k (XU p (pv.2.getD k 0)) pv):=by
   rw [show pre++pv::rest.map (elM p k (XU p (pv.2.getD k 0)) pv)=(pre++[pv])++rest.map (elM p k (XU p (pv.2.getD k 0)) pv) by simp]
   exact List.drop_left' (by simp [hk])
  rw [ed,G9,G9]
  rfl
theorem yd {k:Nat}:∀ {rs:List (List Nat)},(∀ r∈rs,r.getD k 0=0)→pick k rs=none
 | [],_=>rfl
 | r::rs,h=>by
  unfold pick
  rw [if_neg (by rw [h r (.head _)];simp),yd fun s hs=>h s (.tail _ hs)]
  rfl
theorem yc {k:Nat} {b:List Nat} {c:List (List Nat)} (hb:b.getD k 0≠0):∀ {a:List (List Nat)},(∀ r∈a,r.getD k 0=0)→pick k (a++b::c)=some (a,b,c)
 | [],_=>by show pick k (b::c)=_;unfold pick;rw [if_pos hb]
 | r::a,h=>by
  show pick k (r::(a++b::c))=_
  unfold pick
  rw [if_neg (by rw [h r (.head _)];simp),yc hb fun s hs=>h s (.tail _ hs)]
  rfl
def w130 (t:AC):AC:=.seq (acL YQ) (.seq (acL (acR YQ)) (.seq (.block 1 (.seq (acL (acB (acL (acR (acR YQ))))) (.seq (acL (acR (acB (acL (acR (acR YQ)))))) (.seq (acL (acR (acR (acB (acL (acR (acR YQ))))))) (.seq (acL (acR (acR (acR (acB (acL (acR (acR YQ)))))))) (.seq (acL (acR (acR (acR (acR (acB (acL (acR (acR YQ)))))))))
 (.seq (acL (acR (acR (acR (acR (acR (acB (acL (acR (acR YQ)))))))))) t))))))) (acR (acR (acR YQ)))))
theorem Qiv:YQ=w130 QiA:=rfl
attribute [local irreducible] QiA
theorem QfO (p g q q2 n X:Nat) (ms0:List X2) (h0:Qa) (hp:2≤p∧p < 9223372036854775808) (hn:n < 1000000) (m:Nat) (E:Env) (h:Qa) (hI:I130 p g q q2 n X ms0 h0 m E h) :
  wA FT HKt YQ (E.keep [1,2,5,14,15]) h (Qp (I130 p g q q2 n X ms0 h0) m (R130 q n X ms0 h0)):=by
 obtain ⟨k,d,ms,hkn,rfl,D,hE⟩:=hI
 rw [hE]
 rw [Qiv]
 unfold w130
 simp only [acL,acR,acB,YQ]
 by_cases hk:k < n
 ·repeat' (first | refine Qg ?_ | refine Qb ?_ | refine Qv ?_ | refine Qn ?_ | refine Qf ?_ | ((refine Qh ?_);refine Qj rfl ?_) | ((refine Qe ?_);first | refine QT rfl rfl rfl rfl rfl rfl ?_ | refine Xn rfl rfl rfl rfl rfl rfl rfl ?_) | ((refine Qc ?_);first | (refine Qgu rfl ?_;intro h1 e1 c6) | refine Xu rfl c6.at rfl ?_ | refine Qo rfl ?_ | refine Qy rfl rfl (by omega) ?_))
  have M1:=D.M.ext e1
  have hqh:q < h.length:=(Gb.1 D.M.top).1
  refine Q9 (Qh6 p g q q2 h.length n k d ms h1) (n-k) (QkT p g q q2 h.length n k d ms h1) ⟨k,Gf _,hkn,rfl,rfl,fun i x a b=>by omega,rfl⟩ (Qel p g q q2 h.length n k d ms h1 hn hk D.l M1 D.ro c6) ?_
  rintro ex E' h2 ⟨rfl,eh,j,hkj,hjn,hz,hnz,a,rfl⟩
  subst eh
  have hX:=D.X
  obtain ⟨t,ht⟩:∃ t,n-k=t+1:=⟨n-k-1,by omega⟩
  by_cases hj:j=n
  ·subst hj
   have hX0:X=0:=by
    rw [ht] at hX
    unfold qH at hX
    rw [yd fun r hr=>?_] at hX
    ·exact hX.symm
    ·obtain ⟨y,hy,rfl⟩:=Gu.1 hr
     obtain ⟨i,hi⟩:=Hp.1 hy
     rw [GL] at hi
     have:=(Gb.1 hi).1
     exact hz (k+i) y (by omega) (by rw [D.l] at this;omega) hi
   repeat' (first | refine Qg ?_ | refine Qb ?_ | refine QD ?_ | refine QP ?_ | refine Xs ?_ | refine Qt ?_ | refine Qf ?_ | ((refine Qh ?_);refine Qj rfl ?_) | ((refine Qe ?_);first | refine Qq rfl ?_ | refine Xa rfl rfl rfl rfl rfl rfl rfl rfl ?_) | ((refine Qc ?_);first | refine Qo rfl ?_ | refine XD rfl rfl (by omega) ?_ | refine Qs rfl rfl ?_))
   exact XI ⟨D.c.ext e1,.inr ⟨rfl,by rw [hX0];rfl⟩⟩
  ·obtain ⟨pv,hpv⟩:∃ x,ms[j]?=some x:=⟨_,Ga (by rw [D.l];omega)⟩
   have hms:ms=ms.take k++(ms.drop k).take (j-k)++pv::ms.drop (j+1):=by
    conv=>lhs;rw [← List.take_append_drop k ms,← List.take_append_drop (j-k) (ms.drop k)]
    rw [GI]
    congr 2
    rw [List.drop_drop,show k+(j-k)=j by omega,GS (by rw [D.l];omega)]
    congr 1
    rw [Ga (by rw [D.l];omega)] at hpv
    exact Option.some.inj hpv
   have hz':∀ r∈((ms.drop k).take (j-k)).map (·.2),r.getD k 0=0:=fun r hr=>by
    obtain ⟨y,hy,rfl⟩:=Gu.1 hr
    obtain ⟨i,hi⟩:=Hp.1 hy
    have hlt:i < j-k:=by
     rcases Gw i (j-k) with h | h
     ·exact h
     ·rw [Gp (by simp;omega)] at hi;cases hi
    rw [List.getElem?_take_of_lt hlt,GL] at hi
    exact hz (k+i) y (by omega) (by omega) hi
   have hpk:pick k ((ms.drop k).map (·.2))=some (((ms.drop k).take (j-k)).map (·.2),pv.2,(ms.drop (j+1)).map (·.2)):=by
    rw [← yc (hnz pv hpv) hz']
    congr 1
    conv=>lhs;rw [hms]
    rw [GI,List.drop_left' (by simp;rw [D.l];omega)]
    simp
   have lpre:k=(ms.take k).length:=by simp;rw [D.l];omega
   have la:((ms.drop k).take (j-k)).length=j-k:=by simp;rw [D.l];omega
   have lc:(ms.drop (j+1)).length+(j+1)=n:=by simp;rw [D.l];omega
   have ro:=D.ro
   have hids:=D.ids
   have lt:=fun y (hy:y∈ms)=>(D.M.row y hy).lt
   have n2:∀ y∈ms,y.1≠q2:=fun y hy=>by
    obtain ⟨m0,h3,h4⟩:=hids y hy
    rw [← h4];exact D.ne m0 h3
   have hdl:=D.dl
   have c2:=D.c2.ext e1
   have hc1:=D.c.ext e1
   generalize hpre:ms.take k=pre at *
   generalize haM:(ms.drop k).take (j-k)=aM at *
   generalize hcM:ms.drop (j+1)=cM at *
   cases aM with
   | nil =>
    have:j=k:=by simp at la;omega
    subst this
    rw [hms] at M1 ro lt n2 hids
    simp only [Hc] at M1 ro lt n2 hids
    have r1:=M1.rd (i:=j) (x:=pv) (by rw [lpre,Gg (Gf _)];simp)
    simp only [Yf] at r1
    repeat' (first | refine Qg ?_ | refine Qb ?_ | refine QP ?_ | refine Qn ?_ | refine Qf ?_ | ((refine Qh ?_);refine Qk rfl ?_) | ((refine Qe ?_);first | refine Xn rfl rfl rfl rfl rfl rfl rfl ?_ | refine Xa rfl rfl rfl rfl rfl rfl rfl rfl ?_) | ((refine Qc ?_);first | (have z:=c6;refine Qgu rfl ?_;intro h3 e3 c8) | refine Xu rfl c6.at rfl ?_ | refine Qw (esz:=1) rfl rfl (by omega) ?_ | refine Q4 rfl r1 ?_ | refine Qo rfl ?_ | refine Xf rfl rfl (by omega) ?_ | refine XS rfl rfl (by omega) ?_ | refine Qs rfl rfl ?_))
    refine QcU p g q q2 h.length h2.length n j d pre cM pv h3 hp hn lpre (by omega) hdl (M1.ext e3) ro (c2.ext e3) (c6.ext e3) c8 (fun y hy=>⟨n2 y hy,by have:=lt y hy;omega,by have:=lt y hy;have:=e1.len;omega⟩) _ ?_
    intro h' s a1 a2 a3 a4 a5 a6 a7
    have nx:=D.next lpre hk (by omega) (hc1.ext e3) hids hpk rfl rfl s (by omega)
    rw [List.map_nil,if_pos rfl] at nx
    repeat' (first | refine Qb ?_ | refine QJ ?_ | refine Qf ?_ | ((refine Qe ?_);refine QU rfl rfl rfl rfl rfl ?_) | ((refine Qc ?_);first | refine Qo rfl ?_ | refine QK rfl rfl (by omega) ?_))
    exact QB (j:=n-(j+1)) (by omega) ⟨j+1,_,_,by omega,rfl,nx,rfl⟩
   | cons x a' =>
    have hjl:j=pre.length+1+a'.length:=by simp at la;omega
    subst lpre
    subst hjl
    rw [hms] at M1 ro lt n2 hids
    have perm:∀ y,y∈pre++pv::(a'++x::cM)→y∈pre++(x::a')++pv::cM:=fun y h=>by
     simp only [Gv,GN] at h ⊢
     rcases h with h | h | h | h | h <;> simp [h]
    have rk:=M1.rd (i:=pre.length) (x:=x) (by rw [GI,Gg (Gf _)];simp)
    have rj:=M1.rd (i:=pre.length+1+a'.length) (x:=pv) (by rw [Gg (by simp;omega),show pre.length+1+a'.length-(pre++x::a').length=0 by simp;omega];rfl)
    have w1:=wr1 (i:=pre.length+1+a'.length) (v:=Yf n x) M1.top (by simp;omega)
    have M2:=M1.swap
    obtain ⟨H1,eH1⟩:∃ H:Qa,H=h2.set q (.cells (((pre++(x::a')++pv::cM).map (Yf n)).set (pre.length+1+a'.length) (Yf n x)) true 1):=⟨_,rfl⟩
    rw [← eH1] at w1 M2
    have hq2:q < h2.length:=by have:=e1.len;omega
    have t1:H1[q]?=some (.cells (((pre++(x::a')++pv::cM).map (Yf n)).set (pre.length+1+a'.length) (Yf n x)) true 1):=by rw [eH1,GC hq2]
    have w2:=wr1 (i:=pre.length) (v:=Yf n pv) t1 (by simp)
    obtain ⟨H2,eH2⟩:∃ H:Qa,H=H1.set q (.cells ((((pre++(x::a')++pv::cM).map (Yf n)).set (pre.length+1+a'.length) (Yf n x)).set pre.length (Yf n pv)) true 1):=⟨_,rfl⟩
    rw [← eH2] at w2 M2
    have hS:∀ id∈[h.length],H1[id]?=h2[id]?:=fun id hid=>by
     rw [He] at hid;subst hid
     rw [eH1];exact Gj (by omega)
    have c6':Cel1 H2 h.length (.int .i64 (pre.length:Nat)):=by rw [eH2,eH1];exact Cel1.other (Cel1.other c6 (by omega) _) (by omega) _
    have c2':Cel H2 q2 (.int .u64 (p:Nat)) (.int .u64 (g:Nat)):=by rw [eH2,eH1];exact Cel.other (Cel.other c2 D.nq _) D.nq _
    have hc2:Chg (fun j=>j=q∨∃ m,m∈ms0∧m.1=j) h0 H2:=by rw [eH2,eH1];exact (hc1.set (.inl rfl) _).set (.inl rfl) _
    have lH:H2.length=h2.length:=by rw [eH2,eH1];simp
    have r2:=M2.rd (i:=pre.length) (x:=pv) (by rw [Gg (Gf _)];simp)
    have k122:=fun H=>Ub H p g 0 d hp.2 (by omega) (Hx hdl)
    have c1h:Cel1 h2 h.length (.int .i64 (pre.length:Nat)):=c6
    simp only [Yf] at rk rj r2
    clear eH1 eH2 t1 M1
    repeat' (first | refine Qg ?_ | refine Qb ?_ | refine QP ?_ | refine Qn ?_ | refine Qf ?_ | refine Qla [h.length] ?_ | refine s_one (by intro id hid;cases hid <;> exact He.2 rfl) ?_ | refine s_nil ?_ | ((refine Qh ?_);first | refine Qj rfl ?_ | refine Qk rfl ?_) | ((refine Qe ?_);first | refine Qlr ?_ | refine QT rfl rfl rfl rfl rfl rfl ?_ | refine Xn rfl rfl rfl rfl rfl rfl rfl ?_ | refine Xa rfl rfl rfl rfl rfl rfl rfl rfl ?_) | ((refine Qc ?_);first | (have z:=e3;refine Qgu rfl ?_;intro h4 e4 c8) | refine Xu rfl c6.at rfl ?_ | refine Xu rfl (c6'.ext e3).at rfl ?_ | refine QI rfl c2' ?_ | refine Qw (esz:=1) rfl rfl (by omega) ?_ | refine Q4 rfl rk ?_ | refine Q4 rfl rj ?_ | refine Q4 rfl (QH e3 r2) ?_ | refine ZX rfl rfl w1 (s_ord hS ?_) | refine ZX rfl rfl w2 (Qlz rfl ?_) | (refine Qi rfl (k122 _) ?_;rintro v h3 ⟨e3,rfl⟩) | refine Qo rfl ?_ | refine Xf rfl rfl (by omega) ?_ | refine Yg rfl rfl (by omega) ?_ | refine Qs rfl rfl ?_))
    refine QcU p g q q2 h.length h3.length n pre.length (sbM p 0 d) pre (a'++x::cM) pv h4 hp hn rfl (by simp;omega) (yQ (by omega)) ((M2.ext e3).ext e4) (fun y hy=>ro y (perm y hy)) ((c2'.ext e3).ext e4) ((c6'.ext e3).ext e4) c8 (fun y hy=>⟨n2 y (perm y hy),by have:=lt y (perm y hy);omega,by have:=lt y (perm y hy);have:=e1.len;have:=e3.len;omega⟩) _ ?_
    intro h' s a1 a2 a3 a4 a5 a6 a7
    have nx:=D.next rfl hk (by simp;omega) ((hc2.ext e3).ext e4) (fun y hy=>hids y (perm y hy)) hpk rfl (by simp [Yb]) s (by omega)
    rw [if_neg (by simp)] at nx
    repeat' (first | refine Qb ?_ | refine QJ ?_ | refine Qf ?_ | ((refine Qe ?_);refine QU rfl rfl rfl rfl rfl ?_) | ((refine Qc ?_);first | refine Qo rfl ?_ | refine QK rfl rfl (by omega) ?_))
    exact QB (j:=n-(pre.length+1)) (by omega) ⟨pre.length+1,_,_,by omega,rfl,nx,rfl⟩
 ·have:k=n:=by omega
  subst this
  repeat' (first | refine Qg ?_ | refine Qb ?_ | refine Q0 ?_ | refine QX ?_ | refine Qf ?_ | ((refine Qh ?_);refine Qk rfl ?_) | ((refine Qe ?_);refine QT rfl rfl rfl rfl rfl rfl ?_) | ((refine Qc ?_);refine QM rfl rfl (by omega) ?_))
  have hX:=D.X
  rw [Hg] at hX
  have hX:d=X:=hX
  rw [hX]
  exact QN ⟨D.c,.inl ⟨rfl,_,_,_,_,_,rfl⟩⟩
theorem QjJ (p g q n:Nat) (ms:List X2) (h0:Qa) (hp:2≤p∧p < 9223372036854775808) (hn:n < 1000000) (M:Mx h0 q n ms) (ro:zh p n ms) (hl:ms.length=n) :
  ∃ r h',Cal FT HKt 130 [fld p g,.sc (.slc q 0 n (some n))] h0 r h'∧Chg (fun j=>j=q∨∃ m∈ms,m.1=j) h0 h'∧r=u (qH p (XU p) n 0 (ms.map (·.2)) 1):=by
 refine Cal.of (F:=a130) rfl rfl rfl ?_
 have hq:q < h0.length:=(Gb.1 M.top).1
 have lt:=fun y (hy:y∈ms)=>(M.row y hy).lt
 repeat' (first | refine Qg ?_ | refine Qb ?_ | refine Qv ?_ | refine Qf ?_ | ((refine Qe ?_);first | refine QE rfl rfl ?_ | refine Qu rfl rfl rfl ?_ | refine QU rfl rfl rfl rfl rfl ?_) | ((refine Qc ?_);first | (refine Qx rfl ?_;intro h1 e1 c1) | refine Qo rfl ?_ | refine Qs rfl rfl ?_))
 refine Q9 (I130 p g q h0.length n (qH p (XU p) n 0 (ms.map (·.2)) 1) ms h0) n (R130 q n (qH p (XU p) n 0 (ms.map (·.2)) 1) ms h0) ⟨0,1,ms,Gs _,rfl,⟨(Chg.refl h0).ext e1,M.ext e1,ro,c1,fun m hm=>⟨m,hm,rfl⟩,hl,by omega,rfl,fun m hm=>by have:=lt m hm;omega,by omega⟩,rfl⟩ (QfO p g q h0.length n _ ms h0 hp hn) ?_
 rintro ex E' h2 ⟨c2,⟨rfl,_,_,_,_,_,rfl⟩ | ⟨rfl,rfl⟩⟩
 ·repeat' (first | refine Qg ?_ | refine Qb ?_ | refine QP ?_ | refine Qt ?_ | refine Qf ?_ | ((refine Qe ?_);refine Qq rfl ?_) | ((refine Qc ?_);refine Qo rfl ?_))
  exact ⟨.inr rfl,c2,rfl⟩
 ·repeat' (first | refine QD ?_ | refine Xs ?_)
  exact ⟨.inr rfl,c2,rfl⟩
end Go.Proofs.YtofknpknogfijaaGreatDoor
namespace Go.Proofs.YtofknpknogfijaaGreatDoor
open Go.Ab
set_option linter.all false
set_option maxHeartbeats 16000000
set_option maxRecDepth 20000
attribute [local irreducible] Ql wA Xr Xp QA Qp QW QY
variable [HB]
theorem Ext.setF {h0 h:Qa} {id:Nat} (x:Ext h0 h) (hf:h0.length≤id) (b:Blk):Ext h0 (h.set id b) :=
 Chg.toExt ⟨by simpa using x.len,fun j hj _=>by
  rw [Gj (by omega)]
  obtain ⟨t,rfl⟩:=x
  rw [Gk hj]⟩
def fill (f:Nat→Nat) (n i:Nat):List Nat:=(List.range n).map fun j=>if j < i then f j else 0
theorem YG {f:Nat→Nat} {n i:Nat}:(fill f n i).length=n:=by simp [fill]
theorem Y3 {f:Nat→Nat} {n:Nat}:fill f n 0=List.replicate n 0:=by
 unfold fill
 apply Gr
 intro j
 rw [Gi,Hu]
 rcases Gw j n with h | h
 ·rw [Gq h,if_pos h];simp
 ·rw [Gp (by simpa using h),if_neg (by omega)];rfl
theorem Ze {f:Nat→Nat} {n i:Nat} (h:i < n):(fill f n i).set i (f i)=fill f n (i+1):=by
 unfold fill
 apply Gr
 intro j
 rw [GH,Gi,Gi,Gt,List.length_range]
 by_cases e:i=j
 ·subst e
  rw [if_pos rfl,if_pos h,Gq h];simp
 ·rw [if_neg e]
  rcases Gw j n with hj | hj
  ·rw [Gq hj]
   simp only [Gl]
   by_cases h1:j < i
   ·rw [if_pos h1,if_pos (by omega)]
   ·rw [if_neg h1,if_neg (by omega)]
  ·rw [Gp (by simpa using hj)];rfl
theorem Y4 {f:Nat→Nat} {n:Nat}:fill f n n=(List.range n).map f:=by
 unfold fill
 refine GO fun j hj=>?_
 rw [if_pos (Hk.1 hj)]
def y4 (f g:Nat→Nat) (n i:Nat):List Nat:=fill f n i++fill g n i
theorem QeY {f g:Nat→Nat} {n i:Nat} (h:i < n) (x y:Nat) (hx:x=f i) (hy:y=g i):((y4 f g n i).set i x).set (i+n) y=y4 f g n (i+1):=by
 unfold y4
 rw [List.set_append_left _ _ (by rw [YG];exact h),hx,Ze h,G7 _ _ (by rw [YG];omega),YG,show i+n-n=i by omega,hy,Ze h]
theorem QgK {f g:Nat→Nat} {n i:Nat}:(y4 f g n i).length=2*n:=by simp [y4,YG];omega
section
variable {FT:FuncId→Option AFun} {HK:FuncId→Option Xj} {E:Env} {h:Qa} {K:Env→Qa→Prop} {d:Option Nat} {r:List AOp} {x y:AO}
theorem repU:∀ n:Nat,rep [SV.int .u64 0] n=(List.replicate n 0).map fun (x:Nat)=>SV.int .u64 (x:Int)
 | 0=>rfl
 | n+1=>by rw [rep,repU n];rfl
theorem VD {n:Nat} (hx:evS E x=some (.int .i64 (n:Nat))) (hy:evS E y=some (.int .i64 (n:Nat))) (hb:n≤10000000) (hw:∀ h1,Ext h h1→Bu h1 h.length (List.replicate n 0)→Ql FT HK r (Qr d (some (.sc (.slc h.length 0 n (some n)))) E) h1 K) :
  Ql FT HK (⟨d,.mk 1 8 [.int .u64 0] x y,none⟩::r) E h K:=by
 refine Xe (v:=some (.sc (.slc h.length 0 n (some n)))) (h':=h++[.cells (rep [.int .u64 0] n) true 1]) rfl rfl ?_ (hw _ ⟨_,rfl⟩ ?_)
 ·simp only [Qm,hx,hy]
  rw [if_pos ⟨by omega,by omega,by unfold Yu;omega⟩,Int.toNat_natCast]
 ·unfold Bu
  rw [Gg (Gf _),Hg,repU];rfl
theorem Ql9 {v:Nat} (hx:ev E x=some (u v)) (hw:∀ h1,Ext h h1→Bu h1 h.length [v]→Ql FT HK r (Qr d (some (.sc (.slc h.length 0 1 (some 1)))) E) h1 K) :
  Ql FT HK (⟨d,.bsl 1 [.int .u64 0] 1 [(0,x)],none⟩::r) E h K :=
 Xe (v:=some (.sc (.slc h.length 0 1 (some 1)))) (h':=h++[.cells [.int .u64 (v:Nat)] true 1]) rfl rfl (by simp [Qm,Yp,hx,AV.cells,ZB,rep,Xh]) (hw _ ⟨_,rfl⟩ (by unfold Bu;rw [Gg (Gf _),Hg];rfl))
end
structure A131 (p g q c e o N:Nat) (cs es os:List Nat) (h0 h:Qa):Prop where
 x:Ext h0 h
 c2:Cel h q (.int .u64 (p:Nat)) (.int .u64 (g:Nat))
 bc:Bu h c cs
 be:Bu h e es
 bo:Bu h o os
 lo:h0.length≤e∧h0.length≤o∧e≠o∧c < e∧c < o∧q < e∧q < o
theorem A131.put {p g q c e o N:Nat} {cs es os:List Nat} {h0 h:Qa} (s:A131 p g q c e o N cs es os h0 h) (es' os':List Nat) :
  A131 p g q c e o N cs es' os' h0 ((h.set e (.cells (es'.map fun (x:Nat)=>SV.int .u64 (x:Int)) true 1)).set o (.cells (os'.map fun (x:Nat)=>SV.int .u64 (x:Int)) true 1)):=by
 obtain ⟨l1,l2,l3,l4,l5,l6,l7⟩:=s.lo
 exact ⟨Ext.setF (Ext.setF s.x l1 _) l2 _,Cel.other (Cel.other s.c2 (by omega) _) (by omega) _,(s.bc.other (by omega) _).other (by omega) _,s.be.set.other (Ne.symm l3) _,(s.bo.other l3 _).set,s.lo⟩
def I131 (p g q c e o N w:Nat) (cs:List Nat) (h0:Qa) (m:Nat) (E:Env) (h:Qa):Prop:=∃ i,i≤N∧m=N-i∧A131 p g q c e o N cs (fill (fun j=>cs.getD (2*j) 0) N i) (fill (fun j=>cs.getD (2*j+1) 0) N i) h0 h ∧
 E.keep [1,2,3,7,8,9,30,31]=[(1,some (.sc (.slc c 0 (2*N) (some (2*N))))),(2,some (u w)),(3,some (.sc (.ptr q 0))),(7,some (.sc (.int .i64 (N:Nat)))),(8,some (.sc (.slc e 0 N (some N)))),(9,some (.sc (.slc o 0 N (some N)))),(30,some (.sc (.int .i64 (N:Nat)))),(31,some (.sc (.int .i64 (i:Nat))))]
def R131 (p g q c e o N w:Nat) (cs:List Nat) (h0:Qa) (ex:Ex) (E:Env) (h:Qa):Prop:=ex=.ex 0∧A131 p g q c e o N cs ((List.range N).map fun j=>cs.getD (2*j) 0) ((List.range N).map fun j=>cs.getD (2*j+1) 0) h0 h ∧
 ∃ a b d,E=[(1,some (.sc (.slc c 0 (2*N) (some (2*N))))),(2,some (u w)),(3,some (.sc (.ptr q 0))),(7,some (.sc (.int .i64 (N:Nat)))),(8,some (.sc (.slc e 0 N (some N)))),(9,some (.sc (.slc o 0 N (some N)))),(30,a),(31,b),(32,d)]
theorem QfN (p g q c e o N w:Nat) (cs:List Nat) (h0:Qa) (hl:cs.length=2*N) (hN:N≤1000000) (m:Nat) (E:Env) (h:Qa) (hI:I131 p g q c e o N w cs h0 m E h) :
  wA FT HKt Qhs (E.keep [1,2,3,7,8,9,30,31]) h (Qp (I131 p g q c e o N w cs h0) m (R131 p g q c e o N w cs h0)):=by
 obtain ⟨i,hi,rfl,s,hE⟩:=hI
 rw [hE]
 by_cases hlt:i < N
 ·have r1:=s.bc.rd (i:=2*i) (by omega)
  have r2:=s.bc.rd (i:=2*i+1) (by omega)
  have w1:=s.be.wr (i:=i) (y:=cs.getD (2*i) 0) (by rw [YG];exact hlt)
  have nx:=s.put ((fill (fun j=>cs.getD (2*j) 0) N i).set i (cs.getD (2*i) 0)) ((fill (fun j=>cs.getD (2*j+1) 0) N i).set i (cs.getD (2*i+1) 0))
  have w2:=(s.bo.other s.lo.2.2.1 (.cells (((fill (fun j=>cs.getD (2*j) 0) N i).set i (cs.getD (2*i) 0)).map fun (x:Nat)=>SV.int .u64 (x:Int)) true 1)).wr (i:=i) (y:=cs.getD (2*i+1) 0) (by rw [YG];exact hlt)
  have e1:(0+(2*(i:Int)).toNat*1)=0+2*i*1:=by omega
  have e2:(0+(2*(i:Int)+1).toNat*1)=0+(2*i+1)*1:=by omega
  rw [← e1] at r1
  rw [← e2] at r2
  have f1:=Ze (f:=fun j=>cs.getD (2*j) 0) hlt
  have f2:=Ze (f:=fun j=>cs.getD (2*j+1) 0) hlt
  rw [f1,f2] at nx
  rw [f1] at w1 w2
  rw [f2] at w2
  repeat' (first | refine Qg ?_ | refine Qb ?_ | refine Qv ?_ | refine QJ ?_ | refine Qn ?_ | refine Qf ?_ | refine Q2 ?_ | refine Xk ?_ | refine Xl ?_ | ((refine Qh ?_);refine Qj rfl ?_) | ((refine Qe ?_);first | refine Q1 ?_ | refine Xw ?_ | refine Xa rfl rfl rfl rfl rfl rfl rfl rfl ?_ | refine Q5 rfl rfl rfl rfl rfl rfl rfl rfl rfl ?_) | ((refine Qc ?_);first | refine Qw (esz:=1) rfl rfl (by omega) ?_ | refine Q4 rfl r1 ?_ | refine Q4 rfl r2 ?_ | refine ZX rfl rfl w1 ?_ | refine ZX rfl rfl w2 ?_ | refine Qo rfl ?_ | refine QK rfl rfl (by omega) ?_ | refine zx rfl rfl (by omega) ?_ | refine Qy rfl rfl (by omega) ?_))
  exact QB (j:=N-(i+1)) (by omega) ⟨i+1,by omega,rfl,nx,rfl⟩
 ·have:i=N:=by omega
  subst this
  rw [Y4,Y4] at s
  repeat' (first | refine Qg ?_ | refine Qb ?_ | refine Q0 ?_ | refine QX ?_ | refine Qf ?_ | ((refine Qh ?_);refine Qk rfl ?_) | ((refine Qe ?_);refine Q5 rfl rfl rfl rfl rfl rfl rfl rfl rfl ?_) | ((refine Qc ?_);refine QM rfl rfl (by omega) ?_))
  exact QN ⟨rfl,s,_,_,_,rfl⟩
theorem Qmd {l:List Nat} {n:Nat} (h:l.length=2*n):(List.range n).map (fun j=>l.getD (2*j) 0)=evs l:=by
 apply Gr
 intro i
 rw [Gi]
 have le:=Jv l n h
 rcases Gw i n with hi | hi
 ·rw [Gq hi,Gl,← zZ l n i h hi,Ge,Ga (by omega)];rfl
 ·rw [Gp (by simpa using hi),Gp (by omega)];rfl
theorem QlR {l:List Nat} {n:Nat} (h:l.length=2*n):(List.range n).map (fun j=>l.getD (2*j+1) 0)=ods l:=by
 apply Gr
 intro i
 rw [Gi]
 have le:=yh l n h
 rcases Gw i n with hi | hi
 ·rw [Gq hi,Gl,← zU l n i h hi,Ge,Ga (by omega)];rfl
 ·rw [Gp (by simpa using hi),Gp (by omega)];rfl
structure B131 (p g q e o v N:Nat) (es os vs:List Nat) (h0 h:Qa):Prop where
 x:Ext h0 h
 c2:Cel h q (.int .u64 (p:Nat)) (.int .u64 (g:Nat))
 be:Bu h e es
 bo:Bu h o os
 bv:Bu h v vs
 lo:h0.length≤v∧e < v∧o < v∧q < v
theorem B131.ext {p g q e o v N:Nat} {es os vs:List Nat} {h0 h h':Qa} (s:B131 p g q e o v N es os vs h0 h) (k:Ext h h'):B131 p g q e o v N es os vs h0 h':=⟨s.x.trans k,s.c2.ext k,s.be.ext k,s.bo.ext k,s.bv.ext k,s.lo⟩
theorem B131.put {p g q e o v N:Nat} {es os vs:List Nat} {h0 h:Qa} (s:B131 p g q e o v N es os vs h0 h) (vs':List Nat) :
  B131 p g q e o v N es os vs' h0 (h.set v (.cells (vs'.map fun (x:Nat)=>SV.int .u64 (x:Int)) true 1)):=by
 obtain ⟨l1,l2,l3,l4⟩:=s.lo
 exact ⟨Ext.setF s.x l1 _,Cel.other s.c2 (by omega) _,s.be.other (by omega) _,s.bo.other (by omega) _,s.bv.set,s.lo⟩
def yj (p w:Nat) (es os:List Nat) (i:Nat):Nat:=adM p (es.getD i 0) (pwM p w i*os.getD i 0%p)
def yY (p w:Nat) (es os:List Nat) (i:Nat):Nat:=sbM p (es.getD i 0) (pwM p w i*os.getD i 0%p)
def Qh4 (p g q e o v N w:Nat) (es os:List Nat) (h0:Qa) (m:Nat) (E:Env) (h:Qa):Prop:=∃ i,i≤N∧m=N-i∧B131 p g q e o v N es os (y4 (yj p w es os) (yY p w es os) N i) h0 h ∧
 E.keep [2,3,7,8,9,12,13,67,68]=[(2,some (u w)),(3,some (.sc (.ptr q 0))),(7,some (.sc (.int .i64 (N:Nat)))),(8,some (.sc (.slc e 0 N (some N)))),(9,some (.sc (.slc o 0 N (some N)))),(12,some (.sc (.slc v 0 (2*N) (some (2*N))))),(13,some (u (pwM p w i))),(67,some (.sc (.int .i64 (N:Nat)))),(68,some (.sc (.int .i64 (i:Nat))))]
def QkR (p g q e o v N w:Nat) (es os:List Nat) (h0:Qa) (ex:Ex) (E:Env) (h:Qa):Prop:=ex=.ex 2∧B131 p g q e o v N es os ((List.range N).map (yj p w es os)++(List.range N).map (yY p w es os)) h0 h ∧
 ∃ a b c d e' f' i j k,E=[(2,a),(3,b),(7,c),(8,d),(9,e'),(12,some (.sc (.slc v 0 (2*N) (some (2*N))))),(13,f'),(67,i),(68,j),(69,k)]
theorem Qej (p g q e o v N w:Nat) (es os:List Nat) (h0:Qa) (hp:1 < p∧p < 9223372036854775808) (hw:w < p) (he:es.length=N∧∀ x∈es,x < p) (ho:os.length=N∧∀ x∈os,x < p) (hN:N≤1000000) (m:Nat) (E:Env) (h:Qa) (hI:Qh4 p g q e o v N w es os h0 m E h) :
  wA FT HKt Qhr (E.keep [2,3,7,8,9,12,13,67,68]) h (Qp (Qh4 p g q e o v N w es os h0) m (QkR p g q e o v N w es os h0)):=by
 obtain ⟨i,hi,rfl,s,hE⟩:=hI
 rw [hE]
 by_cases hlt:i < N
 ·have r1:=s.be.rd (i:=i) (by omega)
  have r2:=s.bo.rd (i:=i) (by omega)
  have hx:es.getD i 0 < p:=by rw [Ge,Ga (by omega)];exact he.2 _ (GD _)
  have hy:os.getD i 0 < p:=by rw [Ge,Ga (by omega)];exact ho.2 _ (GD _)
  have hpw:=Qch (p:=p) (w:=w) hp.1 i
  have k98a:=fun H=>YY H p g (pwM p w i) (os.getD i 0) ⟨by omega,by omega⟩ (by omega) (by omega)
  have hT:pwM p w i*os.getD i 0%p < p:=GU _ (by omega)
  have k129:=fun H=>QaH H p g (es.getD i 0) (pwM p w i*os.getD i 0%p) hp.2 hx hT
  have k122:=fun H=>Ub H p g (es.getD i 0) (pwM p w i*os.getD i 0%p) hp.2 hx (Hx hT)
  have k98b:=fun H=>YY H p g (pwM p w i) w ⟨by omega,by omega⟩ (by omega) (by omega)
  have epw:pwM p w i*w%p=pwM p w (i+1):=rfl
  rw [epw] at k98b
  have eA:adM p (es.getD i 0) (pwM p w i*os.getD i 0%p)=yj p w es os i:=rfl
  have eB:sbM p (es.getD i 0) (pwM p w i*os.getD i 0%p)=yY p w es os i:=rfl
  rw [eA] at k129
  rw [eB] at k122
  have fs:=QeY (f:=yj p w es os) (g:=yY p w es os) hlt _ _ rfl rfl
  have hfl:(y4 (yj p w es os) (yY p w es os) N i).length=2*N:=QgK
  have st:=fun (h1:Qa) (e1:Ext h h1)=>(s.ext e1).put (((y4 (yj p w es os) (yY p w es os) N i).set i (yj p w es os i)))
  have st2:=fun (h1:Qa) (e1:Ext h h1)=>(st h1 e1).put (((y4 (yj p w es os) (yY p w es os) N i).set i (yj p w es os i)).set (i+N) (yY p w es os i))
  have w1:=fun (h1:Qa) (e1:Ext h h1)=>(s.ext e1).bv.wr (i:=i) (y:=yj p w es os i) (by omega)
  have w2:=fun (h1:Qa) (e1:Ext h h1)=>(st h1 e1).bv.wr (i:=i+N) (y:=yY p w es os i) (by rw [G1];omega)
  rw [fs] at st2 w2
  generalize yj p w es os i=A at *
  generalize yY p w es os i=B at *
  generalize pwM p w i*os.getD i 0%p=T at *
  generalize es.getD i 0=x at *
  generalize os.getD i 0=y at *
  generalize hW:pwM p w (i+1)=W at *
  generalize pwM p w i=W0 at *
  generalize (y4 (yj p w es os) (yY p w es os) N i).set i A=F1 at *
  generalize y4 (yj p w es os) (yY p w es os) N i=F0 at *
  have c2:=s.c2
  have x0:=Ext.refl h
  have e2:(0+((i:Int)+(N:Int)).toNat*1)=0+(i+N)*1:=by omega
  repeat' (first | refine Qg ?_ | refine Qb ?_ | refine Qv ?_ | refine Qn ?_ | refine Qf ?_ | refine Q2 ?_ | refine Xk ?_ | refine Xl ?_ | ((refine Qh ?_);refine Qj rfl ?_) | ((refine Qe ?_);first | refine Q1 ?_ | refine Xw ?_ | refine XZ (by assumption) ?_ | refine Q5 rfl rfl rfl rfl rfl rfl rfl rfl rfl ?_ | refine Xy rfl rfl rfl rfl rfl rfl rfl rfl rfl rfl ?_ | refine X6 rfl rfl rfl rfl rfl rfl rfl rfl rfl rfl rfl ?_) | ((refine Qc ?_);first | refine QI rfl (c2.ext x0) ?_ | refine Qw (esz:=1) rfl rfl (by omega) ?_ | refine Q4 rfl (QH x0 r1) ?_ | refine Q4 rfl (QH x0 r2) ?_ | (refine Qi rfl (k98a _) ?_;rintro v1 h1 ⟨e1,rfl⟩;replace x0:=x0.trans e1) | (refine Qi rfl (k129 _) ?_;rintro v1 h1 ⟨e1,rfl⟩;replace x0:=x0.trans e1) | (refine Qi rfl (k122 _) ?_;rintro v1 h1 ⟨e1,rfl⟩;replace x0:=x0.trans e1) | refine ZX rfl rfl (w1 _ x0) ?_ | refine ZX rfl rfl (w2 _ x0) ?_ | refine Qo rfl ?_ | refine QK rfl rfl (by omega) ?_ | refine Qy rfl rfl (by omega) ?_))
  have s2:=st2 _ x0
  have c2':=s2.c2
  repeat' (first | refine Qb ?_ | refine QJ ?_ | refine Qf ?_ | ((refine Qe ?_);refine Q5 rfl rfl rfl rfl rfl rfl rfl rfl rfl ?_) | ((refine Qc ?_);first | refine QI rfl c2' ?_ | (refine Qi rfl (k98b _) ?_;rintro v1 h9 ⟨e9,rfl⟩) | refine Qo rfl ?_ | refine QK rfl rfl (by omega) ?_))
  exact QB (j:=N-(i+1)) (by omega) ⟨i+1,by omega,rfl,s2.ext e9,by rw [hW];rfl⟩
 ·have:i=N:=by omega
  subst this
  unfold y4 at s
  rw [Y4,Y4] at s
  repeat' (first | refine Qg ?_ | refine Qb ?_ | refine Q0 ?_ | refine QX ?_ | refine Qf ?_ | ((refine Qh ?_);refine Qk rfl ?_) | ((refine Qe ?_);refine Xy rfl rfl rfl rfl rfl rfl rfl rfl rfl rfl ?_) | ((refine Qc ?_);refine QM rfl rfl (by omega) ?_))
  exact QN ⟨rfl,s,_,_,_,_,_,_,_,_,_,rfl⟩
theorem zN {p:Nat} (hp:1 < p):∀ (s:Nat) (cs:List Nat) (w:Nat),cs.length=2 ^ s→(∀ x∈cs,x < p)→∀ x∈trM p s cs w,x < p
 | 0,cs,w,hl,hc=>hc
 | s+1,cs,w,hl,hc=>fun x hx=>by
  have hl2:cs.length=2*2 ^ s:=by rw [hl,Nat.pow_succ];omega
  have a1:=zN hp s (evs cs) (w*w%p) (Jv cs _ hl2) (fun x hx=>hc x (zY cs x hx))
  have la:=ZI p s (evs cs) (w*w%p) (Jv cs _ hl2)
  have ga:∀ i,i < 2 ^ s→(trM p s (evs cs) (w*w%p)).getD i 0 < p:=fun i hi=>by
   rw [Ge,Ga (by omega)];exact a1 _ (GD _)
  unfold trM at hx
  rcases Gv.1 hx with h | h <;> obtain ⟨i,hi,rfl⟩:=Gu.1 h
  ·exact QcK (ga i (Hk.1 hi)) (GU _ (by omega))
  ·exact yQ (ga i (Hk.1 hi))
theorem QdQ (p g:Nat) (hp:1 < p∧p < 9223372036854775808):∀ (s:Nat) (h0:Qa) (c w:Nat) (cs:List Nat),s≤18→Bu h0 c cs→cs.length=2 ^ s→(∀ x∈cs,x < p)→w < p →
  ∃ r h',Cal FT HKt 131 [fld p g,.sc (.slc c 0 (2 ^ s) (some (2 ^ s))),u w] h0 r h'∧Ext h0 h'∧∃ id,h0.length≤id∧r=.sc (.slc id 0 (2 ^ s) (some (2 ^ s)))∧Bu h' id (trM p s cs w)
 | 0,h0,c,w,cs,hs,b,hl,hc,hw=>by
  refine Cal.of (F:=Qj0) rfl rfl rfl ?_
  have r1:=fun h (e:Ext h0 h)=>QH e (b.rd (i:=0) (by omega))
  have ecs:cs=[cs.getD 0 0]:=by
   cases cs with
   | nil=>simp at hl
   | cons x t =>
    cases t with
    | nil=>rfl
    | cons y t=>simp at hl
  repeat' (first | refine Qg ?_ | refine Qb ?_ | refine QD ?_ | refine Qt ?_ | refine Qf ?_ | ((refine Qh ?_);refine Qj rfl ?_) | ((refine Qe ?_);first | refine Qq rfl ?_ | refine Qu rfl rfl rfl ?_ | refine QG rfl rfl rfl rfl ?_) | ((refine Qc ?_);first | (refine Qx rfl ?_;intro h1 e1 c1) | refine Qs rfl rfl ?_ | refine XD rfl rfl (by decide) ?_ | refine Qw (esz:=1) rfl rfl (by decide) ?_ | refine Q4 rfl (r1 _ e1) ?_ | (refine Ql9 rfl ?_;intro h2 e2 b2) | refine Qo rfl ?_))
  exact ⟨.inr rfl,e1.trans e2,h1.length,e1.len,rfl,by show Bu h2 h1.length cs;rw [ecs];exact b2⟩
 | s+1,h0,c,w,cs,hs,b,hl,hc,hw=>by
  have ih:=fun h c w cs=>QdQ p g hp s h c w cs (by omega)
  have eT:trM p (s+1) cs w=(List.range (2 ^ s)).map (yj p w (trM p s (evs cs) (w*w%p)) (trM p s (ods cs) (w*w%p)))++(List.range (2 ^ s)).map (yY p w (trM p s (evs cs) (w*w%p)) (trM p s (ods cs) (w*w%p))):=rfl
  rw [eT]
  have hN:2 ^ s≤2 ^ 18:=GM (by decide) (by omega)
  have hN1:1≤2 ^ s:=Nat.one_le_two_pow
  have e2:2 ^ (s+1)=2*2 ^ s:=by rw [Nat.pow_succ];omega
  rw [e2] at hl ⊢
  have le:=Jv cs _ hl
  have lo:=yh cs _ hl
  have ce:=fun x hx=>hc x (zY cs x hx)
  have co:=fun x hx=>hc x (Qah cs x hx)
  have hw2:w*w%p < p:=GU _ (by omega)
  have te:=ZI p s (evs cs) (w*w%p) le
  have tq:=ZI p s (ods cs) (w*w%p) lo
  have pe:=zN (p:=p) hp.1 s (evs cs) (w*w%p) le ce
  have po:=zN (p:=p) hp.1 s (ods cs) (w*w%p) lo co
  have i1:=fun h c (b:Bu h c (evs cs))=>ih h c (w*w%p) (evs cs) b le ce hw2
  have i2:=fun h c (b:Bu h c (ods cs))=>ih h c (w*w%p) (ods cs) b lo co hw2
  have rl:=fun q c e o h0=>QfN p g q c e o (2 ^ s) w cs h0 hl (by omega)
  generalize trM p s (evs cs) (w*w%p)=Te at *
  generalize trM p s (ods cs) (w*w%p)=To at *
  generalize hN':2 ^ s=N at *
  refine Cal.of (F:=Qj0) rfl rfl rfl ?_
  have eh:((2*N:Nat):Int) / 2=(N:Nat):=by omega
  have k98:=fun H=>YY H p g w w ⟨by omega,by omega⟩ (by omega) (by omega)
  repeat' (first | refine Qg ?_ | refine Qb ?_ | refine Qv ?_ | refine Qn ?_ | refine Qf ?_ | refine Q2 ?_ | refine Xk ?_ | refine Xl ?_ | ((refine Qh ?_);refine Qk rfl ?_) | ((refine Qe ?_);first | refine Q1 ?_ | refine XZ (by assumption) ?_ | refine Qu rfl rfl rfl ?_ | refine QG rfl rfl rfl rfl ?_ | refine QT rfl rfl rfl rfl rfl rfl ?_ | refine Xa rfl rfl rfl rfl rfl rfl rfl rfl ?_) | ((refine Qc ?_);first | (refine Qx rfl ?_;intro h1 e1 c1) | refine Qs rfl rfl ?_ | (refine VC rfl rfl (by omega) ?_;rw [eh]) | (have z:=b2;refine VD rfl rfl (by omega) ?_;intro h3 e3 b3) | (refine VD rfl rfl (by omega) ?_;intro h2 e2 b2) | refine Qo rfl ?_ | refine Xf rfl rfl (by omega) ?_))
  have ev1:=Qmd hl
  have od1:=QlR hl
  refine Q9 (I131 p g h0.length c h1.length h2.length N w cs h0) N (R131 p g h0.length c h1.length h2.length N w cs h0) ⟨0,Gs _,rfl,⟨(e1.trans e2).trans e3,(c1.ext e2).ext e3,((b.ext e1).ext e2).ext e3,by rw [Y3];exact b2.ext e3,by rw [Y3];exact b3,by have:=b.lt;have:=c1.lt;have:=e1.len;have:=e2.len;have:=b2.lt;omega⟩,rfl⟩ (rl h0.length c h1.length h2.length h0) ?_
  rintro ex E' h4 ⟨rfl,s4,_,_,_,rfl⟩
  rw [ev1,od1] at s4
  have c4:=s4.c2
  have b4:=s4.bc
  repeat' (first | refine Qg ?_ | refine Qb ?_ | refine Qv ?_ | refine QP ?_ | refine Qf ?_ | refine Q2 ?_ | refine Xk ?_ | refine Xl ?_ | ((refine Qe ?_);first | refine Q1 ?_ | refine Xw ?_ | refine XZ (by assumption) ?_ | refine QT rfl rfl rfl rfl rfl rfl ?_ | refine Xn rfl rfl rfl rfl rfl rfl rfl ?_ | refine Q5 rfl rfl rfl rfl rfl rfl rfl rfl rfl ?_) | ((refine Qc ?_);first | (have z:=s6;refine VD rfl rfl (by omega) ?_;intro h8 e8 b8) | refine QI rfl c4 ?_ | (refine Qi rfl (k98 _) ?_;rintro v5 h5 ⟨e5,rfl⟩;replace c4:=c4.ext e5;have be5:=s4.be.ext e5;have bo5:=s4.bo.ext e5;have x5:=s4.x.trans e5) | (refine Qi rfl (i1 _ _ be5) ?_;rintro v6 h6 ⟨e6,ide,l6,rfl,b6⟩;replace c4:=c4.ext e6;have bo6:=bo5.ext e6;have x6:=x5.trans e6) | (refine Qi rfl (i2 _ _ bo6) ?_;rintro v7 h7 ⟨e7,ido,l7,rfl,b7⟩;replace c4:=c4.ext e7;have be7:=b6.ext e7;have s6:=x6.trans e7) | refine Qs rfl rfl ?_ | refine Qo rfl ?_))
  have lo7:h0.length≤h7.length∧ide < h7.length∧ido < h7.length∧h0.length < h7.length:=⟨s6.len,be7.lt,b7.lt,c4.lt⟩
  refine Q9 (Qh4 p g h0.length ide ido h7.length N w Te To h0) N (QkR p g h0.length ide ido h7.length N w Te To h0) ⟨0,Gs _,rfl,⟨s6.trans e8,c4.ext e8,be7.ext e8,b7.ext e8,by unfold y4;rw [Y3,Y3,List.replicate_append_replicate,show N+N=2*N by omega];exact b8,lo7⟩,rfl⟩ (Qej p g h0.length ide ido h7.length N w Te To h0 hp hw ⟨te,pe⟩ ⟨tq,po⟩ (by omega)) ?_
  rintro ex E' h9 ⟨rfl,s9,_,_,_,_,_,_,_,_,_,rfl⟩
  repeat' (first | refine Qg ?_ | refine Qb ?_ | refine QP ?_ | refine Qt ?_ | refine Qf ?_ | ((refine Qe ?_);refine Qq rfl ?_) | ((refine Qc ?_);refine Qo rfl ?_))
  exact ⟨.inr rfl,s9.x,h7.length,lo7.1,rfl,s9.bv⟩
