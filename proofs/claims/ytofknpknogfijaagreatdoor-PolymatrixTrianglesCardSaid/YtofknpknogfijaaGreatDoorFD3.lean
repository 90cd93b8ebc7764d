/- The determinant modulo a prime: its contract. -/
import Derived.Test.YtofknpknogfijaaGreatDoorFD2
import Derived.Test.YtofknpknogfijaaGreatDoorPR2
namespace Go.Proofs.YtofknpknogfijaaGreatDoor
open Go.Ab
set_option linter.unusedVariables false
set_option linter.unusedSimpArgs false
set_option maxRecDepth 20000
set_option maxHeartbeats 4000000
attribute [local irreducible] Qi wA Xk Xj Qz Qo QS QV
set_option linter.unusedSectionVars false
variable [HB]
section
variable {FT:FuncId→Option AFun} {HK:FuncId→Option Xc} {E:Env} {h:Qa} {K:Env→Qa→Prop} {d:Option Nat} {r:List AOp} {x:AO}
theorem Qel {t:Nat} {z v:SV} (hx:ev (Qq (some t) (some (.sc (.ptr h.length 0))) E) x=some (.sc v)) (hw:∀ h1,Ext h h1→Cel1 h1 h.length v→Qi FT HK r (Qq (some t) (some (.sc (.ptr h.length 0))) E) h1 K) :
    Qi FT HK (⟨some t,.new [z],none⟩::⟨none,.st 1 (.t t) x,none⟩::r) E h K :=
  zS fun h1 e1 c1=>Qaa (by simp [evS,ev,Qq,Env.get]) hx c1 fun h2 e2 c2=>hw h2 (Chg.toExt ⟨by rw [e2];simpa using e1.len,fun j hj _=>by
    rw [e2,List.getElem?_set_ne (by omega)]
    obtain ⟨t,rfl⟩:=e1
    rw [List.getElem?_append_left hj]⟩) c2
end
theorem QaG {cs:List SV} {i:Nat} {v:SV} (h:i < cs.length):Xe cs i [v]=cs.set i v:=by
  unfold Xe
  apply List.ext_getElem?
  intro j
  rw [List.getElem?_set]
  rcases Nat.lt_trichotomy j i with h1 | h1 | h1
  · rw [if_neg (by omega),List.append_assoc,List.getElem?_append_left (by simp;omega)]
    simp [List.getElem?_take,h1]
  · subst h1
    rw [if_pos rfl,if_pos h,List.append_assoc,List.getElem?_append_right (by simp;omega)]
    simp [Nat.min_eq_left (Nat.le_of_lt h)]
  · rw [if_neg (by omega),List.getElem?_append_right (by simp;omega)]
    simp only [List.length_append,List.length_take,List.length_cons,List.length_nil,List.getElem?_drop]
    rw [Nat.min_eq_left (Nat.le_of_lt h)]
    congr 1;omega
theorem wr1 {h:Qa} {q i:Nat} {cs:List SV} {z:ESz} {v:SV} (hb:h[q]?=some (.cells cs true z)) (hi:i < cs.length):XB h q (0+i*1) [v]=some (h.set q (.cells (cs.set i v) true z)):=by
  simp only [XB,hb,List.length_cons,List.length_nil]
  rw [if_pos (by omega),Nat.zero_add,Nat.mul_one,QaG hi]
theorem Mx.swap {h:Qa} {q n:Nat} {pre a' c:List X2} {x b:X2} (m:Mx h q n (pre++(x::a')++b::c)) :
    Mx ((h.set q (.cells (((pre++(x::a')++b::c).map (Yg n)).set (pre.length+1+a'.length) (Yg n x)) true 1)).set q (.cells ((((pre++(x::a')++b::c).map (Yg n)).set (pre.length+1+a'.length) (Yg n x)).set pre.length (Yg n b)) true 1)) q n (pre++b::(a'++x::c)):=by
  have hq:q < h.length:=(List.getElem?_eq_some_iff.1 m.top).1
  have perm:∀ y,y∈pre++b::(a'++x::c)↔y∈pre++(x::a')++b::c:=fun y=>by
    simp only [List.mem_append,List.mem_cons]
    constructor
    · rintro (h | h | h | h | h) <;> simp [h]
    · rintro ((h | h | h) | h | h) <;> simp [h]
  refine ⟨?_,?_,?_,fun y hy=>?_⟩
  · rw [List.getElem?_set_self (by simpa using hq)]
    congr 2
    have e1:(pre++(x::a')++b::c).map (Yg n)=pre.map (Yg n)++(Yg n x::(a'.map (Yg n)++Yg n b::c.map (Yg n))):=by simp
    rw [e1,List.set_append_right _ _ (by simp;omega),List.length_map,show pre.length+1+a'.length-pre.length=a'.length+1 by omega,List.set_cons_succ,List.set_append_right _ _ (by simp),List.length_map,Nat.sub_self,List.set_cons_zero,
      List.set_append_right _ _ (by simp),List.length_map,Nat.sub_self,List.set_cons_zero]
    simp
  · have p1:((pre++(x::a')++b::c).map (·.1)).Perm ((pre++b::(a'++x::c)).map (·.1)):=by
      refine List.Perm.map _ ?_
      rw [List.append_assoc]
      refine List.Perm.append_left _ ?_
      refine ((List.perm_middle (a:=b) (l₁:=x::a') (l₂:=c))).trans (List.Perm.cons _ ?_)
      exact (List.perm_middle (a:=x) (l₁:=a') (l₂:=c)).symm
    exact p1.nodup_iff.1 m.nd
  · intro hm
    refine m.qn ?_
    obtain ⟨y,hy,e⟩:=List.mem_map.1 hm
    exact List.mem_map.2 ⟨y,(perm y).1 hy,e⟩
  · have:=m.row y ((perm y).1 hy)
    have hne:q≠y.1:=fun e=>m.qn (by rw [e];exact List.mem_map.2 ⟨y,(perm y).1 hy,rfl⟩)
    exact (this.other hne _).other hne _
def acL:AC→AC
  | .seq a _=>a
  | c=>c
def acR:AC→AC
  | .seq _ b=>b
  | c=>c
def acB:AC→AC
  | .block _ a=>a
  | c=>c
def Qf0:AC:=acR (acR (acR (acR (acR (acR (acB (acL (acR (acR YW)))))))))
theorem Qbr (p g q q2 q6 q8 n k d:Nat) (pre rest:List X2) (pv:X2) (h:Qa) (hp:2≤p∧p < 9223372036854775808) (hn:n < 1000000) (hk:k=pre.length) (hl:rest.length+(k+1)=n) (hd:d < p)
    (M:Mx h q n (pre++pv::rest)) (ro:yH p n (pre++pv::rest)) (c2:Cel h q2 (.int .u64 (p:Nat)) (.int .u64 (g:Nat))) (c6:Cel1 h q6 (.int .i64 (k:Nat))) (c8:Cel1 h q8 (.slc pv.1 0 n (some n))) (ne:∀ m∈pre++pv::rest,m.1≠q2∧m.1≠q6∧m.1≠q8)
    (K:Ex→Env→Qa→Prop) (hK:∀ h',S130 p g q q2 q6 q8 n k pre [] pv (rest.map (elM p k (XR p (pv.2.getD k 0)) pv)) h h'→∀ a b c e f g' l,K .nm [(1,some (.sc (.slc q 0 n (some n)))),(2,some (.sc (.ptr q2 0))),(5,some (u (d*pv.2.getD k 0%p))),(6,a),(9,b),(10,c),(14,some (.sc (.int .i64 (n:Nat)))),(15,some (.sc (.int .i64 (k:Nat)))),(80,e),(81,f),(82,g'),(83,l)] h') :
    wA FT HKt Qf0 [(1,some (.sc (.slc q 0 n (some n)))),(2,some (.sc (.ptr q2 0))),(5,some (u d)),(6,some (.sc (.ptr q6 0))),(8,some (.sc (.ptr q8 0))),(14,some (.sc (.int .i64 (n:Nat)))),(15,some (.sc (.int .i64 (k:Nat))))] h K:=by
  have hpm:pv∈pre++pv::rest:=by simp
  have rp:=ro pv hpm
  have rv:=(M.row pv hpm).rd (i:=k) (by rw [rp.1];omega)
  have hvk:pv.2.getD k 0 < p:=by rw [List.getD_eq_getElem?_getD,List.getElem?_eq_getElem (by rw [rp.1];omega)];exact rp.2 _ (List.getElem_mem _)
  have k98:=fun H=>Y5 H p g d (pv.2.getD k 0) ⟨by omega,by omega⟩ (by omega) (by omega)
  have k121:=fun H=>zj H p g (pv.2.getD k 0) ⟨hp.1,by omega⟩ (by omega)
  have hiv:XR p (pv.2.getD k 0) < p:=by
    unfold XR
    exact Zx 64 _ _ _ (by omega)
  generalize XR p (pv.2.getD k 0)=iv at *
  generalize pv.2.getD k 0=v at *
  unfold Qf0 YW
  simp only [acL,acR,acB]
  have hsl:Je ((k:Int)+1).toNat ((n:Nat):Int).toNat (.slc q 0 n (some n))=some (.slc q (0+(k+1)) (n-(k+1)) (some (n-(k+1)))):=by
    simp only [Je,Option.map_some]
    rw [if_pos (by omega)]
    have e1:((k:Int)+1).toNat=k+1:=by omega
    have e2:((n:Nat):Int).toNat=n:=by omega
    rw [e1,e2]
  have e0:=Ext.refl h
  repeat' (first | refine Qh ?_ | refine Qb ?_ | refine Qt ?_ | refine Qf ?_ | refine Q9 ?_ | refine Xs ?_ | refine Xt ?_ | ((refine Qe ?_);first | refine Xb ?_ | refine XP ?_ | refine Q7 rfl rfl rfl rfl rfl rfl rfl ?_ | refine Q5 rfl rfl rfl rfl rfl rfl rfl rfl ?_ | refine XC rfl rfl rfl rfl rfl rfl rfl rfl rfl rfl rfl ?_) | ((refine Qc ?_);first | refine YL rfl (c6.ext e0).at rfl ?_ | refine YL rfl (c8.ext e0).at rfl ?_ | (have z:=x1;refine QN rfl (c2.ext x1) ?_) | refine QN rfl c2 ?_ | refine QD (esz:=1) rfl rfl (by omega) ?_ | refine Xx rfl (QO e0 rv) ?_ | (refine Qm rfl (k98 _) ?_;rintro v1 h1 ⟨e1,rfl⟩;have x1:=e1;replace e0:=e1) | (refine Qm rfl (k121 _) ?_;rintro v2 h2 ⟨e2,rfl⟩;replace e0:=x1.trans e2) | refine Qja rfl rfl rfl (by omega) hsl ?_ | refine Qp rfl ?_ | refine QK rfl rfl (by omega) ?_ | refine QA rfl rfl ?_ | refine XF rfl rfl ?_))
  refine Q2 (QfA p g q q2 q6 q8 n k (d*v%p) iv pre rest pv h) rest.length (Qh2 p g q q2 q6 q8 n k (d*v%p) iv pre rest pv h) ⟨0,Nat.zero_le _,rfl,⟨(Chg.refl h).ext e0,M.ext e0,ro,c2.ext e0,c6.ext e0,c8.ext e0,ne⟩,rfl⟩ (Qcy p g q q2 q6 q8 n k (d*v%p) iv pre rest pv h ⟨by omega,hp.2⟩ hn hk hl hiv) ?_
  rintro ex E' h3 ⟨rfl,s3,a,b,c,e,f,g',l,rfl⟩
  exact QE (hK h3 s3 a b c e f g' l)
structure D130 (p g q q2 n k d X:Nat) (ms0 ms:List X2) (h0 h:Qa):Prop where
  c:Chg (fun j=>j=q∨∃ m∈ms0,m.1=j) h0 h
  M:Mx h q n ms
  ro:yH p n ms
  c2:Cel h q2 (.int .u64 (p:Nat)) (.int .u64 (g:Nat))
  ids:∀ m∈ms,∃ m0∈ms0,m0.1=m.1
  l:ms.length=n
  dl:d < p
  X:qr p (XR p) (n-k) k ((ms.drop k).map (·.2)) d=X
  ne:∀ m∈ms0,m.1≠q2
  nq:q≠q2
def I130 (p g q q2 n X:Nat) (ms0:List X2) (h0:Qa) (m:Nat) (E:Env) (h:Qa):Prop:=∃ k d ms,k≤n∧m=n-k∧D130 p g q q2 n k d X ms0 ms h0 h ∧
  E.keep [1,2,5,14,15]=[(1,some (.sc (.slc q 0 n (some n)))),(2,some (.sc (.ptr q2 0))),(5,some (u d)),(14,some (.sc (.int .i64 (n:Nat)))),(15,some (.sc (.int .i64 (k:Nat))))]
def R130 (q n X:Nat) (ms0:List X2) (h0:Qa) (ex:Ex) (E:Env) (h:Qa):Prop:=Chg (fun j=>j=q∨∃ m∈ms0,m.1=j) h0 h ∧
  ((ex=.ex 0∧∃ a b c e f,E=[(1,a),(2,b),(5,some (u X)),(14,c),(15,e),(16,f)])∨(ex=.rt∧E=[(4,some (u X))]))
theorem D130.next {p g q q2 q6 q8 n k d X:Nat} {ms0 ms:List X2} {pre rest:List X2} {pv:X2} {h0 h H h':Qa} {a c:List (List Nat)} {b:List Nat} (D:D130 p g q q2 n k d X ms0 ms h0 h) (hk:k=pre.length) (hkn:k < n) (hl:rest.length+(k+1)=n) (hc:Chg (fun j=>j=q∨∃ m∈ms0,m.1=j) h0 H)
    (hids:∀ m∈pre++pv::rest,∃ m0∈ms0,m0.1=m.1) (hpk:pick k ((ms.drop k).map (·.2))=some (a,b,c)) (hb:b=pv.2) (ho:X9 a c=rest.map (·.2)) (s:S130 p g q q2 q6 q8 n k pre [] pv (rest.map (elM p k (XR p (pv.2.getD k 0)) pv)) H h') (hp:0 < p) :
    D130 p g q q2 n (k+1) ((if a=[] then d else sbM p 0 d)*pv.2.getD k 0%p) X ms0 (pre++pv::rest.map (elM p k (XR p (pv.2.getD k 0)) pv)) h0 h':=by
  have e0:pre++pv::(rest.map (elM p k (XR p (pv.2.getD k 0)) pv)++[])=pre++pv::rest.map (elM p k (XR p (pv.2.getD k 0)) pv):=by simp
  have hids':∀ m∈pre++pv::rest.map (elM p k (XR p (pv.2.getD k 0)) pv),∃ m0∈ms0,m0.1=m.1:=fun m hm=>by
    rcases List.mem_append.1 hm with hm | hm
    · exact hids m (by simp [hm])
    · rcases List.mem_cons.1 hm with rfl | hm
      · exact hids m (by simp)
      · obtain ⟨y,hy,rfl⟩:=List.mem_map.1 hm
        exact hids y (by simp [hy])
  refine ⟨hc.trans (s.c.mono fun j _ hj=>?_),e0 ▸ s.M,e0 ▸ s.ro,s.c2,hids',by simp;omega,Nat.mod_lt _ hp,?_,D.ne,D.nq⟩
  · rcases hj with hj | ⟨m,hm,rfl⟩
    · exact .inl hj
    · rw [e0] at hm
      obtain ⟨m0,h1,h2⟩:=hids' m hm
      exact .inr ⟨m0,h1,h2⟩
  · have hX:=D.X
    obtain ⟨t,ht⟩:∃ t,n-k=t+1:=⟨n-k-1,by omega⟩
    rw [ht] at hX
    unfold qr at hX
    rw [hpk] at hX
    simp only at hX
    rw [← hX,hb,ho,show n-(k+1)=t by omega]
    have ed:(pre++pv::rest.map (elM p k (XR p (pv.2.getD k 0)) pv)).drop (k+1)=rest.map (elM p k (XR p (pv.2.getD k 0)) pv):=by
      rw [show pre++pv::rest.map (elM p k (XR p (pv.2.getD k 0)) pv)=(pre++[pv])++rest.map (elM p k (XR p (pv.2.getD k 0)) pv) by simp]
      exact List.drop_left' (by simp [hk])
    rw [ed,List.map_map,List.map_map]
    rfl
theorem qI {k:Nat}:∀ {rs:List (List Nat)},(∀ r∈rs,r.getD k 0=0)→pick k rs=none
  | [],_=>rfl
  | r::rs,h=>by
    unfold pick
    rw [if_neg (by rw [h r (.head _)];simp),qI fun s hs=>h s (.tail _ hs)]
    rfl
theorem qH {k:Nat} {b:List Nat} {c:List (List Nat)} (hb:b.getD k 0≠0):∀ {a:List (List Nat)},(∀ r∈a,r.getD k 0=0)→pick k (a++b::c)=some (a,b,c)
  | [],_=>by show pick k (b::c)=_;unfold pick;rw [if_pos hb]
  | r::a,h=>by
    show pick k (r::(a++b::c))=_
    unfold pick
    rw [if_neg (by rw [h r (.head _)];simp),qH hb fun s hs=>h s (.tail _ hs)]
    rfl
def w130 (t:AC):AC:=.seq (acL YW) (.seq (acL (acR YW)) (.seq (.block 1 (.seq (acL (acB (acL (acR (acR YW))))) (.seq (acL (acR (acB (acL (acR (acR YW)))))) (.seq (acL (acR (acR (acB (acL (acR (acR YW))))))) (.seq (acL (acR (acR (acR (acB (acL (acR (acR YW)))))))) (.seq (acL (acR (acR (acR (acR (acB (acL (acR (acR YW)))))))))
  (.seq (acL (acR (acR (acR (acR (acR (acB (acL (acR (acR YW)))))))))) t))))))) (acR (acR (acR YW)))))
theorem QfV:YW=w130 Qf0:=rfl
attribute [local irreducible] Qf0
theorem QdM (p g q q2 n X:Nat) (ms0:List X2) (h0:Qa) (hp:2≤p∧p < 9223372036854775808) (hn:n < 1000000) (m:Nat) (E:Env) (h:Qa) (hI:I130 p g q q2 n X ms0 h0 m E h) :
    wA FT HKt YW (E.keep [1,2,5,14,15]) h (Qo (I130 p g q q2 n X ms0 h0) m (R130 q n X ms0 h0)):=by
  obtain ⟨k,d,ms,hkn,rfl,D,hE⟩:=hI
  rw [hE]
  rw [QfV]
  unfold w130
  simp only [acL,acR,acB,YW]
  by_cases hk:k < n
  · repeat' (first | refine Qh ?_ | refine Qb ?_ | refine Qt ?_ | refine Qn ?_ | refine Qf ?_ | ((refine Qg ?_);refine Qk rfl ?_) | ((refine Qe ?_);first | refine QM rfl rfl rfl rfl rfl rfl ?_ | refine Q7 rfl rfl rfl rfl rfl rfl rfl ?_) | ((refine Qc ?_);first | (refine Qel rfl ?_;intro h1 e1 c6) | refine YL rfl c6.at rfl ?_ | refine Qp rfl ?_ | refine Qx rfl rfl (by omega) ?_))
    have M1:=D.M.ext e1
    have hqh:q < h.length:=(List.getElem?_eq_some_iff.1 D.M.top).1
    refine Q2 (QfB p g q q2 h.length n k d ms h1) (n-k) (Qh3 p g q q2 h.length n k d ms h1) ⟨k,Nat.le_refl _,hkn,rfl,rfl,fun i x a b=>by omega,rfl⟩ (Qcz p g q q2 h.length n k d ms h1 hn hk D.l M1 D.ro c6) ?_
    rintro ex E' h2 ⟨rfl,eh,j,hkj,hjn,hz,hnz,a,rfl⟩
    subst eh
    have hX:=D.X
    obtain ⟨t,ht⟩:∃ t,n-k=t+1:=⟨n-k-1,by omega⟩
    by_cases hj:j=n
    · subst hj
      have hX0:X=0:=by
        rw [ht] at hX
        unfold qr at hX
        rw [qI fun r hr=>?_] at hX
        · exact hX.symm
        · obtain ⟨y,hy,rfl⟩:=List.mem_map.1 hr
          obtain ⟨i,hi⟩:=List.mem_iff_getElem?.1 hy
          rw [List.getElem?_drop] at hi
          have:=(List.getElem?_eq_some_iff.1 hi).1
          exact hz (k+i) y (by omega) (by rw [D.l] at this;omega) hi
      repeat' (first | refine Qh ?_ | refine Qb ?_ | refine QF ?_ | refine QE ?_ | refine Xg ?_ | refine Qs ?_ | refine Qf ?_ | ((refine Qg ?_);refine Qk rfl ?_) | ((refine Qe ?_);first | refine Qr rfl ?_ | refine Q5 rfl rfl rfl rfl rfl rfl rfl rfl ?_) | ((refine Qc ?_);first | refine Qp rfl ?_ | refine Xw rfl rfl (by omega) ?_ | refine QA rfl rfl ?_))
      exact XN ⟨D.c.ext e1,.inr ⟨rfl,by rw [hX0];rfl⟩⟩
    · obtain ⟨pv,hpv⟩:∃ x,ms[j]?=some x:=⟨_,List.getElem?_eq_getElem (by rw [D.l];omega)⟩
      have hms:ms=ms.take k++(ms.drop k).take (j-k)++pv::ms.drop (j+1):=by
        conv=>lhs;rw [← List.take_append_drop k ms,← List.take_append_drop (j-k) (ms.drop k)]
        rw [List.append_assoc]
        congr 2
        rw [List.drop_drop,show k+(j-k)=j by omega,List.drop_eq_getElem_cons (by rw [D.l];omega)]
        congr 1
        rw [List.getElem?_eq_getElem (by rw [D.l];omega)] at hpv
        exact Option.some.inj hpv
      have hz':∀ r∈((ms.drop k).take (j-k)).map (·.2),r.getD k 0=0:=fun r hr=>by
        obtain ⟨y,hy,rfl⟩:=List.mem_map.1 hr
        obtain ⟨i,hi⟩:=List.mem_iff_getElem?.1 hy
        have hlt:i < j-k:=by
          rcases Nat.lt_or_ge i (j-k) with h | h
          · exact h
          · rw [List.getElem?_eq_none (by simp;omega)] at hi;cases hi
        rw [List.getElem?_take_of_lt hlt,List.getElem?_drop] at hi
        exact hz (k+i) y (by omega) (by omega) hi
      have hpk:pick k ((ms.drop k).map (·.2))=some (((ms.drop k).take (j-k)).map (·.2),pv.2,(ms.drop (j+1)).map (·.2)):=by
        rw [← qH (hnz pv hpv) hz']
        congr 1
        conv=>lhs;rw [hms]
        rw [List.append_assoc,List.drop_left' (by simp;rw [D.l];omega)]
        simp
      have lpre:k=(ms.take k).length:=by simp;rw [D.l];omega
      have la:((ms.drop k).take (j-k)).length=j-k:=by simp;rw [D.l];omega
      have lc:(ms.drop (j+1)).length+(j+1)=n:=by simp;rw [D.l];omega
      have ro:=D.ro
      have hids:=D.ids
      have lt:=fun y (hy:y∈ms)=>(D.M.row y hy).lt
      have n2:∀ y∈ms,y.1≠q2:=fun y hy=>by
        obtain ⟨m0,h3,h4⟩:=hids y hy
        rw [← h4];exact D.ne m0 h3
      have hdl:=D.dl
      have c2:=D.c2.ext e1
      have hc1:=D.c.ext e1
      generalize hpre:ms.take k=pre at *
      generalize haM:(ms.drop k).take (j-k)=aM at *
      generalize hcM:ms.drop (j+1)=cM at *
      cases aM with
      | nil =>
        have:j=k:=by simp at la;omega
        subst this
        rw [hms] at M1 ro lt n2 hids
        simp only [List.append_nil] at M1 ro lt n2 hids
        have r1:=M1.rd (i:=j) (x:=pv) (by rw [lpre,List.getElem?_append_right (Nat.le_refl _)];simp)
        simp only [Yg] at r1
        repeat' (first | refine Qh ?_ | refine Qb ?_ | refine QE ?_ | refine Qn ?_ | refine Qf ?_ | ((refine Qg ?_);refine Qj rfl ?_) | ((refine Qe ?_);first | refine Q7 rfl rfl rfl rfl rfl rfl rfl ?_ | refine Q5 rfl rfl rfl rfl rfl rfl rfl rfl ?_) | ((refine Qc ?_);first | (have z:=c6;refine Qel rfl ?_;intro h3 e3 c8) | refine YL rfl c6.at rfl ?_ | refine QD (esz:=1) rfl rfl (by omega) ?_ | refine Xx rfl r1 ?_ | refine Qp rfl ?_ | refine Xa rfl rfl (by omega) ?_ | refine XJ rfl rfl (by omega) ?_ | refine QA rfl rfl ?_))
        refine Qbr p g q q2 h.length h2.length n j d pre cM pv h3 hp hn lpre (by omega) hdl (M1.ext e3) ro (c2.ext e3) (c6.ext e3) c8 (fun y hy=>⟨n2 y hy,by have:=lt y hy;omega,by have:=lt y hy;have:=e1.len;omega⟩) _ ?_
        intro h' s a1 a2 a3 a4 a5 a6 a7
        have nx:=D.next lpre hk (by omega) (hc1.ext e3) hids hpk rfl rfl s (by omega)
        rw [List.map_nil,if_pos rfl] at nx
        repeat' (first | refine Qb ?_ | refine QC ?_ | refine Qf ?_ | ((refine Qe ?_);refine QU rfl rfl rfl rfl rfl ?_) | ((refine Qc ?_);first | refine Qp rfl ?_ | refine QK rfl rfl (by omega) ?_))
        exact Qu (j:=n-(j+1)) (by omega) ⟨j+1,_,_,by omega,rfl,nx,rfl⟩
      | cons x a' =>
        have hjl:j=pre.length+1+a'.length:=by simp at la;omega
        subst lpre
        subst hjl
        rw [hms] at M1 ro lt n2 hids
        have perm:∀ y,y∈pre++pv::(a'++x::cM)→y∈pre++(x::a')++pv::cM:=fun y h=>by
          simp only [List.mem_append,List.mem_cons] at h ⊢
          rcases h with h | h | h | h | h <;> simp [h]
        have rk:=M1.rd (i:=pre.length) (x:=x) (by rw [List.append_assoc,List.getElem?_append_right (Nat.le_refl _)];simp)
        have rj:=M1.rd (i:=pre.length+1+a'.length) (x:=pv) (by rw [List.getElem?_append_right (by simp;omega),show pre.length+1+a'.length-(pre++x::a').length=0 by simp;omega];rfl)
        have w1:=wr1 (i:=pre.length+1+a'.length) (v:=Yg n x) M1.top (by simp;omega)
        have M2:=M1.swap
        obtain ⟨H1,eH1⟩:∃ H:Qa,H=h2.set q (.cells (((pre++(x::a')++pv::cM).map (Yg n)).set (pre.length+1+a'.length) (Yg n x)) true 1):=⟨_,rfl⟩
        rw [← eH1] at w1 M2
        have hq2:q < h2.length:=by have:=e1.len;omega
        have t1:H1[q]?=some (.cells (((pre++(x::a')++pv::cM).map (Yg n)).set (pre.length+1+a'.length) (Yg n x)) true 1):=by rw [eH1,List.getElem?_set_self hq2]
        have w2:=wr1 (i:=pre.length) (v:=Yg n pv) t1 (by simp)
        obtain ⟨H2,eH2⟩:∃ H:Qa,H=H1.set q (.cells ((((pre++(x::a')++pv::cM).map (Yg n)).set (pre.length+1+a'.length) (Yg n x)).set pre.length (Yg n pv)) true 1):=⟨_,rfl⟩
        rw [← eH2] at w2 M2
        have hS:∀ id∈[h.length],H1[id]?=h2[id]?:=fun id hid=>by
          rw [List.mem_singleton] at hid;subst hid
          rw [eH1];exact List.getElem?_set_ne (by omega)
        have c6':Cel1 H2 h.length (.int .i64 (pre.length:Nat)):=by rw [eH2,eH1];exact Cel1.other (Cel1.other c6 (by omega) _) (by omega) _
        have c2':Cel H2 q2 (.int .u64 (p:Nat)) (.int .u64 (g:Nat)):=by rw [eH2,eH1];exact Cel.other (Cel.other c2 D.nq _) D.nq _
        have hc2:Chg (fun j=>j=q∨∃ m,m∈ms0∧m.1=j) h0 H2:=by rw [eH2,eH1];exact (hc1.set (.inl rfl) _).set (.inl rfl) _
        have lH:H2.length=h2.length:=by rw [eH2,eH1];simp
        have r2:=M2.rd (i:=pre.length) (x:=pv) (by rw [List.getElem?_append_right (Nat.le_refl _)];simp)
        have k122:=fun H=>zi H p g 0 d hp.2 (by omega) (Nat.le_of_lt hdl)
        have c1h:Cel1 h2 h.length (.int .i64 (pre.length:Nat)):=c6
        simp only [Yg] at rk rj r2
        clear eH1 eH2 t1 M1
        repeat' (first | refine Qh ?_ | refine Qb ?_ | refine QE ?_ | refine Qn ?_ | refine Qf ?_ | refine Qin [h.length] ?_ | refine s_one (by intro id hid;cases hid <;> exact List.mem_singleton.2 rfl) ?_ | refine s_nil ?_ | ((refine Qg ?_);first | refine Qk rfl ?_ | refine Qj rfl ?_) | ((refine Qe ?_);first | refine Qiz ?_ | refine QM rfl rfl rfl rfl rfl rfl ?_ | refine Q7 rfl rfl rfl rfl rfl rfl rfl ?_ | refine Q5 rfl rfl rfl rfl rfl rfl rfl rfl ?_) | ((refine Qc ?_);first | (have z:=e3;refine Qel rfl ?_;intro h4 e4 c8) | refine YL rfl c6.at rfl ?_ | refine YL rfl (c6'.ext e3).at rfl ?_ | refine QN rfl c2' ?_ | refine QD (esz:=1) rfl rfl (by omega) ?_ | refine Xx rfl rk ?_ | refine Xx rfl rj ?_ | refine Xx rfl (QO e3 r2) ?_ | refine Jk rfl rfl w1 (s_ord hS ?_) | refine Jk rfl rfl w2 (QiH rfl ?_) | (refine Qm rfl (k122 _) ?_;rintro v h3 ⟨e3,rfl⟩) | refine Qp rfl ?_ | refine Xa rfl rfl (by omega) ?_ | refine XX rfl rfl (by omega) ?_ | refine QA rfl rfl ?_))
        refine Qbr p g q q2 h.length h3.length n pre.length (sbM p 0 d) pre (a'++x::cM) pv h4 hp hn rfl (by simp;omega) (yk (by omega)) ((M2.ext e3).ext e4) (fun y hy=>ro y (perm y hy)) ((c2'.ext e3).ext e4) ((c6'.ext e3).ext e4) c8 (fun y hy=>⟨n2 y (perm y hy),by have:=lt y (perm y hy);omega,by have:=lt y (perm y hy);have:=e1.len;have:=e3.len;omega⟩) _ ?_
        intro h' s a1 a2 a3 a4 a5 a6 a7
        have nx:=D.next rfl hk (by simp;omega) ((hc2.ext e3).ext e4) (fun y hy=>hids y (perm y hy)) hpk rfl (by simp [X9]) s (by omega)
        rw [if_neg (by simp)] at nx
        repeat' (first | refine Qb ?_ | refine QC ?_ | refine Qf ?_ | ((refine Qe ?_);refine QU rfl rfl rfl rfl rfl ?_) | ((refine Qc ?_);first | refine Qp rfl ?_ | refine QK rfl rfl (by omega) ?_))
        exact Qu (j:=n-(pre.length+1)) (by omega) ⟨pre.length+1,_,_,by omega,rfl,nx,rfl⟩
  · have:k=n:=by omega
    subst this
    repeat' (first | refine Qh ?_ | refine Qb ?_ | refine QP ?_ | refine QL ?_ | refine Qf ?_ | ((refine Qg ?_);refine Qj rfl ?_) | ((refine Qe ?_);refine QM rfl rfl rfl rfl rfl rfl ?_) | ((refine Qc ?_);refine QH rfl rfl (by omega) ?_))
    have hX:=D.X
    rw [Nat.sub_self] at hX
    have hX:d=X:=hX
    rw [hX]
    exact QG ⟨D.c,.inl ⟨rfl,_,_,_,_,_,rfl⟩⟩
theorem QgY (p g q n:Nat) (ms:List X2) (h0:Qa) (hp:2≤p∧p < 9223372036854775808) (hn:n < 1000000) (M:Mx h0 q n ms) (ro:yH p n ms) (hl:ms.length=n) :
    ∃ r h',Cal FT HKt 130 [fld p g,.sc (.slc q 0 n (some n))] h0 r h'∧Chg (fun j=>j=q∨∃ m∈ms,m.1=j) h0 h'∧r=u (qr p (XR p) n 0 (ms.map (·.2)) 1):=by
  refine Cal.of (F:=a130) rfl rfl rfl ?_
  have hq:q < h0.length:=(List.getElem?_eq_some_iff.1 M.top).1
  have lt:=fun y (hy:y∈ms)=>(M.row y hy).lt
  repeat' (first | refine Qh ?_ | refine Qb ?_ | refine Qt ?_ | refine Qf ?_ | ((refine Qe ?_);first | refine Qv rfl rfl ?_ | refine Qy rfl rfl rfl ?_ | refine QU rfl rfl rfl rfl rfl ?_) | ((refine Qc ?_);first | (refine QR rfl ?_;intro h1 e1 c1) | refine Qp rfl ?_ | refine QA rfl rfl ?_))
  refine Q2 (I130 p g q h0.length n (qr p (XR p) n 0 (ms.map (·.2)) 1) ms h0) n (R130 q n (qr p (XR p) n 0 (ms.map (·.2)) 1) ms h0) ⟨0,1,ms,Nat.zero_le _,rfl,⟨(Chg.refl h0).ext e1,M.ext e1,ro,c1,fun m hm=>⟨m,hm,rfl⟩,hl,by omega,rfl,fun m hm=>by have:=lt m hm;omega,by omega⟩,rfl⟩ (QdM p g q h0.length n _ ms h0 hp hn) ?_
  rintro ex E' h2 ⟨c2,⟨rfl,_,_,_,_,_,rfl⟩ | ⟨rfl,rfl⟩⟩
  · repeat' (first | refine Qh ?_ | refine Qb ?_ | refine QE ?_ | refine Qs ?_ | refine Qf ?_ | ((refine Qe ?_);refine Qr rfl ?_) | ((refine Qc ?_);refine Qp rfl ?_))
    exact ⟨.inr rfl,c2,rfl⟩
  · repeat' (first | refine QF ?_ | refine Xg ?_)
    exact ⟨.inr rfl,c2,rfl⟩
end Go.Proofs.YtofknpknogfijaaGreatDoor
