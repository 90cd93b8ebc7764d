/- The law PolymatrixTriangles: its loops. -/
import Derived.Test.YtofknpknogfijaaGreatDoorTR2
import Derived.Test.YtofknpknogfijaaGreatDoorPZ
import Derived.Test.YtofknpknogfijaaGreatDoorAb50
namespace Go.Proofs.YtofknpknogfijaaGreatDoor
open Go.Ab
set_option linter.unusedVariables false
set_option linter.unusedSimpArgs false
set_option maxRecDepth 20000
set_option maxHeartbeats 8000000
attribute [local irreducible] Qi wA Xk Xj Qz Qo QS QV
set_option linter.unusedSectionVars false
variable [HB]
def xE (l:List Ent) (i k:Nat):Ent:=l.getD ((3*i+k)%l.length) (0,[])
def tP (l:List Ent) (i k:Nat):Pol:=if k < i then ⟨false,[]⟩ else PE (xE l i k)
def qc (l:List Ent) (n i:Nat):List Pol:=(List.range n).map (tP l i)
def JN (l:List Ent) (i:Nat):List (List Tm):=(List.range i).map fun a=>(PE (xE l a a)).ts
theorem diag_succ {l:List Ent} {i:Nat} {e:Int}:PRF (JN l (i+1)) e=X7 (PE (xE l i i)).ts (PRF (JN l i)) e:=by
  unfold JN
  rw [List.range_succ,List.map_append]
  exact QaB _ _ _
theorem Vl {l:List Ent}:∀ {i:Nat},(∀ a,a < i→smE (xE l a a))→PF i (PRF (JN l i))
  | 0,_=>PF.zero
  | i+1,h=>by
    have a:=(Vl (l:=l) (i:=i) fun a ha=>h a (by omega)).mul (eok (h i (by omega))) (esp (h i (by omega)))
    have e:PRF (JN l (i+1))=X7 (PE (xE l i i)).ts (PRF (JN l i)):=funext fun e=>diag_succ
    rw [e];exact a
theorem Qij {l:List Ent} {i k:Nat} (h:0 < l.length):l[(3*i+k)%l.length]?=some (xE l i k):=by
  have hlt:=Nat.mod_lt (3*i+k) h
  unfold xE
  rw [List.getD_eq_getElem?_getD,List.getElem?_eq_getElem hlt];rfl
def I5c (xs:List Int) (a0 a5 a6 a7 a8 a9 a10 a12 a14 a34 a35 a39 a40:AV) (q13:Nat) (s0:Int) (hb:Qa) (k:Nat) (E:Env) (h:Qa):Prop:=∃ (j:Nat) (sm:Int),j≤xs.length∧k=xs.length-j∧h=hb∧0≤sm∧sm≤s0+4*(j:Int) ∧
  E.keep [0,5,6,7,8,9,10,11,12,13,14,15,34,35,39,40]=[(0,some a0),(5,some a5),(6,some a6),(7,some a7),(8,some a8),(9,some a9),(10,some a10),(11,some (.sc (.int .i64 sm))),(12,some a12),(13,some (.sc (.ptr q13 0))),(14,some a14),(15,some (.sc (.int .i64 (j:Nat)))),(34,some a34),(35,some a35),(39,some a39),(40,some a40)]
def R5c (a0 a5 a6 a7 a8 a9 a10 a12 a14 a34 a35 a39 a40:AV) (q13:Nat) (s0:Int) (hb:Qa) (ex:Ex) (E:Env) (h:Qa):Prop:=ex=.ex 4∧h=hb∧∃ (sm:Int) (a15 a69:Option AV),0≤sm∧sm≤s0+12 ∧
  E=[(0,some a0),(5,some a5),(6,some a6),(7,some a7),(8,some a8),(9,some a9),(10,some a10),(11,some (.sc (.int .i64 sm))),(12,some a12),(13,some (.sc (.ptr q13 0))),(14,some a14),(15,a15),(34,some a34),(35,some a35),(39,some a39),(40,some a40),(69,a69)]
theorem QbA (xs:List Int) (v13 s13:SV) (a0 a5 a6 a7 a8 a9 a10 a12 a14 a34 a35 a39 a40:AV) (q13:Nat) (s0:Int) (hs0:0≤s0∧s0≤1000) (hb:Qa) (hl:xs.length≤3) (hx:∀ c∈xs,-4≤c∧c≤4) (c13:Cel hb q13 v13 s13) (hs:IsInts hb s13 xs) (k:Nat) (E:Env) (h:Qa) (hI:I5c xs a0 a5 a6 a7 a8 a9 a10 a12 a14 a34 a35 a39 a40 q13 s0 hb k E h) :
    wA FT HKt b5L2 (E.keep [0,5,6,7,8,9,10,11,12,13,14,15,34,35,39,40]) h (Qo (I5c xs a0 a5 a6 a7 a8 a9 a10 a12 a14 a34 a35 a39 a40 q13 s0 hb) k (R5c a0 a5 a6 a7 a8 a9 a10 a12 a14 a34 a35 a39 a40 q13 s0 hb)):=by
  obtain ⟨j,sm,hj,rfl,rfl,hs1,hs2,hE⟩:=hI
  rw [hE]
  have ls:Yq false s13=some (xs.length:Int):=IsSl.len hs
  by_cases hlt:j < xs.length
  · obtain ⟨c,hc⟩:∃ c,xs[j]?=some c:=⟨_,List.getElem?_eq_getElem hlt⟩
    obtain ⟨id,off,cap,es,rd⟩:=IsInts.at hs hc
    subst es
    have hcb:=hx c (List.mem_of_getElem? hc)
    repeat' (first | refine Qh ?_ | refine Qb ?_ | refine Qt ?_ | refine QC ?_ | refine Qn ?_ | refine Qf ?_ | refine Q9 ?_ | refine Xs ?_ | refine Xt ?_ | ((refine Qg ?_);refine Qk rfl ?_) | ((refine Qe ?_);first | refine Xb ?_ | refine XK rfl rfl rfl rfl rfl rfl rfl rfl rfl rfl rfl rfl rfl rfl rfl rfl ?_ | refine XZ rfl rfl rfl rfl rfl rfl rfl rfl rfl rfl rfl rfl rfl rfl rfl rfl rfl ?_) | ((refine Qc ?_);first | refine Xr rfl ?_ | refine Q0 rfl c13 ?_ | refine QA rfl ls ?_ | refine QD (esz:=1) rfl rfl (by omega) ?_ | refine Xx rfl rd ?_ | refine Zh rfl rfl ?_ | refine Qp rfl ?_ | refine QK rfl rfl (by omega) ?_ | refine YZ rfl (by omega) ?_ | refine Qx rfl rfl (by omega) ?_))
    exact Qu (j:=xs.length-(j+1)) (by omega) ⟨j+1,sm+max c (-c),by omega,rfl,rfl,by omega,by omega,rfl⟩
  · have:j=xs.length:=by omega
    subst this
    repeat' (first | refine Qh ?_ | refine Qb ?_ | refine QP ?_ | refine QL ?_ | refine Qf ?_ | ((refine Qg ?_);refine Qj rfl ?_) | ((refine Qe ?_);refine XZ rfl rfl rfl rfl rfl rfl rfl rfl rfl rfl rfl rfl rfl rfl rfl rfl rfl ?_) | ((refine Qc ?_);first | refine Xr rfl ?_ | refine Q0 rfl c13 ?_ | refine QA rfl ls ?_ | refine Qp rfl ?_ | refine QH rfl rfl (by omega) ?_))
    exact QG ⟨rfl,rfl,sm,_,_,by omega,by omega,rfl⟩
def I5b (l:List Ent) (ls:SV) (n i q6:Nat) (a7 a8:AV) (h0 hr:Qa) (k:Nat) (E:Env) (h:Qa):Prop:=∃ (kk:Nat) (s10 s6:SV) (sum:Int) (p6:Pol),kk≤n∧k=n-kk∧SRowZ fL h0 hr h s10 ((List.range kk).map (tP l i))∧0≤sum∧sum≤12*(kk:Int)∧Cel h q6 (.bool false) s6∧IsD h s6 (tms p6.ts)∧GP (PRF (JN l (if i < kk then i+1 else i))) p6∧Apart s10 s6∧(∀ c,c < kk→smE (xE l i c)) ∧
  E.keep [0,5,6,7,8,9,10,11,34,35,39,40]=[(0,some (.sc ls)),(5,some (.sc (.int .i64 (n:Nat)))),(6,some (.sc (.ptr q6 0))),(7,some a7),(8,some a8),(9,some (.sc (.int .i64 (i:Nat)))),(10,some (.sc s10)),(11,some (.sc (.int .i64 sum))),(34,some (.sc (.int .i64 (n:Nat)))),(35,some (.sc (.int .i64 (i:Nat)))),(39,some (.sc (.int .i64 (n:Nat)))),(40,some (.sc (.int .i64 (kk:Nat))))]
def R5b (l:List Ent) (ls:SV) (n i q6:Nat) (a7 a8:AV) (h0 hr:Qa) (ex:Ex) (E:Env) (h:Qa):Prop :=
  (ex=.ex 2∧∃ (s10 s6:SV) (sum:Int) (p6:Pol) (a9 a39 a40 a41:Option AV),SRowZ fL h0 hr h s10 (qc l n i)∧0≤sum∧sum≤12*(n:Int)∧Cel h q6 (.bool false) s6∧IsD h s6 (tms p6.ts)∧GP (PRF (JN l (i+1))) p6∧(∀ c,c < n→smE (xE l i c)) ∧
    E=[(0,some (.sc ls)),(5,some (.sc (.int .i64 (n:Nat)))),(6,some (.sc (.ptr q6 0))),(7,some a7),(8,some a8),(9,a9),(10,some (.sc s10)),(11,some (.sc (.int .i64 sum))),(34,some (.sc (.int .i64 (n:Nat)))),(35,some (.sc (.int .i64 (i:Nat)))),(39,a39),(40,a40),(41,a41)]) ∨
  (ex=.rt∧E=[(4,some (.sc (.bool true)))])
theorem Qgg (l:List Ent) (ls:SV) (n i q6:Nat) (a7 a8:AV) (h0 hr:Qa) (hL:0 < l.length∧l.length≤40) (hn:n≤12) (hi:i < n) (er:ERow h0 ls l) (hq6:h0.length≤q6) (pf:PF i (PRF (JN l i))) (k:Nat) (E:Env) (h:Qa) (hI:I5b l ls n i q6 a7 a8 h0 hr k E h) :
    wA FT HKt b5L1 (E.keep [0,5,6,7,8,9,10,11,34,35,39,40]) h (Qo (I5b l ls n i q6 a7 a8 h0 hr) k (R5b l ls n i q6 a7 a8 h0 hr)):=by
  obtain ⟨kk,s10,s6,sum,p6,hkk,rfl,sr,hs1,hs2,c6,d6,g6,ap6,hall,hE⟩:=hI
  rw [hE]
  have lr:=er.len
  by_cases hlt:kk < n
  · obtain ⟨id,off,cap,t,es,rd,dt⟩:=er.at (Qij (i:=i) (k:=kk) hL.1)
    subst es
    have rd0:=QO sr.x rd
    have hmod:=Nat.mod_lt (3*i+kk) hL.1
    have hmr:(3*(i:Int)+(kk:Int))%(l.length:Int)=(((3*i+kk)%l.length:Nat):Int):=by
      rw [Int.natCast_emod];congr 1
    have k19:=fun H (e:Ext h0 H)=>QjL H (xE l i kk) t (IsSl.ext dt e)
    have x:=sr.x
    have n6:=c6.lt
    by_cases hs:smE (xE l i kk)
    case neg =>
      simp only [decide_eq_false hs,smN] at k19
      repeat' (first | refine Qh ?_ | refine Qb ?_ | refine QF ?_ | refine Qt ?_ | refine Xg ?_ | refine Qn ?_ | refine Qs ?_ | refine Qf ?_ | ((refine Qg ?_);refine Qk rfl ?_) | ((refine Qe ?_);first | refine Qr rfl ?_ | refine Xo rfl rfl rfl rfl rfl rfl rfl rfl rfl rfl rfl rfl rfl ?_ | refine XO rfl rfl rfl rfl rfl rfl rfl rfl rfl rfl rfl rfl rfl rfl ?_ | refine X0 rfl rfl rfl rfl rfl rfl rfl rfl rfl rfl rfl rfl rfl rfl rfl ?_) | ((refine Qc ?_);first | (refine Y8 rfl rfl (by omega) ?_;rw [hmr]) | refine QA rfl lr ?_ | refine QD (esz:=2) rfl rfl (by omega) ?_ | refine Yi rfl rd0 ?_ | (refine Xm ?_;intro h1 e1 c13;have l13:=x.len;replace x:=x.trans e1) | (refine Xu rfl rfl c13 ?_;intro h2 w2;replace c13:=w2.cel;replace x:=w2.ext x l13) | refine QN rfl c13 ?_ | (refine Qm rfl (k19 _ x) ?_;rintro v h3 ⟨e3,rfl⟩) | refine Xw rfl rfl rfl ?_ | refine Qp rfl ?_ | refine QK rfl rfl (by omega) ?_ | refine YR rfl rfl (by omega) ?_ | refine Qx rfl rfl (by omega) ?_))
      exact XN (.inr ⟨rfl,rfl⟩)
    simp only [decide_eq_true hs,smN] at k19
    have ⟨b1,b2,b3,b4⟩:=hs
    have ek:=eok hs
    have k20:=fun H (e:Ext h0 H)=>Vr H (xE l i kk).1 (by omega) t (xE l i kk).2 (by omega) (IsSl.ext dt e) (fun x hx=>by have:=b4 x hx;omega)
    rw [show (ofP (xE l i kk).1 (xE l i kk).2).big=false from ek.nb] at k20
    obtain ⟨ss,o1,o2,o3⟩:=sr.o
    have k20z:=fun H=>Vr H 0 (by decide) .nilS [] (by decide) (.inl ⟨rfl,rfl,rfl⟩) (by simp)
    rw [show ofP 0 []=⟨false,[]⟩ from rfl] at k20z
    have hall':∀ c,c < kk+1→smE (xE l i c):=fun c hc=>by
      by_cases e:c=kk
      · subst e;exact hs
      · exact hall c (by omega)
    have lz:(List.zipWith fL ((List.range kk).map (tP l i)) ss).length≤1000:=by rw [List.length_zipWith,o1,Nat.min_self,List.length_map,List.length_range];omega
    rcases Nat.lt_trichotomy kk i with hlt2 | rfl | hgt
    · repeat' (first | refine Qh ?_ | refine Qb ?_ | refine Qt ?_ | refine Qn ?_ | refine Qf ?_ | ((refine Qg ?_);first | refine Qk rfl ?_ | refine Qj rfl ?_) | ((refine Qe ?_);first | refine Xo rfl rfl rfl rfl rfl rfl rfl rfl rfl rfl rfl rfl rfl ?_ | refine XO rfl rfl rfl rfl rfl rfl rfl rfl rfl rfl rfl rfl rfl rfl ?_ | refine X0 rfl rfl rfl rfl rfl rfl rfl rfl rfl rfl rfl rfl rfl rfl rfl ?_ | refine XK rfl rfl rfl rfl rfl rfl rfl rfl rfl rfl rfl rfl rfl rfl rfl rfl ?_) | ((refine Qc ?_);first | (have g:=q14;refine Xm ?_;intro h5 e5 c14;have l14:=x.len;have m6:=c6.lt;have m13:=c13.lt;replace x:=x.trans e5;replace z:=z.trans (.ext e5);replace c6:=c6.ext e5;replace c13:=c13.ext e5;replace d14:=d14.ext e5) | (have g:=c14;refine Xu rfl rfl c14 ?_;intro h6 w6;replace c14:=w6.cel;replace x:=w6.ext x l14;replace z:=z.trans (.wr w6);replace c6:=w6.keep c6 (by omega);replace c13:=w6.keep c13 (by omega);replace d14:=IsD.wrC d14 w6) | (refine Y8 rfl rfl (by omega) ?_;rw [hmr]) | refine QA rfl lr ?_ | refine QD (esz:=2) rfl rfl (by omega) ?_ | refine Yi rfl rd0 ?_ | (refine Xm ?_;intro h1 e1 c13;have l13:=x.len;replace x:=x.trans e1;have z:=KZ.ext e1;replace c6:=c6.ext e1) | (refine Xu rfl rfl c13 ?_;intro h2 w2;replace c13:=w2.cel;replace x:=w2.ext x l13;replace z:=z.trans (.wr w2);replace c6:=w2.keep c6 (by omega)) | refine QN rfl c13 ?_ | (refine Qm rfl (k19 _ x) ?_;rintro v h3 ⟨e3,rfl⟩;replace x:=x.trans e3;replace z:=z.trans (.ext e3);replace c6:=c6.ext e3;replace c13:=c13.ext e3) | refine Xa rfl rfl (by decide) ?_ | refine Xr rfl ?_ | refine Q4 rfl c13 ?_ | refine Q0 rfl c13 ?_ | (refine Qm rfl (k20 _ x) ?_;rintro v h4 ⟨e4,t14,rfl,q14⟩;have ap:=OwnD.apart (OwnD.kz o2 z) q14;have d14:=q14.is;replace x:=x.trans e4;replace z:=z.trans (.ext e4);replace c6:=c6.ext e4;replace c13:=c13.ext e4) | refine Qp rfl ?_ | refine QK rfl rfl (by omega) ?_ | refine YR rfl rfl (by omega) ?_ | refine Qx rfl rfl (by omega) ?_))
      repeat' (first | refine Qh ?_ | refine Qb ?_ | refine QC ?_ | refine Qn ?_ | refine Qf ?_ | ((refine Qg ?_);refine Qj rfl ?_) | ((refine Qe ?_);first | refine Xh rfl rfl rfl rfl rfl rfl rfl rfl rfl rfl rfl rfl ?_ | refine XO rfl rfl rfl rfl rfl rfl rfl rfl rfl rfl rfl rfl rfl rfl ?_) | ((refine Qc ?_);first | (refine Qm rfl (k20z _) ?_;rintro v h7 ⟨e7,t0,rfl,q0⟩;have ap0:=OwnD.apart (OwnD.kz o2 z) q0;have d0:=q0.is;have m6:=c6.lt;have m14:=c14.lt;replace x:=x.trans e7;replace z:=z.trans (.ext e7);replace c6:=c6.ext e7;replace c14:=c14.ext e7) | (refine Xu rfl rfl c14 ?_;intro h8 w8;replace c14:=w8.cel;replace x:=w8.ext x l14;replace z:=z.trans (.wr w8);replace c6:=w8.keep c6 (by omega);replace d0:=IsD.wrC d0 w8) | refine Xa rfl rfl (by omega) ?_ | refine QN rfl c14 ?_ | (refine zU rfl ?_;intro h9 e9 s9) | (refine qW (x.trans e9) (OwnD.kz o2 (z.trans (.ext e9))) rfl rfl s9 (by unfold YV;omega) ?_;intro s11 h11 o11 x11 fr11 l11) | refine Qp rfl ?_ | refine QK rfl rfl (by omega) ?_))
      have zz:=z.trans (.ext e9)
      have sr2:SRowZ fL h0 hr h11 s11 ((List.range (kk+1)).map (tP l i)):=by
        rw [List.range_succ,List.map_append]
        have et:(List.map (tP l i) [kk])=[(⟨false,[]⟩:Pol)]:=by
          simp only [List.map_cons,List.map_nil,tP];rw [if_pos hlt2]
        rw [et]
        exact SRowZ.push (sr.z.trans zz) sr.nt o1 (fun i p t y w=>⟨IsD.kz (o3 i p t y w).1 zz,(o3 i p t y w).2⟩) (d0.ext e9) ap0 o11 x11 fr11 l11
      have c6f:=(fr11 _ _ (c6.ext e9) (OwnD.cel (OwnD.kz o2 zz) (c6.ext e9))).1
      have d6f:=IsSl.away (IsD.kz d6 zz) fr11 ap6
      have a6f:=fr11.apart (IsD.kz d6 zz) ap6
      rw [if_neg (by omega)] at g6
      exact Qu (j:=n-(kk+1)) (by omega) ⟨kk+1,s11,s6,sum,p6,by omega,rfl,sr2,hs1,by omega,c6f,d6f,by rw [if_neg (by omega)];exact g6,a6f,hall',rfl⟩
    · repeat' (first | refine Qh ?_ | refine Qb ?_ | refine Qt ?_ | refine Qn ?_ | refine Qf ?_ | ((refine Qg ?_);first | refine Qk rfl ?_ | refine Qj rfl ?_) | ((refine Qe ?_);first | refine Xo rfl rfl rfl rfl rfl rfl rfl rfl rfl rfl rfl rfl rfl ?_ | refine XO rfl rfl rfl rfl rfl rfl rfl rfl rfl rfl rfl rfl rfl rfl ?_ | refine X0 rfl rfl rfl rfl rfl rfl rfl rfl rfl rfl rfl rfl rfl rfl rfl ?_ | refine XK rfl rfl rfl rfl rfl rfl rfl rfl rfl rfl rfl rfl rfl rfl rfl rfl ?_) | ((refine Qc ?_);first | (have g:=q14;refine Xm ?_;intro h5 e5 c14;have l14:=x.len;have m6:=c6.lt;have m13:=c13.lt;replace x:=x.trans e5;replace z:=z.trans (.ext e5);replace c6:=c6.ext e5;replace c13:=c13.ext e5;replace d14:=d14.ext e5) | (have g:=c14;refine Xu rfl rfl c14 ?_;intro h6 w6;replace c14:=w6.cel;replace x:=w6.ext x l14;replace z:=z.trans (.wr w6);replace c6:=w6.keep c6 (by omega);replace c13:=w6.keep c13 (by omega);replace d14:=IsD.wrC d14 w6) | (refine Y8 rfl rfl (by omega) ?_;rw [hmr]) | refine QA rfl lr ?_ | refine QD (esz:=2) rfl rfl (by omega) ?_ | refine Yi rfl rd0 ?_ | (refine Xm ?_;intro h1 e1 c13;have l13:=x.len;replace x:=x.trans e1;have z:=KZ.ext e1;replace c6:=c6.ext e1) | (refine Xu rfl rfl c13 ?_;intro h2 w2;replace c13:=w2.cel;replace x:=w2.ext x l13;replace z:=z.trans (.wr w2);replace c6:=w2.keep c6 (by omega)) | refine QN rfl c13 ?_ | (refine Qm rfl (k19 _ x) ?_;rintro v h3 ⟨e3,rfl⟩;replace x:=x.trans e3;replace z:=z.trans (.ext e3);replace c6:=c6.ext e3;replace c13:=c13.ext e3) | refine Xa rfl rfl (by decide) ?_ | refine Xr rfl ?_ | refine Q4 rfl c13 ?_ | refine Q0 rfl c13 ?_ | (refine Qm rfl (k20 _ x) ?_;rintro v h4 ⟨e4,t14,rfl,q14⟩;have ap:=OwnD.apart (OwnD.kz o2 z) q14;have d14:=q14.is;replace x:=x.trans e4;replace z:=z.trans (.ext e4);replace c6:=c6.ext e4;replace c13:=c13.ext e4) | refine Qp rfl ?_ | refine QK rfl rfl (by omega) ?_ | refine YR rfl rfl (by omega) ?_ | refine Qx rfl rfl (by omega) ?_ | refine QH rfl rfl (by omega) ?_))
      refine Q2 (I5c (xE l kk kk).2 (.sc (.slc id off l.length cap)) (.sc (.int .i64 (n:Nat))) (.sc (.ptr q6 0)) a7 a8 (.sc (.int .i64 (kk:Nat))) (.sc s10) (.sc (.int .i64 (kk:Nat))) (.sc (.ptr h4.length 0)) (.sc (.int .i64 (n:Nat))) (.sc (.int .i64 (kk:Nat))) (.sc (.int .i64 (n:Nat))) (.sc (.int .i64 (kk:Nat))) h.length sum h6) (xE l kk kk).2.length (R5c (.sc (.slc id off l.length cap)) (.sc (.int .i64 (n:Nat))) (.sc (.ptr q6 0)) a7 a8 (.sc (.int .i64 (kk:Nat))) (.sc s10) (.sc (.int .i64 (kk:Nat))) (.sc (.ptr h4.length 0)) (.sc (.int .i64 (n:Nat))) (.sc (.int .i64 (kk:Nat))) (.sc (.int .i64 (n:Nat))) (.sc (.int .i64 (kk:Nat))) h.length sum h6) ⟨0,sum,Nat.zero_le _,rfl,rfl,hs1,by omega,rfl⟩ (QbA (xE l kk kk).2 _ _ _ _ _ _ _ _ _ _ _ _ _ _ _ h.length sum ⟨hs1,by omega⟩ h6 b1 b4 c13 (IsSl.ext dt x)) ?_
      rintro ex E' h7 ⟨rfl,rfl,sm,_,_,sm1,sm2,rfl⟩
      rw [if_neg (Nat.lt_irrefl _)] at g6
      have pf1:=pf.mul ek (esp hs)
      have h12:12 ^ kk≤12 ^ 12:=Nat.pow_le_pow_right (by decide) (by omega)
      have h13:12 ^ (kk+1)≤12 ^ 13:=Nat.pow_le_pow_right (by decide) (by omega)
      have gm:=QgI g6 (pf.fb.mono (by omega) (by simp only [cM];omega)) ek.pok ek.nb (fun t ht=>by have:=(ek.bd t ht).1;omega) (fun e=>by
        by_cases h0:X7 (PE (xE l kk kk)).ts (PRF (JN l kk)) e=0
        · rw [h0];exact Nat.zero_le _
        · have:=(pf1.fb e h0).2
          simp only [cM];omega)
      have k22:=fun H (e1:IsD H s6 (tms p6.ts)) (e2:IsD H t14 (tms (PE (xE l kk kk)).ts))=>QgW H s6 t14 p6 (PE (xE l kk kk)) e1 e2 (g6.pok (pf.fb.mono (by simp only [eM];omega) (by simp only [cM];omega))) ek.pok (fun n1 n2=>by
        obtain ⟨lo1,hl1⟩:=gp_sp g6 pf.sp
        obtain ⟨lo2,hl2⟩:=esp hs
        have a1:=QhA hl1 n1
        have a2:=QhA hl2 n2
        have a3:0≤4*(p6.ts.length:Int)*((PE (xE l kk kk)).ts.length:Int):=Int.mul_nonneg (by omega) (by omega)
        omega)
      rw [g6.nb,ek.nb] at k22
      repeat' (first | refine Qh ?_ | refine Qb ?_ | refine QC ?_ | refine QE ?_ | refine Qf ?_ | ((refine Qg ?_);refine Qk rfl ?_) | ((refine Qe ?_);first | refine Xh rfl rfl rfl rfl rfl rfl rfl rfl rfl rfl rfl rfl ?_ | refine Xo rfl rfl rfl rfl rfl rfl rfl rfl rfl rfl rfl rfl rfl ?_ | refine XO rfl rfl rfl rfl rfl rfl rfl rfl rfl rfl rfl rfl rfl rfl ?_) | ((refine Qc ?_);first | refine Xw rfl rfl rfl ?_ | refine QN rfl c6 ?_ | refine QN rfl c14 ?_ | (refine Qm rfl (k22 _ (IsD.kz d6 z) d14) ?_;rintro v h8 ⟨e8,s8,rfl,q8⟩;have ap8:=OwnD.apart (OwnD.kz o2 z) q8;have d8:=q8.is;have m6:=c6.lt;have m14:=c14.lt;replace x:=x.trans e8;replace z:=z.trans (.ext e8);replace c6:=c6.ext e8;replace c14:=c14.ext e8;replace d14:=d14.ext e8) | (refine Xu rfl rfl c6 ?_;intro h9' w9;replace c6:=w9.cel;replace x:=w9.ext x hq6;replace z:=z.trans (.wr w9);replace c14:=w9.keep c14 (by omega);replace d8:=IsD.wrC d8 w9;replace d14:=IsD.wrC d14 w9) | (refine zU rfl ?_;intro h9 e9 s9) | (refine qW (x.trans e9) (OwnD.kz o2 (z.trans (.ext e9))) rfl rfl s9 (by unfold YV;omega) ?_;intro s11 h11 o11 x11 fr11 l11) | refine Qp rfl ?_ | refine QK rfl rfl (by omega) ?_))
      have zz:=z.trans (.ext e9)
      have sr2:SRowZ fL h0 hr h11 s11 ((List.range (kk+1)).map (tP l kk)):=by
        rw [List.range_succ,List.map_append]
        have et:(List.map (tP l kk) [kk])=[PE (xE l kk kk)]:=by
          simp only [List.map_cons,List.map_nil,tP];rw [if_neg (by omega)]
        rw [et]
        have o12:OwnD h0 h11 s11 (List.zipWith fL ((List.range kk).map (tP l kk)) ss++[fL (PE (xE l kk kk)) t14]):=by
          show OwnD _ _ _ (_++[(SV.bool (PE (xE l kk kk)).big,t14)])
          rw [ek.nb];exact o11
        exact SRowZ.push (sr.z.trans zz) sr.nt o1 (fun j p t y w=>⟨IsD.kz (o3 j p t y w).1 zz,(o3 j p t y w).2⟩) (d14.ext e9) ap o12 x11 fr11 l11
      have c6f:=(fr11 _ _ (c6.ext e9) (OwnD.cel (OwnD.kz o2 zz) (c6.ext e9))).1
      have d6f:=IsSl.away (d8.ext e9) fr11 ap8
      have a6f:=fr11.apart (d8.ext e9) ap8
      exact Qu (j:=n-(kk+1)) (by omega) ⟨kk+1,s11,s8,sm,_,by omega,rfl,sr2,by omega,by omega,by rw [gm.nb] at c6f;exact c6f,d6f,by rw [if_pos (by omega)];exact gm.cong fun e=>diag_succ.symm,a6f,hall',rfl⟩
    · repeat' (first | refine Qh ?_ | refine Qb ?_ | refine Qt ?_ | refine Qn ?_ | refine Qf ?_ | ((refine Qg ?_);first | refine Qk rfl ?_ | refine Qj rfl ?_) | ((refine Qe ?_);first | refine Xo rfl rfl rfl rfl rfl rfl rfl rfl rfl rfl rfl rfl rfl ?_ | refine XO rfl rfl rfl rfl rfl rfl rfl rfl rfl rfl rfl rfl rfl rfl ?_ | refine X0 rfl rfl rfl rfl rfl rfl rfl rfl rfl rfl rfl rfl rfl rfl rfl ?_ | refine XK rfl rfl rfl rfl rfl rfl rfl rfl rfl rfl rfl rfl rfl rfl rfl rfl ?_) | ((refine Qc ?_);first | (have g:=q14;refine Xm ?_;intro h5 e5 c14;have l14:=x.len;have m6:=c6.lt;have m13:=c13.lt;replace x:=x.trans e5;replace z:=z.trans (.ext e5);replace c6:=c6.ext e5;replace c13:=c13.ext e5;replace d14:=d14.ext e5) | (have g:=c14;refine Xu rfl rfl c14 ?_;intro h6 w6;replace c14:=w6.cel;replace x:=w6.ext x l14;replace z:=z.trans (.wr w6);replace c6:=w6.keep c6 (by omega);replace c13:=w6.keep c13 (by omega);replace d14:=IsD.wrC d14 w6) | (refine Y8 rfl rfl (by omega) ?_;rw [hmr]) | refine QA rfl lr ?_ | refine QD (esz:=2) rfl rfl (by omega) ?_ | refine Yi rfl rd0 ?_ | (refine Xm ?_;intro h1 e1 c13;have l13:=x.len;replace x:=x.trans e1;have z:=KZ.ext e1;replace c6:=c6.ext e1) | (refine Xu rfl rfl c13 ?_;intro h2 w2;replace c13:=w2.cel;replace x:=w2.ext x l13;replace z:=z.trans (.wr w2);replace c6:=w2.keep c6 (by omega)) | refine QN rfl c13 ?_ | (refine Qm rfl (k19 _ x) ?_;rintro v h3 ⟨e3,rfl⟩;replace x:=x.trans e3;replace z:=z.trans (.ext e3);replace c6:=c6.ext e3;replace c13:=c13.ext e3) | refine Xa rfl rfl (by decide) ?_ | refine Xr rfl ?_ | refine Q4 rfl c13 ?_ | refine Q0 rfl c13 ?_ | (refine Qm rfl (k20 _ x) ?_;rintro v h4 ⟨e4,t14,rfl,q14⟩;have ap:=OwnD.apart (OwnD.kz o2 z) q14;have d14:=q14.is;replace x:=x.trans e4;replace z:=z.trans (.ext e4);replace c6:=c6.ext e4;replace c13:=c13.ext e4) | refine Qp rfl ?_ | refine QK rfl rfl (by omega) ?_ | refine YR rfl rfl (by omega) ?_ | refine Qx rfl rfl (by omega) ?_ | refine QH rfl rfl (by omega) ?_))
      refine Q2 (I5c (xE l i kk).2 (.sc (.slc id off l.length cap)) (.sc (.int .i64 (n:Nat))) (.sc (.ptr q6 0)) a7 a8 (.sc (.int .i64 (i:Nat))) (.sc s10) (.sc (.int .i64 (kk:Nat))) (.sc (.ptr h4.length 0)) (.sc (.int .i64 (n:Nat))) (.sc (.int .i64 (i:Nat))) (.sc (.int .i64 (n:Nat))) (.sc (.int .i64 (kk:Nat))) h.length sum h6) (xE l i kk).2.length (R5c (.sc (.slc id off l.length cap)) (.sc (.int .i64 (n:Nat))) (.sc (.ptr q6 0)) a7 a8 (.sc (.int .i64 (i:Nat))) (.sc s10) (.sc (.int .i64 (kk:Nat))) (.sc (.ptr h4.length 0)) (.sc (.int .i64 (n:Nat))) (.sc (.int .i64 (i:Nat))) (.sc (.int .i64 (n:Nat))) (.sc (.int .i64 (kk:Nat))) h.length sum h6) ⟨0,sum,Nat.zero_le _,rfl,rfl,hs1,by omega,rfl⟩ (QbA (xE l i kk).2 _ _ _ _ _ _ _ _ _ _ _ _ _ _ _ h.length sum ⟨hs1,by omega⟩ h6 b1 b4 c13 (IsSl.ext dt x)) ?_
      rintro ex E' h7 ⟨rfl,rfl,sm,_,_,sm1,sm2,rfl⟩
      repeat' (first | refine Qh ?_ | refine Qb ?_ | refine QC ?_ | refine QE ?_ | refine Qn ?_ | refine Qf ?_ | ((refine Qg ?_);refine Qj rfl ?_) | ((refine Qe ?_);first | refine Xh rfl rfl rfl rfl rfl rfl rfl rfl rfl rfl rfl rfl ?_ | refine XO rfl rfl rfl rfl rfl rfl rfl rfl rfl rfl rfl rfl rfl rfl ?_) | ((refine Qc ?_);first | refine Xa rfl rfl (by omega) ?_ | refine QN rfl c14 ?_ | (refine zU rfl ?_;intro h9 e9 s9) | (refine qW (x.trans e9) (OwnD.kz o2 (z.trans (.ext e9))) rfl rfl s9 (by unfold YV;omega) ?_;intro s11 h11 o11 x11 fr11 l11) | refine Qp rfl ?_ | refine QK rfl rfl (by omega) ?_))
      have zz:=z.trans (.ext e9)
      have sr2:SRowZ fL h0 hr h11 s11 ((List.range (kk+1)).map (tP l i)):=by
        rw [List.range_succ,List.map_append]
        have et:(List.map (tP l i) [kk])=[PE (xE l i kk)]:=by
          simp only [List.map_cons,List.map_nil,tP];rw [if_neg (by omega)]
        rw [et]
        have o12:OwnD h0 h11 s11 (List.zipWith fL ((List.range kk).map (tP l i)) ss++[fL (PE (xE l i kk)) t14]):=by
          show OwnD _ _ _ (_++[(SV.bool (PE (xE l i kk)).big,t14)])
          rw [ek.nb];exact o11
        exact SRowZ.push (sr.z.trans zz) sr.nt o1 (fun i p t y w=>⟨IsD.kz (o3 i p t y w).1 zz,(o3 i p t y w).2⟩) (d14.ext e9) ap o12 x11 fr11 l11
      have c6f:=(fr11 _ _ (c6.ext e9) (OwnD.cel (OwnD.kz o2 zz) (c6.ext e9))).1
      have d6f:=IsSl.away (IsD.kz d6 zz) fr11 ap6
      have a6f:=fr11.apart (IsD.kz d6 zz) ap6
      rw [if_pos hgt] at g6
      exact Qu (j:=n-(kk+1)) (by omega) ⟨kk+1,s11,s6,sm,p6,by omega,rfl,sr2,by omega,by omega,c6f,d6f,by rw [if_pos (by omega)];exact g6,a6f,hall',rfl⟩
  · have:kk=n:=by omega
    subst this
    rw [if_pos hi] at g6
    repeat' (first | refine Qh ?_ | refine Qb ?_ | refine QP ?_ | refine QL ?_ | refine Qf ?_ | ((refine Qg ?_);refine Qj rfl ?_) | ((refine Qe ?_);refine Xo rfl rfl rfl rfl rfl rfl rfl rfl rfl rfl rfl rfl rfl ?_) | ((refine Qc ?_);refine QH rfl rfl (by omega) ?_))
    exact QG (.inl ⟨rfl,s10,s6,sum,p6,_,_,_,_,sr,hs1,hs2,c6,d6,g6,hall,rfl⟩)
end Go.Proofs.YtofknpknogfijaaGreatDoor
