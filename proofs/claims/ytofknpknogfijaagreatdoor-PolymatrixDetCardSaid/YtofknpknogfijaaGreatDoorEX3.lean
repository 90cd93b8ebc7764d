/- The reference's wide numbers: norm 95,plus 94,small 96. -/
import Derived.Test.YtofknpknogfijaaGreatDoorO5
namespace Go.Proofs.YtofknpknogfijaaGreatDoor
open Go.Ab
set_option linter.unusedVariables false
set_option linter.unusedSimpArgs false
set_option maxRecDepth 20000
set_option maxHeartbeats 4000000
attribute [local irreducible] Qj wA Xm Xk QI Qo QW
set_option linter.unusedSectionVars false
variable [HB]
abbrev WV (a b:Int):AV:=.agg [.int .i64 a,.int .i64 b]
def I112 (h0:Qa) (q1 q2:Nat) (H L:Int) (k:Nat) (E:Env) (h:Qa):Prop:=∃ a b:Int,a*1125899906842624+b=H*1125899906842624+L∧a≤H∧H≤a+1000-k∧b≤1152921504606846976 ∧ -1125899906842624*k≤b∧Ext h0 h∧Cel h q1 (.int .i64 a) (.int .i64 b)∧Cel h q2 (.int .i64 0) (.int .i64 0) ∧
  E.keep [1,2]=[(1,some (.sc (.ptr q1 0))),(2,some (.sc (.ptr q2 0)))]
def R112 (h0:Qa) (q1 q2:Nat) (H L:Int) (ex:Ex) (E:Env) (h:Qa):Prop:=ex=.ex 0∧∃ a b:Int,∃ d,a*1125899906842624+b=H*1125899906842624+L∧a≤H∧H≤a+1000∧0≤b∧b≤1152921504606846976∧Ext h0 h∧Cel h q1 (.int .i64 a) (.int .i64 b)∧Cel h q2 (.int .i64 0) (.int .i64 0) ∧
  E=[(1,some (.sc (.ptr q1 0))),(2,some (.sc (.ptr q2 0))),(5,d)]
theorem Qew (h0:Qa) (q1 q2:Nat) (l1:h0.length≤q1) (l2:q1 < q2) (H L:Int) (hH : -1152921504606846976≤H∧H≤1152921504606846976) (k:Nat) (E:Env) (h:Qa) (hI:I112 h0 q1 q2 H L k E h) :
    wA FT HKt Qf2 (E.keep [1,2]) h (Qo (I112 h0 q1 q2 H L) k (R112 h0 q1 q2 H L)):=by
  obtain ⟨a,b,he,ha,ha2,hb,hb2,e,c1,c2,hE⟩:=hI
  rw [hE]
  by_cases hlt:b < 0
  · repeat' (first | refine Qg ?_ | refine Qb ?_ | refine Qt ?_ | refine QG ?_ | refine Qp ?_ | refine Qf ?_ | ((refine Qh ?_);refine Qk rfl ?_) | ((refine Qe ?_);first | refine Qy rfl rfl ?_ | refine QB rfl rfl rfl ?_) | ((refine Qc ?_);first | refine QQ rfl ?_ | refine Xc rfl c1 ?_ | refine Q6 rfl c1 ?_ | (refine Uf rfl rfl c1 ?_;intro h1 w1;have c1':=w1.cel;have c2':=w1.keep c2 (by omega)) | (refine yD rfl rfl c1' ?_;intro h2 w2) | refine QM rfl rfl (by omega) ?_ | refine ZI rfl rfl (by omega) ?_ | refine Qw rfl rfl (by omega) ?_))
    exact Qs (j:=k-1) (by omega) ⟨a-1,b+1125899906842624,by omega,by omega,by omega,by omega,by omega,w2.ext (w1.ext e l1) l1,w2.cel,w2.keep c2' (by omega),rfl⟩
  · repeat' (first | refine Qg ?_ | refine Qb ?_ | refine QK ?_ | refine QH ?_ | refine Qf ?_ | ((refine Qh ?_);refine Qi rfl ?_) | ((refine Qe ?_);refine QB rfl rfl rfl ?_) | ((refine Qc ?_);first | refine QQ rfl ?_ | refine Xc rfl c1 ?_ | refine QE rfl rfl (by omega) ?_))
    exact Qz ⟨rfl,a,b,_,he,ha,by omega,by omega,hb,e,c1,c2,rfl⟩
theorem QcS (h0:Qa) (H L:Int) (hH : -1125899906842624000≤H∧H≤1125899906842624000) (hL : -1125899906842624000≤L∧L≤1125899906842624000) :
    ∃ r h',Cal FT HKt 112 [WV H L] h0 r h'∧Ext h0 h'∧r=WV (H+L / 1125899906842624) (L%1125899906842624):=by
  refine Cal.of (F:=a112) rfl rfl rfl ?_
  repeat' (first | refine Qg ?_ | refine Qb ?_ | refine Qt ?_ | refine Qf ?_ | ((refine Qe ?_);refine Qy rfl rfl ?_) | ((refine Qc ?_);first | (have z:=e1;refine Xz ?_;intro h2 e2 c2;have d1:=c1.ext e2;have m1:=c1.lt) | (refine Q3 rfl ?_;intro h1 e1 c1)))
  refine QP (I112 h0 h0.length h1.length H L) 1000 (R112 h0 h0.length h1.length H L) ⟨H,L,rfl,by omega,by omega,by omega,by omega,e1.trans e2,d1,c2,rfl⟩ (Qew h0 h0.length h1.length (Nat.le_refl _) m1 H L (by omega)) ?_
  rintro ex E' h3 ⟨rfl,a,b,d,he,ha,ha2,hb,hb2,e3,c3,d3,rfl⟩
  repeat' (first | refine Qg ?_ | refine Qb ?_ | refine QC ?_ | refine Qv ?_ | refine Qf ?_ | ((refine Qe ?_);first | refine Qq rfl ?_ | refine Qy rfl rfl ?_) | ((refine Qc ?_);first | refine QQ rfl ?_ | refine Xc rfl c3 ?_ | refine Q6 rfl c3 ?_ | refine Xa rfl c5 ?_ | (refine yD rfl rfl c3 ?_;intro h4 w4;have c4:=w4.cel;have d4:=w4.keep d3 (by omega)) | (refine Uf rfl rfl c4 ?_;intro h5 w5;have c5:=w5.cel;have d5:=w5.keep d4 (by omega)) | (refine Xw rfl rfl d5 ?_;intro h6 w6) | refine QM rfl rfl (by omega) ?_ | refine Jn rfl rfl (by omega) ?_ | refine Zw rfl rfl (by omega) ?_))
  refine ⟨.inr rfl,XM rfl w6.cel.read ⟨w6.ext (w5.ext (w4.ext e3 (Nat.le_refl _)) (Nat.le_refl _)) (by omega),?_⟩⟩
  rw [show H+L / 1125899906842624=a+b / 1125899906842624 by omega,show L%1125899906842624=b%1125899906842624 by omega]
theorem Qif (h0:Qa) (a b c d:Int) (ha:a.natAbs≤500000000000000000) (hc:c.natAbs≤500000000000000000) (hb:0≤b∧b < 1125899906842624) (hd:0≤d∧d < 1125899906842624) :
    ∃ r h',Cal FT HKt 111 [WV a b,WV c d] h0 r h'∧Ext h0 h'∧r=WV (a+c+(b+d) / 1125899906842624) ((b+d)%1125899906842624):=by
  refine Cal.of (F:=a111) rfl rfl rfl ?_
  have k95:=fun H=>QcS H (a+c) (b+d) (by omega) (by omega)
  repeat' (first | refine Qg ?_ | refine Qb ?_ | refine Qv ?_ | refine Qf ?_ | ((refine Qe ?_);first | refine Qq rfl ?_ | refine QB rfl rfl rfl ?_) | ((refine Qc ?_);first | (have z:=e2;refine Xz ?_;intro h3 e3 c3;have d1:=(c1.ext e2).ext e3;have d2:=c2.ext e3) | (have z:=e1;refine Q3 rfl ?_;intro h2 e2 c2) | (refine Q3 rfl ?_;intro h1 e1 c1) | refine QQ rfl ?_ | refine Q6 rfl d1 ?_ | refine Q6 rfl d2 ?_ | refine Xc rfl d1 ?_ | refine Xc rfl d2 ?_ | (refine X5 rfl rfl ?_) | (refine Qn rfl (k95 h3) ?_;rintro r h4 ⟨e4,rfl⟩;have d3:=c3.ext e4) | (refine Xw rfl rfl d3 ?_;intro h5 w5) | refine QM rfl rfl (by omega) ?_))
  exact ⟨.inr rfl,XM rfl w5.cel.read ⟨w5.ext (e1.trans (e2.trans (e3.trans e4))) (Nat.le_trans e1.len e2.len),rfl⟩⟩
theorem nab {x:Int}:x.natAbs≤cM ↔ -1125899906842624≤x∧x≤1125899906842624:=by simp only [cM];omega
theorem QcR (h0:Qa) (a b:Int) (hb:0≤b∧b < 1125899906842624) :
    ∃ r h',Cal FT HKt 113 [WV a b] h0 r h'∧Ext h0 h'∧∃ n:Int,∃ ok:Bool,r=.tup [.sc (.int .i64 n),.sc (.bool ok)]∧(ok=true↔(a*1125899906842624+b).natAbs≤cM)∧(ok=true→n=a*1125899906842624+b):=by
  refine Cal.of (F:=a113) rfl rfl rfl ?_
  by_cases h1:a < -2
  · repeat' (first | refine Qg ?_ | refine Qb ?_ | refine QL ?_ | refine Qv ?_ | refine Qf ?_ | ((refine Qh ?_);refine Qk rfl ?_) | ((refine Qe ?_);first | refine Qq rfl ?_ | refine Qy rfl rfl ?_) | ((refine Qc ?_);first | (refine Q3 rfl ?_;intro h1 e1 c1) | refine QQ rfl ?_ | refine Q6 rfl c1 ?_ | refine Xo rfl ?_ | refine Qm rfl ?_ | refine QY rfl rfl ?_ | refine Qw rfl rfl (by omega) ?_))
    exact ⟨.inr rfl,e1,0,false,rfl,⟨(nomatch ·),fun h=>by have:=nab.1 h;omega⟩,by simp⟩
  by_cases h2:2 < a
  · repeat' (first | refine Qg ?_ | refine Qb ?_ | refine QL ?_ | refine Qv ?_ | refine Qf ?_ | ((refine Qh ?_);refine Qk rfl ?_) | ((refine Qe ?_);first | refine Qq rfl ?_ | refine Qy rfl rfl ?_) | ((refine Qc ?_);first | (refine Q3 rfl ?_;intro h1 e1 c1) | refine QQ rfl ?_ | refine Q6 rfl c1 ?_ | refine QX rfl ?_ | refine Qm rfl ?_ | refine QU rfl rfl ?_ | refine QE rfl rfl (by omega) ?_ | refine XG rfl rfl (by omega) ?_))
    exact ⟨.inr rfl,e1,0,false,rfl,⟨(nomatch ·),fun h=>by have:=nab.1 h;omega⟩,by simp⟩
  by_cases h3 : -1125899906842624≤a*1125899906842624+b
  · by_cases h4:a*1125899906842624+b≤1125899906842624
    · repeat' (first | refine Qg ?_ | refine Qb ?_ | refine Qp ?_ | refine Qv ?_ | refine Qf ?_ | ((refine Qh ?_);refine Qi rfl ?_) | ((refine Qe ?_);first | refine Qq rfl ?_ | refine Qy rfl rfl ?_) | ((refine Qc ?_);first | (refine Q3 rfl ?_;intro h1 e1 c1) | refine QQ rfl ?_ | refine Q6 rfl c1 ?_ | refine Xc rfl c1 ?_ | refine QX rfl ?_ | refine Qm rfl ?_ | refine QY rfl rfl ?_ | refine QU rfl rfl ?_ | refine QM rfl rfl (by omega) ?_ | refine ZJ rfl rfl (by omega) ?_ | refine QE rfl rfl (by omega) ?_ | refine Zj rfl rfl (by omega) ?_ | refine XA rfl rfl (by omega) ?_ | refine XK rfl rfl (by omega) ?_))
      exact ⟨.inr rfl,e1,_,true,rfl,⟨fun _=>nab.2 (by omega),fun _=>rfl⟩,fun _=>rfl⟩
    · repeat' (first | refine Qg ?_ | refine Qb ?_ | refine Qp ?_ | refine Qv ?_ | refine Qf ?_ | ((refine Qh ?_);refine Qi rfl ?_) | ((refine Qe ?_);first | refine Qq rfl ?_ | refine Qy rfl rfl ?_) | ((refine Qc ?_);first | (refine Q3 rfl ?_;intro h1 e1 c1) | refine QQ rfl ?_ | refine Q6 rfl c1 ?_ | refine Xc rfl c1 ?_ | refine QX rfl ?_ | refine Qm rfl ?_ | refine QY rfl rfl ?_ | refine QU rfl rfl ?_ | refine QM rfl rfl (by omega) ?_ | refine ZJ rfl rfl (by omega) ?_ | refine QE rfl rfl (by omega) ?_ | refine Y4 rfl rfl (by omega) ?_ | refine XA rfl rfl (by omega) ?_ | refine XK rfl rfl (by omega) ?_))
      exact ⟨.inr rfl,e1,_,false,rfl,⟨(nomatch ·),fun h=>by have:=nab.1 h;omega⟩,by simp⟩
  · repeat' (first | refine Qg ?_ | refine Qb ?_ | refine Qp ?_ | refine Qv ?_ | refine Qf ?_ | ((refine Qh ?_);refine Qi rfl ?_) | ((refine Qe ?_);first | refine Qq rfl ?_ | refine Qy rfl rfl ?_) | ((refine Qc ?_);first | (refine Q3 rfl ?_;intro h1 e1 c1) | refine QQ rfl ?_ | refine Q6 rfl c1 ?_ | refine Xc rfl c1 ?_ | refine Xo rfl ?_ | refine QX rfl ?_ | refine Qm rfl ?_ | refine QU rfl rfl ?_ | refine QM rfl rfl (by omega) ?_ | refine ZJ rfl rfl (by omega) ?_ | refine QE rfl rfl (by omega) ?_ | refine XA rfl rfl (by omega) ?_ | refine XH rfl rfl (by omega) ?_))
    exact ⟨.inr rfl,e1,_,false,rfl,⟨(nomatch ·),fun h=>by have:=nab.1 h;omega⟩,by simp⟩
end Go.Proofs.YtofknpknogfijaaGreatDoor


namespace Go.Proofs.YtofknpknogfijaaGreatDoor
open Go.Ab
set_option linter.unusedVariables false
set_option linter.unusedSimpArgs false
set_option maxRecDepth 20000
set_option maxHeartbeats 4000000
attribute [local irreducible] Qj wA Xm Xk QI Qo QW
set_option linter.unusedSectionVars false
variable [HB]
abbrev nh (x:Int):SV:=.int .i64 (x / 1125899906842624)
abbrev nl (x:Int):SV:=.int .i64 (x%1125899906842624)
abbrev nf (x:Int):AV:=.agg [nh x,nl x]
theorem Ur (h0:Qa) (x y:Int) (hx:x.natAbs≤2 ^ 105) (hy:y.natAbs≤2 ^ 105):∃ r h',Cal FT HKt 111 [nf x,nf y] h0 r h'∧Ext h0 h'∧r=nf (x+y):=by
  obtain ⟨r,h',a,b,rfl⟩:=Qif h0 (x / 1125899906842624) (x%1125899906842624) (y / 1125899906842624) (y%1125899906842624) (by omega) (by omega) (by omega) (by omega)
  refine ⟨_,h',a,b,?_⟩
  rw [show x / 1125899906842624+y / 1125899906842624+(x%1125899906842624+y%1125899906842624) / 1125899906842624=(x+y) / 1125899906842624 by omega,show (x%1125899906842624+y%1125899906842624)%1125899906842624=(x+y)%1125899906842624 by omega]
def I81b (h0:Qa) (q4 q6 q9:Nat) (A b sg:Int) (s:Nat) (x p:Int) (k:Nat) (E:Env) (h:Qa):Prop:=∃ i:Nat,i≤s∧k=s-i∧Ext h0 h∧Cel h q4 (.int .i64 0) (.int .i64 0)∧Cel h q6 (nh x) (nl x)∧Cel h q9 (nh (p*2 ^ i)) (nl (p*2 ^ i)) ∧
  E.keep [0,1,4,5,6,7,9,10]=[(0,some (.sc (.int .i64 A))),(1,some (.sc (.int .i64 b))),(4,some (.sc (.ptr q4 0))),(5,some (.sc (.int .i64 sg))),(6,some (.sc (.ptr q6 0))),(7,some (.sc (.int .i64 (s:Nat)))),(9,some (.sc (.ptr q9 0))),(10,some (.sc (.int .i64 (i:Nat))))]
def R81b (h0:Qa) (q4 q6 q9:Nat) (A b sg:Int) (s:Nat) (x p:Int) (ex:Ex) (E:Env) (h:Qa):Prop:=ex=.ex 2∧∃ a d,Ext h0 h∧Cel h q4 (.int .i64 0) (.int .i64 0)∧Cel h q6 (nh x) (nl x)∧Cel h q9 (nh (p*2 ^ s)) (nl (p*2 ^ s)) ∧
  E=[(0,some (.sc (.int .i64 A))),(1,some (.sc (.int .i64 b))),(4,some (.sc (.ptr q4 0))),(5,some (.sc (.int .i64 sg))),(6,some (.sc (.ptr q6 0))),(7,some (.sc (.int .i64 (s:Nat)))),(9,some (.sc (.ptr q9 0))),(10,a),(41,d)]
theorem Qee (h0:Qa) (q4 q6 q9:Nat) (l4:h0.length≤q4) (l6:q4 < q6) (l9:q6 < q9) (A b sg:Int) (s:Nat) (hs:s≤60) (x p:Int) (hp:p.natAbs*2 ^ s≤2 ^ 100) (k:Nat) (E:Env) (h:Qa) (hI:I81b h0 q4 q6 q9 A b sg s x p k E h) :
    wA FT HKt QiZ (E.keep [0,1,4,5,6,7,9,10]) h (Qo (I81b h0 q4 q6 q9 A b sg s x p) k (R81b h0 q4 q6 q9 A b sg s x p)):=by
  obtain ⟨i,hi,rfl,e,c4,c6,c9,hE⟩:=hI
  rw [hE]
  by_cases hlt:i < s
  · have hx:(p*2 ^ i).natAbs≤2 ^ 105:=by
      rw [Int.natAbs_mul,Int.natAbs_pow]
      have h1:p.natAbs*2 ^ i≤p.natAbs*2 ^ s:=Nat.mul_le_mul_left _ (Nat.pow_le_pow_right (by omega) hi)
      have h2:(2:Int).natAbs=2:=rfl
      rw [h2];omega
    have k94:=fun H=>Ur H (p*2 ^ i) (p*2 ^ i) hx hx
    have hp2:p*2 ^ i+p*2 ^ i=p*2 ^ (i+1):=by rw [Int.pow_succ,← Int.mul_assoc];omega
    rw [hp2] at k94
    repeat' (first | refine Qg ?_ | refine Qb ?_ | refine Qt ?_ | refine QG ?_ | refine Qp ?_ | refine Qf ?_ | ((refine Qh ?_);refine Qk rfl ?_) | ((refine Qe ?_);first | refine Q8 rfl rfl rfl rfl rfl rfl rfl rfl ?_ | refine Xj rfl rfl rfl rfl rfl rfl rfl rfl rfl ?_) | ((refine Qc ?_);first | refine Xa rfl c9 ?_ | (refine Qn rfl (k94 h) ?_;rintro r h1 ⟨e1,rfl⟩;have d9:=c9.ext e1) | (refine Xw rfl rfl d9 ?_;intro h2 w2) | refine Qm rfl ?_ | refine QM rfl rfl (by omega) ?_ | refine Qw rfl rfl (by omega) ?_))
    exact Qs (j:=s-(i+1)) (by omega) ⟨i+1,by omega,rfl,w2.ext (e.trans e1) (by omega),w2.keep (c4.ext e1) (by omega),w2.keep (c6.ext e1) (by omega),w2.cel,rfl⟩
  · have:i=s:=by omega
    subst this
    repeat' (first | refine Qg ?_ | refine Qb ?_ | refine QK ?_ | refine QH ?_ | refine Qf ?_ | ((refine Qh ?_);refine Qi rfl ?_) | ((refine Qe ?_);refine Xj rfl rfl rfl rfl rfl rfl rfl rfl rfl ?_) | ((refine Qc ?_);first | refine Qm rfl ?_ | refine QE rfl rfl (by omega) ?_))
    exact Qz ⟨rfl,_,_,e,c4,c6,c9,rfl⟩
def I81 (h0:Qa) (q4 q6:Nat) (A:Nat) (b sg:Int) (k:Nat) (E:Env) (h:Qa):Prop:=∃ s:Nat,s≤60∧k=60-s∧s%10=0∧Ext h0 h∧Cel h q4 (.int .i64 0) (.int .i64 0)∧Cel h q6 (nh (sg*(A%2 ^ s:Nat)*b)) (nl (sg*(A%2 ^ s:Nat)*b)) ∧
  E.keep [0,1,4,5,6,7]=[(0,some (.sc (.int .i64 (A:Nat)))),(1,some (.sc (.int .i64 b))),(4,some (.sc (.ptr q4 0))),(5,some (.sc (.int .i64 sg))),(6,some (.sc (.ptr q6 0))),(7,some (.sc (.int .i64 (s:Nat))))]
def R81 (h0:Qa) (q4 q6:Nat) (A:Nat) (b sg:Int) (ex:Ex) (E:Env) (h:Qa):Prop:=ex=.ex 0∧∃ a0 a1 a5 a7 d,Ext h0 h∧Cel h q4 (.int .i64 0) (.int .i64 0)∧Cel h q6 (nh (sg*A*b)) (nl (sg*A*b)) ∧
  E=[(0,a0),(1,a1),(4,some (.sc (.ptr q4 0))),(5,a5),(6,some (.sc (.ptr q6 0))),(7,a7),(17,d)]
theorem pc_tm (p:Int):p.tmod 1125899906842624+1125899906842624*p.tdiv 1125899906842624=p ∧ -1125899906842624 < p.tmod 1125899906842624∧p.tmod 1125899906842624 < 1125899906842624 :=
  ⟨Int.tmod_add_mul_tdiv p _,by have:=Int.lt_tmod_of_pos p (b:=1125899906842624) (by decide);omega,Int.tmod_lt_of_pos p (by decide)⟩
theorem Qcc (h0:Qa) (q4 q6:Nat) (l4:h0.length≤q4) (l6:q4 < q6) (A:Nat) (hA:A≤1125899906842624) (b sg:Int) (hb:b.natAbs≤1125899906842624) (hsg:sg=1∨sg = -1) (k:Nat) (E:Env) (h:Qa) (hI:I81 h0 q4 q6 A b sg k E h) :
    wA FT HKt Qi0 (E.keep [0,1,4,5,6,7]) h (Qo (I81 h0 q4 q6 A b sg) k (R81 h0 q4 q6 A b sg)):=by
  obtain ⟨s,hs,rfl,hs10,e,c4,c6,hE⟩:=hI
  rw [hE]
  by_cases hlt:s < 60
  · have hshr:(A:Int).fdiv (2 ^ (min (s:Int).toNat IntKind.u64.bits))=((A / 2 ^ s:Nat):Int):=by
      rw [show min (s:Int).toNat IntKind.u64.bits=s by show min s 64=s;omega,Int.fdiv_eq_ediv_of_nonneg _ (by exact Int.le_of_lt (Int.pow_pos (by decide)))]
      simp
    have hshr2:(A:Int).fdiv (2 ^ (min (s:Int).toNat IntKind.i64.bits))=((A / 2 ^ s:Nat):Int):=hshr
    have hd1:A / 2 ^ s%1024≤1023:=by omega
    have hd2:A / 2 ^ s%1024*2 ^ s≤A:=Nat.le_trans (Nat.mul_le_mul_right _ (Nat.mod_le _ _)) (Nat.div_mul_le_self _ _)
    have hmod:A%2 ^ (s+10)=A%2 ^ s+2 ^ s*(A / 2 ^ s%1024):=by
      rw [Nat.pow_add];exact Nat.mod_mul
    have hml:A%2 ^ s≤A:=Nat.mod_le _ _
    have hcast:((A / 2 ^ s:Nat):Int)%1024=((A / 2 ^ s%1024:Nat):Int):=by simp
    generalize hG:A / 2 ^ s%1024=g at *
    have hge:0≤((A / 2 ^ s:Nat):Int):=Int.natCast_nonneg _
    have hsum:(sg*(A%2 ^ s:Nat)*b).natAbs≤2 ^ 100:=by
      rw [Int.natAbs_mul,Int.natAbs_mul,show sg.natAbs=1 by omega,Nat.one_mul,Int.natAbs_natCast]
      exact Nat.le_trans (Nat.mul_le_mul (Nat.le_trans hml hA) hb) (by decide)
    have hsgd:sg*(g:Nat)≤1023 ∧ -1023≤sg*(g:Nat):=by rcases hsg with rfl | rfl <;> omega
    have hpn:(sg*(g:Nat)*b).natAbs=g*b.natAbs:=by rw [Int.natAbs_mul,Int.natAbs_mul,show sg.natAbs=1 by omega,Nat.one_mul,Int.natAbs_natCast]
    have hp0:g*b.natAbs≤1023*1125899906842624:=Nat.mul_le_mul hd1 hb
    have hp1:(sg*(g:Nat)*b).natAbs*2 ^ s≤2 ^ 100:=by
      rw [hpn,Nat.mul_right_comm]
      exact Nat.le_trans (Nat.mul_le_mul (Nat.le_trans hd2 hA) hb) (by decide)
    have hnew:sg*(A%2 ^ s:Nat)*b+sg*(g:Nat)*b*2 ^ s=sg*(A%2 ^ (s+10):Nat)*b:=by
      rw [hmod,Int.natCast_add,Int.natCast_mul,Int.mul_add,Int.add_mul]
      have:((2 ^ s:Nat):Int)=2 ^ s:=by simp
      rw [this]
      congr 1
      rw [Int.mul_assoc,Int.mul_comm b,← Int.mul_assoc,Int.mul_assoc sg,Int.mul_comm (g:Int)]
    generalize hP:sg*(g:Nat)*b=p at *
    generalize hX:sg*(A%2 ^ s:Nat)*b=x at *
    have hp2:p.natAbs≤1023*1125899906842624:=by omega
    obtain ⟨t1,t2,t3⟩:=pc_tm p
    have k95:=fun H=>QcS H 0 (p.tmod 1125899906842624) (by omega) (by omega)
    rw [show (p.tmod 1125899906842624)%1125899906842624=p%1125899906842624 by omega] at k95
    have hhigh:0+p.tmod 1125899906842624 / 1125899906842624+p.tdiv 1125899906842624=p / 1125899906842624:=by omega
    repeat' (first | refine Qg ?_ | refine Qb ?_ | refine Qt ?_ | refine Qp ?_ | refine Qf ?_ | ((refine Qh ?_);refine Qk rfl ?_) | ((refine Qe ?_);first | refine Q4 rfl rfl rfl rfl rfl rfl rfl ?_ | refine Q8 rfl rfl rfl rfl rfl rfl rfl rfl ?_) | ((refine Qc ?_);first | refine yX rfl (by omega) ?_ | refine QiO rfl rfl (by omega) hshr2 ?_ | (refine Zw rfl rfl (by omega) ?_;rw [hcast]) | refine QkD rfl rfl (by decide) ?_ | (refine ZJ rfl rfl (by omega) ?_;try rw [hP]) | (refine X5 rfl rfl ?_) | (refine Qn rfl (k95 h) ?_;rintro r h1 ⟨e1,rfl⟩;have d4:=c4.ext e1;have d6:=c6.ext e1) | (have z:=e1;refine Jb rfl ?_;intro h2 e2 c9;have f4:=d4.ext e2;have f6:=d6.ext e2;have m6:=d6.lt) | refine QQ rfl ?_ | refine Q6 rfl c9 ?_ | refine QkE rfl rfl (by omega) ?_ | (refine QM rfl rfl (by omega) ?_;rw [hhigh]) | (refine yD rfl rfl c9 ?_;intro h3 w3;have g9:=w3.cel;have g4:=w3.keep f4 (by omega);have g6:=w3.keep f6 (by omega)) | refine Qm rfl ?_ | refine Qw rfl rfl (by omega) ?_))
    have k94:=fun H=>Ur H x (p*2 ^ s) (by omega) (by rw [Int.natAbs_mul,Int.natAbs_pow];exact Nat.le_trans hp1 (by decide))
    rw [hnew] at k94
    have l1:h0.length≤h1.length:=(e.trans e1).len
    refine QP (I81b h0 q4 q6 h1.length A b sg s x p) s (R81b h0 q4 q6 h1.length A b sg s x p) ⟨0,Nat.zero_le _,rfl,w3.ext (e.trans (e1.trans e2)) l1,g4,g6,by rw [Int.pow_zero,Int.mul_one];exact g9,rfl⟩ (Qee h0 q4 q6 h1.length l4 l6 m6 A b sg s hs x p hp1) ?_
    rintro ex E' h4 ⟨rfl,a,d,e4,u4,u6,u9,rfl⟩
    repeat' (first | refine Qb ?_ | refine QG ?_ | refine QC ?_ | refine Qf ?_ | ((refine Qe ?_);refine QD rfl rfl rfl rfl rfl rfl ?_) | ((refine Qc ?_);first | refine Xa rfl u6 ?_ | refine Xa rfl u9 ?_ | (refine Qn rfl (k94 h4) ?_;rintro r h5 ⟨e5,rfl⟩;have v4:=u4.ext e5;have v6:=u6.ext e5) | (refine Xw rfl rfl v6 ?_;intro h6 w6) | refine Qm rfl ?_ | refine QM rfl rfl (by omega) ?_))
    exact Qs (j:=60-(s+10)) (by omega) ⟨s+10,by omega,rfl,by omega,w6.ext (e4.trans e5) (by omega),w6.keep v4 (by omega),w6.cel,rfl⟩
  · have:s=60:=by omega
    subst this
    repeat' (first | refine Qg ?_ | refine Qb ?_ | refine QK ?_ | refine QH ?_ | refine Qf ?_ | ((refine Qh ?_);refine Qi rfl ?_) | ((refine Qe ?_);refine Q4 rfl rfl rfl rfl rfl rfl rfl ?_) | ((refine Qc ?_);first | refine Qm rfl ?_ | refine QE rfl rfl (by omega) ?_))
    rw [show A%2 ^ 60=A from Nat.mod_eq_of_lt (by omega)] at c6
    exact Qz ⟨rfl,_,_,_,_,_,e,c4,c6,rfl⟩
theorem QbK (h0:Qa) (a b:Int) (ha:a.natAbs≤cM) (hb:b.natAbs≤cM):∃ r h',Cal FT HKt 81 [.sc (.int .i64 a),.sc (.int .i64 b)] h0 r h'∧Ext h0 h'∧r=nf (a*b):=by
  simp only [cM] at ha hb
  refine Cal.of (F:=a81) rfl rfl rfl ?_
  by_cases hn:a < 0
  · have hneg : -a=((a.natAbs:Nat):Int):=by omega
    have hfin:(-1:Int)*(a.natAbs:Nat)*b=a*b:=by rw [show (-1:Int)*(a.natAbs:Nat)=a by omega]
    repeat' (first | refine Qg ?_ | refine Qb ?_ | refine Qt ?_ | refine Qf ?_ | ((refine Qh ?_);refine Qk rfl ?_) | ((refine Qe ?_);first | refine QB rfl rfl rfl ?_ | refine QS rfl rfl rfl rfl ?_ | refine QO rfl rfl rfl rfl rfl ?_ | refine QD rfl rfl rfl rfl rfl rfl ?_) | ((refine Qc ?_);first | (have z:=e1;refine Jb rfl ?_;intro h2 e2 c6;have d4:=c4.ext e2;have m4:=c4.lt) | (refine Xz ?_;intro h1 e1 c4) | (refine Y1 rfl (by omega) ?_;rw [hneg]) | (refine X5 rfl rfl ?_) | refine Qm rfl ?_ | refine Qw rfl rfl (by omega) ?_))
    refine QP (I81 h0 h0.length h1.length a.natAbs b (-1)) 60 (R81 h0 h0.length h1.length a.natAbs b (-1)) ⟨0,by omega,rfl,rfl,e1.trans e2,d4,by rw [Nat.pow_zero,Nat.mod_one,show (-1:Int)*(0:Nat)*b=0 by simp];exact c6,rfl⟩ (Qcc h0 h0.length h1.length (Nat.le_refl _) m4 a.natAbs ha b (-1) hb (.inr rfl)) ?_
    rintro ex E' h3 ⟨rfl,a0,a1,a5,a7,d,e3,u4,u6,rfl⟩
    rw [hfin] at u6
    repeat' (first | refine Qg ?_ | refine Qb ?_ | refine QC ?_ | refine Qv ?_ | refine Qf ?_ | ((refine Qe ?_);refine Qq rfl ?_) | ((refine Qc ?_);first | refine Xa rfl u6 ?_ | (refine Xw rfl rfl u4 ?_;intro h4 w4)))
    exact ⟨.inr rfl,XM rfl w4.cel.read ⟨w4.ext e3 (Nat.le_refl _),rfl⟩⟩
  · obtain ⟨A,rfl⟩:∃ A:Nat,a=(A:Nat):=⟨a.toNat,by omega⟩
    have hfin:(1:Int)*(A:Nat)*b=(A:Nat)*b:=by rw [Int.one_mul]
    repeat' (first | refine Qg ?_ | refine Qb ?_ | refine Qt ?_ | refine Qp ?_ | refine Qf ?_ | ((refine Qh ?_);refine Qi rfl ?_) | ((refine Qe ?_);first | refine QB rfl rfl rfl ?_ | refine QS rfl rfl rfl rfl ?_ | refine QO rfl rfl rfl rfl rfl ?_ | refine QD rfl rfl rfl rfl rfl rfl ?_) | ((refine Qc ?_);first | (have z:=e1;refine Jb rfl ?_;intro h2 e2 c6;have d4:=c4.ext e2;have m4:=c4.lt) | (refine Xz ?_;intro h1 e1 c4) | (refine X5 rfl rfl ?_) | refine Qm rfl ?_ | refine QE rfl rfl (by omega) ?_))
    refine QP (I81 h0 h0.length h1.length A b 1) 60 (R81 h0 h0.length h1.length A b 1) ⟨0,by omega,rfl,rfl,e1.trans e2,d4,by rw [Nat.pow_zero,Nat.mod_one,show (1:Int)*(0:Nat)*b=0 by simp];exact c6,rfl⟩ (Qcc h0 h0.length h1.length (Nat.le_refl _) m4 A (by omega) b 1 hb (.inl rfl)) ?_
    rintro ex E' h3 ⟨rfl,a0,a1,a5,a7,d,e3,u4,u6,rfl⟩
    rw [hfin] at u6
    repeat' (first | refine Qg ?_ | refine Qb ?_ | refine QC ?_ | refine Qv ?_ | refine Qf ?_ | ((refine Qe ?_);refine Qq rfl ?_) | ((refine Qc ?_);first | refine Xa rfl u6 ?_ | (refine Xw rfl rfl u4 ?_;intro h4 w4)))
    exact ⟨.inr rfl,XM rfl w4.cel.read ⟨w4.ext e3 (Nat.le_refl _),rfl⟩⟩
end Go.Proofs.YtofknpknogfijaaGreatDoor

