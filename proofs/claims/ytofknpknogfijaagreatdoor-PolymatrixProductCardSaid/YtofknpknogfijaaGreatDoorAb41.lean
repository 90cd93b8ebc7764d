import Derived.Test.YtofknpknogfijaaGreatDoorAb38
/- Arithmetic of 64 bits without a sign. -/
namespace Go.Ab
set_option linter.all false
theorem Jp(n:Int):IntKind.u64.wrap n=n%18446744073709551616:=by
 simp[IntKind.wrap,IntKind.signed,IntKind.bits]
section
variable {FT:zzA} {HK:zzH} {E:Env} {h:Qa} {K:Env->Qa->Prop} {d:Option Nat} {r:List AOp} {x y z:AO} {m n k:Int}
theorem QhD(hx:evS E x=some (.int .u64 m))(hy:evS E y=some (.int .u64 n))(hw:Qm FT HK r (Qv d (some (.sc (.int .u64 ((m+n)%18446744073709551616)))) E) h K):Qm FT HK (⟨d,.bin .add x y,none⟩::r) E h K :=
 Q2 rfl rfl (by simp[Qo,hx,hy,ZI,X3,qZ,Yf,Jp]) hw
theorem Qc6(hx:evS E x=some (.int .u64 m))(hy:evS E y=some (.int .u64 n))(hw:Qm FT HK r (Qv d (some (.sc (.int .u64 ((m-n)%18446744073709551616)))) E) h K):Qm FT HK (⟨d,.bin .sub x y,none⟩::r) E h K :=
 Q2 rfl rfl (by simp[Qo,hx,hy,ZI,X3,qZ,Yf,Jp]) hw
theorem Qa2(hx:evS E x=some (.int .u64 m))(hy:evS E y=some (.int .u64 n))(hw:Qm FT HK r (Qv d (some (.sc (.int .u64 ((m*n)%18446744073709551616)))) E) h K):Qm FT HK (⟨d,.bin .mul x y,none⟩::r) E h K :=
 Q2 rfl rfl (by simp[Qo,hx,hy,ZI,X3,qZ,Yf,Jp]) hw
theorem YT(hx:evS E x=some (.int .u64 m))(hy:evS E y=some (.int .u64 n))(hr:0<=m+n/\m+n<18446744073709551616)(hw:Qm FT HK r (Qv d (some (.sc (.int .u64 (m+n)))) E) h K):Qm FT HK (⟨d,.bin .add x y,none⟩::r) E h K :=
 QhD hx hy (by rw[Hy hr.1 hr.2];exact hw)
theorem XN(hx:evS E x=some (.int .u64 m))(hy:evS E y=some (.int .u64 n))(hr:0<=m-n/\m-n<18446744073709551616)(hw:Qm FT HK r (Qv d (some (.sc (.int .u64 (m-n)))) E) h K):Qm FT HK (⟨d,.bin .sub x y,none⟩::r) E h K :=
 Qc6 hx hy (by rw[Hy hr.1 hr.2];exact hw)
theorem Jc(hx:evS E x=some (.int .u64 m))(hy:evS E y=some (.int .u64 n))(hr:0<=m*n/\m*n<18446744073709551616)(hw:Qm FT HK r (Qv d (some (.sc (.int .u64 (m*n)))) E) h K):Qm FT HK (⟨d,.bin .mul x y,none⟩::r) E h K :=
 Qa2 hx hy (by rw[Hy hr.1 hr.2];exact hw)
theorem QnY(hx:evS E x=some (.int .u64 m))(hw:Qm FT HK r (Qv d (some (.sc (.int .u64 ((-m)%18446744073709551616)))) E) h K):Qm FT HK (⟨d,.un .neg x,none⟩::r) E h K :=
 Q2 rfl rfl (by simp[Qo,hx,unS,Yf,Jp]) hw
theorem QhC{kd:IntKind}(hx:evS E x=some (.int kd m))(hw:Qm FT HK r (Qv d (some (.sc (.int .u64 (m%18446744073709551616)))) E) h K):Qm FT HK (⟨d,.conv .u64 x,none⟩::r) E h K :=
 Q2 rfl rfl (by simp[Qo,hx,Yf,Jp]) hw
theorem Ua{kd:IntKind}(hx:evS E x=some (.int kd m))(hr:0<=m/\m<18446744073709551616)(hw:Qm FT HK r (Qv d (some (.sc (.int .u64 m))) E) h K):Qm FT HK (⟨d,.conv .u64 x,none⟩::r) E h K :=
 QhC hx (by rw[Hy hr.1 hr.2];exact hw)
theorem Vk(hx:evS E x=some (.int .u64 m))(hy:evS E y=some (.int .u64 n))(hr:0<=m/\m<18446744073709551616/\0<n)(hw:Qm FT HK r (Qv d (some (.sc (.int .u64 (m/n)))) E) h K):Qm FT HK (⟨d,.bin .quo x y,none⟩::r) E h K:=by
 refine Q2 rfl rfl ?_ hw
 have h0:n≠0:=by omega
 have h1:m.tdiv n=m/n:=Int.tdiv_eq_ediv_of_nonneg hr.1
 have h2:0<=m/n:=Int.ediv_nonneg hr.1 (by omega)
 have h3:m/n<=m:=Int.ediv_le_self _ hr.1
 simp only[Qo,hx,hy,ZI,X3,qZ,Gl,Bool.false_eq_true,if_false,if_true,if_neg h0,Yf,Jp,h1]
 rw[Hy h2 (by omega)];rfl
theorem Qhu(hx:evS E x=some (.int .u64 m))(hy:evS E y=some (.int .u64 n))(hr:0<=m/\0<n)(hw:Qm FT HK r (Qv d (some (.sc (.int .u64 (m%n)))) E) h K):Qm FT HK (⟨d,.bin .rem x y,none⟩::r) E h K:=by
 refine Q2 rfl rfl ?_ hw
 have h0:n≠0:=by omega
 have h1:m.tmod n=m%n:=Int.tmod_eq_emod_of_nonneg hr.1
 simp only[Qo,hx,hy,ZI,X3,qZ,Gl,Bool.false_eq_true,if_false,if_true,if_neg h0,h1];rfl
theorem XU{b:Int}{q:Nat}(hx:evS E x=some (.int .u64 m)){k2:IntKind}(hy:evS E y=some (.int k2 b))(hb:b=(q:Nat))(hq:q<=64)(hw:Qm FT HK r (Qv d (some (.sc (.int .u64 (m/(2^q:Nat))))) E) h K):Qm FT HK (⟨d,.bin .shr x y,none⟩::r) E h K:=by
 refine QlQ hx hy (by omega) ?_ hw
 subst hb
 rw[show min ((q:Nat):Int).toNat IntKind.u64.bits=q by simp[IntKind.bits];omega,Int.fdiv_eq_ediv_of_nonneg _ (by exact Int.le_of_lt (Int.pow_pos (by omega)))]
 rw[Int.natCast_pow];rfl
theorem QiW{a:Int}(h0:0<=a)(h1:a<18446744073709551616){q:Nat}(hq:q<=64):IntKind.u64.wrap ((BitVec.ofInt 64 a &&& BitVec.ofInt 64 (2^q-1:Nat)).toNat:Int)=a%(2^q:Nat):=by
 obtain⟨n,rfl⟩:=Int.eq_ofNat_of_zero_le h0
 have hp:2^q<=2^64:=GN (by omega) hq
 have hpos:0<2^q:=Nat.pow_pos (by omega)
 have e1:(BitVec.ofInt 64 ((n:Nat):Int)).toNat=n:=by
  rw[BitVec.ofInt_natCast,BitVec.toNat_ofNat,HE (by omega)]
 have e2:(BitVec.ofInt 64 ((2^q-1:Nat):Int)).toNat=2^q-1:=by
  rw[BitVec.ofInt_natCast,BitVec.toNat_ofNat,HE (by omega)]
 rw[BitVec.toNat_and,e1,e2,Nat.and_two_pow_sub_one_eq_mod,Jp]
 have:=GY n hpos
 rw[Hy (by omega) (by omega)]
 simp
theorem Qa5{q:Nat}{c:Int}(hx:evS E x=some (.int .u64 m))(hy:evS E y=some (.int .u64 c))(hr:0<=m/\m<18446744073709551616)(hq:q<=64)(hc:c=(2^q-1:Nat))(hw:Qm FT HK r (Qv d (some (.sc (.int .u64 (m%(2^q:Nat))))) E) h K):Qm FT HK (⟨d,.bin .and x y,none⟩::r) E h K:=by
 refine Q2 rfl rfl ?_ hw
 subst hc
 have:=QiW hr.1 hr.2 hq
 simp only[Qo,hx,hy,ZI,X3,qZ,Gl,Bool.false_eq_true,if_false,if_true,Yf]
 rw[show IntKind.bits .u64=64 from rfl,this];rfl
theorem Qn2(hx:evS E x=some (.int .u64 m))(hy:evS E y=some (.int .u64 n))(hz:evS E z=some (.int .u64 k))(hr:0<=m/\0<=n/\n<18446744073709551616/\0<=k/\k<=1)
  (hw:Qm FT HK r (Qv d (some (.tup [.sc (.int .u64 ((m+n+k)%18446744073709551616)),.sc (.int .u64 ((m+n+k)/18446744073709551616))])) E) h K):Qm FT HK (⟨d,.car false x y z,none⟩::r) E h K :=
 Q2 rfl rfl (by simp only[Qo,hx,hy,hz];rw[if_pos hr];rfl) hw
theorem Qn1(hx:evS E x=some (.int .u64 m))(hy:evS E y=some (.int .u64 n))(hz:evS E z=some (.int .u64 k))(hr:0<=m/\0<=n/\n<18446744073709551616/\0<=k/\k<=1)
  (hw:Qm FT HK r (Qv d (some (.tup [.sc (.int .u64 ((m+18446744073709551616-n-k)%18446744073709551616)),.sc (.int .u64 (if m<n+k then 1 else 0))])) E) h K):Qm FT HK (⟨d,.car true x y z,none⟩::r) E h K :=
 Q2 rfl rfl (by simp only[Qo,hx,hy,hz];rw[if_pos hr];rfl) hw
theorem qT{neg:Bool}{k1 k2:IntKind}{a b p q:Int}(hx:ev E x=some (.agg [.int k1 a,.int k2 p]))(hy:ev E y=some (.agg [.int k1 b,.int k2 q]))(hw:Qm FT HK r (Qv d (some (.sc (.bool (if neg then !(a==b&&p==q) else (a==b&&p==q))))) E) h K) :
  Qm FT HK (⟨d,.seq2 neg x y,none⟩::r) E h K :=
 Q2 rfl rfl (by simp[Qo,hx,hy]) hw
end
abbrev P2:=SV×SV
def prs:List P2->List SV
 | []=>[]
 | p::r=>p.1::p.2::prs r
theorem Zl:∀ ps:List P2,(prs ps).length=ps.length*2
 | []=>rfl
 | p::r=>by simp[prs,Zl r];omega
theorem yr:∀ a b:List P2,prs (a++b)=prs a++prs b
 | [],b=>rfl
 | p::r,b=>by simp[prs,yr r b]
theorem QgZ:∀ {ps:List P2} {i:Nat} {p:P2},ps[i]?=some p->((prs ps).drop (i*2)).take 2=[p.1,p.2]
 | [],i,p,h=>by simp at h
 | q::r,0,p,h=>by simp at h;subst h;simp[prs]
 | q::r,i+1,p,h=>by
  have e:(i+1)*2=i*2+1+1:=by omega
  rw[e]
  simp only[prs,HC]
  exact QgZ (by simpa using h)
theorem yq:∀(ps:List P2) (n:Nat),prs (ps.take n)=(prs ps).take (n*2)
 | [],n=>by simp[prs]
 | p::r,0=>by simp[prs]
 | p::r,n+1=>by
  rw[show (n+1)*2=n*2+1+1 by omega]
  simp[prs,yq r n]
theorem U2:∀(ps:List P2) (n:Nat),prs (ps.drop n)=(prs ps).drop (n*2)
 | [],n=>by simp[prs]
 | p::r,0=>by simp[prs]
 | p::r,n+1=>by
  rw[show (n+1)*2=n*2+1+1 by omega]
  simp[prs,U2 r n]
theorem Qd3{ps:List P2}{i:Nat}(hi:i<ps.length)(p:P2):prs (ps.set i p)=(prs ps).take (i*2)++[p.1,p.2]++(prs ps).drop (i*2+2):=by
 rw[List.set_eq_take_append_cons_drop,if_pos hi,yr,yq]
 simp only[prs]
 rw[U2,show (i+1)*2=i*2+2 by omega]
 simp
theorem Ux(a b:SV):∀ n,rep [a,b] n=prs (List.replicate n (a,b))
 | 0=>rfl
 | n+1=>by rw[List.replicate_succ];simp[rep,prs,Ux a b n]
def IsD(h:Qa)(s:SV)(ps:List P2):Prop:=IsSl h s 2 ps.length (prs ps)
theorem IsD.ext{h h':Qa}{s:SV}{ps:List P2}(i:IsD h s ps)(e:Ext h h'):IsD h' s ps:=IsSl.ext i e
theorem IsD.len{h:Qa}{s:SV}{ps:List P2}(i:IsD h s ps):Yh false s=some (ps.length:Int):=IsSl.len i
theorem IsD.nil(h:Qa):IsD h .nilS [] := .inl ⟨rfl,rfl,rfl⟩
theorem IsD.at{h:Qa}{s:SV}{ps:List P2}(hs:IsD h s ps){i:Nat}{p:P2}(hp:ps[i]?=some p):∃ id off cap,s = .slc id off ps.length cap/\Q3 h id (off+i*2) 2=some [p.1,p.2]:=by
 have hi:=(Gb.1 hp).1
 rcases hs with ⟨-,h0,-⟩|⟨id,off,cap,b,rfl,h1,h2,h3,h4⟩
 ·omega
 ·obtain⟨cs,rw',rfl,hc⟩:=h4 (by omega)
  refine⟨id,off,cap,rfl,?_⟩
  unfold Q3
  rw[h1]
  simp only
  unfold cut at hc ⊢
  simp only[ez2]at hc
  split at hc
  ·simp only[Option.some.injEq]at hc
   rw[if_pos (by omega)]
   have:(cs.drop (off+i*2)).take 2=(((cs.drop off).take (ps.length*2)).drop (i*2)).take 2:=by
    rw[List.drop_take,HD,List.take_take]
    rw[GV (by omega)]
   rw[this,hc,QgZ hp]
  ·simp at hc
def RoomD(n:Nat)(bl:List SV):Option Nat->Prop
 | none=>n*2<=bl.length
 | some c=>bl.length=c*2/\n<=c
def OwnD(h0 h:Qa)(s:SV)(ps:List P2):Prop:=(s = .nilS/\ps=[])∨∃ id cap bl,s = .slc id 0 ps.length cap/\h0.length<=id/\h[id]?=some (.cells bl true 2)/\bl.take (ps.length*2)=prs ps/\RoomD ps.length bl cap
theorem RoomD.le{n:Nat}{bl:List SV}{cap:Option Nat}(r:RoomD n bl cap):n*2<=bl.length:=by
 cases cap with
 | none=>exact r
 | some c=>have:=r.1;have:=r.2;omega
theorem OwnD.is{h0 h:Qa}{s:SV}{ps:List P2}(ho:OwnD h0 h s ps):IsD h s ps:=by
 rcases ho with ⟨rfl,rfl⟩|⟨id,cap,bl,rfl,h1,h2,h3,h4⟩
 ·exact .inl ⟨rfl,rfl,rfl⟩
 ·refine .inr ⟨id,0,cap,_,rfl,h2,rfl,fun h=>?_,fun _=>⟨bl,true,rfl,?_⟩⟩
  ·rw[Gw h];rfl
  ·have:=h4.le
   unfold cut
   simp only[ez2]
   rw[if_pos (by omega),Hi,h3]
theorem OwnD.len{h0 h:Qa}{s:SV}{ps:List P2}(ho:OwnD h0 h s ps):Yh false s=some (ps.length:Int):=ho.is.len
theorem OwnD.ext{h0 h h':Qa}{s:SV}{ps:List P2}(ho:OwnD h0 h s ps)(he:Ext h h'):OwnD h0 h' s ps:=by
 rcases ho with ho|⟨id,cap,bl,rfl,h1,h2,h3⟩
 ·exact .inl ho
 ·exact .inr ⟨id,cap,bl,rfl,h1,he.get _ _ h2,h3⟩
theorem OwnD.weaken{h0 h1 h:Qa}{s:SV}{ps:List P2}(ho:OwnD h1 h s ps)(hl:h0.length<=h1.length):OwnD h0 h s ps:=by
 rcases ho with ho|⟨id,cap,bl,rfl,e1,e2,e3⟩
 ·exact .inl ho
 ·exact .inr ⟨id,cap,bl,rfl,by omega,e2,e3⟩
theorem OwnD.not{h0 h:Qa}{s:SV}{ps:List P2}(ho:OwnD h0 h s ps){j:Nat}(hj:j<h0.length):XW s j:=by
 rcases ho with ⟨rfl,-⟩|⟨id,cap,bl,rfl,h1,-⟩
 ·intro o n c e;cases e
 ·intro o n c e;cases e;omega
theorem OwnD.cel{h0 h:Qa}{s:SV}{ps:List P2}(ho:OwnD h0 h s ps){j:Nat}{cs:List SV}{rw':Bool}(hj:h[j]?=some (.cells cs rw' 0)):XW s j:=by
 rcases ho with ⟨rfl,-⟩|⟨id,cap,bl,rfl,h1,h2,-⟩
 ·intro o n c e;cases e
 ·intro o n c e;cases e
  rw[hj]at h2;simp at h2
  exact absurd h2.2.2 (by decide)
theorem IsD.cel{h:Qa}{s:SV}{ps:List P2}(ho:IsD h s ps){j:Nat}{cs:List SV}{rw':Bool}(hj:h[j]?=some (.cells cs rw' 0)):XW s j:=by
 rcases ho with ⟨rfl,-⟩|⟨id,off,cap,b,rfl,h1,h2,-⟩
 ·intro o n c e;cases e
 ·intro o n c e;cases e
  rw[hj]at h1;simp at h1;subst h1
  exact absurd (show (0:ESz)=2 from h2) (by decide)
theorem OwnD.set{h0 h:Qa}{s:SV}{ps:List P2}(ho:OwnD h0 h s ps){j:Nat}(hn:XW s j)(b:Blk):OwnD h0 (h.set j b) s ps:=by
 rcases ho with ho|⟨id,cap,bl,rfl,h1,h2,h3⟩
 ·exact .inl ho
 ·exact .inr ⟨id,cap,bl,rfl,h1,by rw[Gk (fun e=>by subst e;exact hn _ _ _ rfl)];exact h2,h3⟩
theorem IsSl.setB{h:Qa}{t:SV}{e:ESz}{n:Nat}{ws:List SV}(ht:IsSl h t e n ws){j:Nat}(hn:XW t j)(b:Blk):IsSl (h.set j b) t e n ws :=
 ht.keep fun k c hk hx=>by rw[Gk (fun e=>by subst e;exact hx hn)];exact hk
theorem appD{h0 h:Qa}{s:SV}{ps:List P2}{bytes:Nat}(he:Ext h0 h)(ho:OwnD h0 h s ps)(hb:(ps.length+1)*(bytes+1)<=XS)(a b:SV) :
  ∃ s' h',Y0 h 2 bytes s 1 [a,b]=some (s',h')/\OwnD h0 h' s' (ps++[(a,b)])/\Ext h0 h'/\h.length<=h'.length/\Fram h h' s s':=by
 have hl:=he.len
 have hp:prs (ps++[(a,b)])=prs ps++[a,b]:=yr _ _
 have hpl:(ps++[(a,b)]).length=ps.length+1:=by simp
 have hpr:=Zl ps
 rcases ho with ⟨rfl,rfl⟩|⟨id,cap,bl,rfl,h1,h2,h3,h4⟩
 ·refine⟨.slc h.length 0 1 none,h++[.cells [a,b] true 2],?_,.inr ⟨h.length,none,[a,b],rfl,hl,by simp,rfl,by simp[RoomD]⟩,he.app _,by simp,fun j b' hj hn=>?_⟩
  ·simp only[Y0]
   rw[if_neg (by omega),if_pos (by simp at hb;omega)]
  ·have hjl:=(Gb.1 hj).1
   exact⟨X5 j b' hj,fun o n c hc=>by cases hc;omega⟩
 ·have hid:id<h.length:=(Gb.1 h2).1
  have hle:=h4.le
  have hcut:cut bl 0 (ps.length*2)=some (prs ps):=by
   unfold cut
   rw[if_pos (by omega),Hi,h3]
  have fresh:∀(j:Nat) (b:Blk),h[j]?=some b->∀ k,XW (SV.slc h.length 0 k none) j:=by
   intro j b hj k o n c hc
   have:=(Gb.1 hj).1
   cases hc;omega
  cases cap with
  | none =>
   refine⟨.slc h.length 0 (ps.length+1) none,h.set id (.dead 2)++[.cells (prs ps++[a,b]) true 2],?_,?_,(he.set h1 _).app _,by simp,?_⟩
   ·simp only[Y0]
    rw[if_neg (by omega),if_pos hb,h2]
    simp only[if_true,ez2,hcut]
    rw[if_pos ⟨trivial,.inl rfl⟩]
   ·refine .inr ⟨h.length,none,prs ps++[a,b],by rw[hpl],hl,?_,?_,by simp[RoomD,hpr];omega⟩
    ·rw[Gi (by simp)];simp
    ·rw[hp,GG (by simp[hpr];omega)]
   ·intro j b' hj hn
    have hne:id≠j:=fun e=>by subst e;exact hn _ _ _ rfl
    refine⟨X5 j b' ?_,fresh j b' hj _⟩
    rw[Gk hne];exact hj
  | some c =>
   obtain⟨h5,h6⟩:=h4
   by_cases hc:c<ps.length+1
   ·refine⟨.slc h.length 0 (ps.length+1) none,h++[.cells (prs ps++[a,b]) true 2],?_,?_,he.app _,by simp,?_⟩
    ·simp only[Y0]
     rw[if_neg (by omega),if_pos hb,h2]
     simp only[if_true,ez2,hcut]
     rw[if_pos hc]
    ·refine .inr ⟨h.length,none,prs ps++[a,b],by rw[hpl],hl,?_,?_,by simp[RoomD,hpr];omega⟩
     ·rw[Gi (Gd _)];simp
     ·rw[hp,GG (by simp[hpr];omega)]
    ·exact fun j b' hj hn=>⟨X5 j b' hj,fresh j b' hj _⟩
   ·have hsl:(Q8 bl (0+ps.length*2) [a,b]).length=c*2:=by simp[Q8];omega
    refine⟨.slc id 0 (ps.length+1) (some c),h.set id (.cells (Q8 bl (0+ps.length*2) [a,b]) true 2),?_,?_,he.set h1 _,by simp,?_⟩
    ·simp only[Y0]
     rw[if_neg (by omega),if_pos hb,h2]
     simp only[if_true,ez2,hcut]
     rw[if_neg hc]
     simp only[Xx,h2]
     rw[if_pos (by simp;omega)];rfl
    ·refine .inr ⟨id,some c,Q8 bl (0+ps.length*2) [a,b],by rw[hpl],h1,GA hid,?_,?_⟩
     ·rw[hp,hpl]
      simp only[Q8,Hd]
      rw[h3,Hz (by simp[hpr];omega),GG (by simp[hpr];omega)]
     ·rw[hpl];exact⟨hsl,by omega⟩
    ·intro j b' hj hn
     have hne:id≠j:=fun e=>by subst e;exact hn _ _ _ rfl
     refine⟨?_,fun o n c' e=>hn _ _ _ (by cases e;rfl)⟩
     rw[Gk hne];exact hj
theorem OwnD.rd{h0 h:Qa}{s:SV}{ps:List P2}{i:Nat}{p:P2}(ho:OwnD h0 h s ps)(hp:ps[i]?=some p):∃ id cap,s = .slc id 0 ps.length cap/\Q3 h id (0+i*2) 2=some [p.1,p.2]:=by
 obtain⟨id,off,cap,e,hr⟩:=ho.is.at hp
 rcases ho with ⟨rfl,rfl⟩|⟨id2,cap2,bl,rfl,h1,h2,h3⟩
 ·simp at hp
 ·cases e
  exact⟨id,cap,rfl,hr⟩
theorem OwnD.wr{h0 h:Qa}{s:SV}{ps:List P2}{i:Nat}(he:Ext h0 h)(ho:OwnD h0 h s ps)(hi:i<ps.length)(a b:SV) :
  ∃ id cap h',s = .slc id 0 ps.length cap/\Xx h id (0+i*2) [a,b]=some h'/\OwnD h0 h' s (ps.set i (a,b))/\Ext h0 h'/\Fram h h' s s/\h'.length=h.length:=by
 rcases ho with ⟨rfl,rfl⟩|⟨id,cap,bl,rfl,h1,h2,h3,h4⟩
 ·simp at hi
 ·have hle:=h4.le
  have hid:id<h.length:=(Gb.1 h2).1
  have hpr:=Zl ps
  refine⟨id,cap,h.set id (.cells (Q8 bl (i*2) [a,b]) true 2),rfl,?_,.inr ⟨id,cap,Q8 bl (i*2) [a,b],by simp,h1,GA hid,?_,?_⟩,he.set h1 _,?_,by simp⟩
  ·simp only[Xx,h2,Hd]
   rw[if_pos (by simp;omega)]
  ·rw[G9,Qd3 hi]
   simp only[Q8,Gu,GC]
   have e1:bl.take (i*2)=(prs ps).take (i*2):=by
    rw[← h3,List.take_take,GV (by omega)]
   have e2:(bl.drop (i*2+2)).take (ps.length*2-(i*2+2))=(prs ps).drop (i*2+2):=by
    rw[← h3,List.drop_take]
   rw[List.take_append,List.take_append]
   simp only[Gz,GJ,Gu,GC]
   rw[GV (by omega),GG (l:=bl.take (i*2)) (by simp;omega),GG (l:=[a,b]) (by simp;omega),e1,
    show ps.length*2-(i*2+(0+1+1))=ps.length*2-(i*2+2) by omega,show i*2+(0+1+1)=i*2+2 by omega,e2]
  ·rw[G9]
   have hsl:(Q8 bl (i*2) [a,b]).length=bl.length:=by simp[Q8];omega
   cases cap with
   | none=>show _<=_;rw[hsl];exact h4
   | some c=>exact⟨by rw[hsl];exact h4.1,h4.2⟩
  ·intro j b' hj hn
   have hne:id≠j:=fun e=>by subst e;exact hn _ _ _ rfl
   exact⟨by rw[Gk hne];exact hj,hn⟩
section
variable {FT:zzA} {HK:zzH} {E:Env} {h h0:Qa} {K:Env->Qa->Prop} {d:Option Nat} {r:List AOp} {x y xo so:AO}
theorem Qhz{bytes:Nat}{a b:SV}{n m:Int}{k1 k2:IntKind}(he:Ext h0 h)(hx:evS E x=some (.int k1 n))(hy:evS E y=some (.int k2 m))(hb:0<=n/\n<=m/\m*(bytes+1:Nat)<=XS)
  (hw:∀ s h1,OwnD h h1 s (List.replicate n.toNat (a,b))->Ext h h1->Ext h0 h1->h.length<h1.length->Qm FT HK r (Qv d (some (.sc s)) E) h1 K):Qm FT HK (⟨d,.mk 2 bytes [a,b] x y,none⟩::r) E h K:=by
 refine op_mk rfl hx hy hb (hw _ _ ?_ ⟨_,rfl⟩ (he.app _) (by simp))
 refine .inr ⟨h.length,some m.toNat,rep [a,b] m.toNat,by simp,Gd _,by simp,?_,?_⟩
 ·rw[Ux,List.length_replicate,← yq,List.take_replicate,GV (by omega)]
 ·rw[List.length_replicate,Ux]
  exact⟨by rw[Zl,List.length_replicate],by omega⟩
theorem yL{t bytes:Nat}{s a b z0 z1:SV}{ps:List P2}{z2:List SV}(he:Ext h0 h)(ho:OwnD h0 h s ps)(hx:ev E xo=some (.agg [a,b]))(hs:evS (Qv (some t) (some (.sc (.slc h.length 0 1 (some 1)))) E) so=some s)(hb:(ps.length+1)*(bytes+1)<=XS)
  (hw:∀ s' h',OwnD h0 h' s' (ps++[(a,b)])->Ext h0 h'->Fram h h' s s'->h.length<=h'.length->Qm FT HK r (Qv d (some (.sc s')) (Qv (some t) (some (.sc (.slc h.length 0 1 (some 1)))) E)) h' K) :
  Qm FT HK (⟨some t,.bsl 2 [z0,z1] 1 [(0,xo)],none⟩::⟨d,.app 2 bytes z2 so (.t t),none⟩::r) E h K:=by
 obtain⟨s',h',h1,h2,h3,h4,h5⟩:=appD (bytes:=bytes) (h:=h++[.cells [a,b] true 2]) (he.app _) (ho.ext ⟨_,rfl⟩) hb a b
 refine Q2 (v:=some (.sc (.slc h.length 0 1 (some 1)))) (h':=h++[.cells [a,b] true 2]) rfl rfl ?_ ?_
 ·simp[Qo,XR,hx,AV.cells,YX,rep,Q8,ez2]
 refine Q2 (v:=some (.sc s')) (h':=h') rfl rfl ?_ (hw s' h' h2 h3 (fun j b' hj hn=>h5 j b' (X5 j b' hj) hn) (by simp at h4;omega))
 have e1:evS (Qv (some t) (some (.sc (.slc h.length 0 1 (some 1)))) E) (.t t)=some (.slc h.length 0 1 (some 1)):=by simp[evS,ev,Qv,Env.get]
 have e2:Xs (h++[Blk.cells [a,b] true 2]) 2 (.slc h.length 0 1 (some 1))=some (1,[a,b]):=by simp[Xs,Q3,cut]
 simp only[Qo,hs,e1,Gl,ez2,e2,h1,Gp]
theorem XH{id off:Nat}{a b:SV}(hx:evS E x=some (.ptr id off))(hr:Q3 h id off 2=some [a,b])(hw:Qm FT HK r (Qv d (some (.agg [a,b])) E) h K):Qm FT HK (⟨d,.ld 2 true x,none⟩::r) E h K :=
 Q2 rfl rfl (by simp[Qo,hx,hr,YP]) hw
theorem QlO{id off:Nat}{a b:SV}{h':Qa}{p:AO}(ha:evS E p=some (.ptr id off))(hx:ev E x=some (.agg [a,b]))(hr:Xx h id off [a,b]=some h')(hw:Qm FT HK r (Qv d none E) h' K):Qm FT HK (⟨d,.st 2 p x,none⟩::r) E h K :=
 Q2 rfl rfl (by simp[Qo,ha,hx,AV.cells,hr]) hw
theorem y4(hw:K E h):Qm FT HK [] E h K:=hw
theorem JE{a:SV}(hw:∀ h1,Ext h h1->h1[h.length]?=some (.cells [a] true 0)->Qm FT HK r (Qv d (some (.sc (.ptr h.length 0))) E) h1 K):Qm FT HK (⟨d,.new [a],none⟩::r) E h K :=
 Q2 (v:=some (.sc (.ptr h.length 0))) (h':=h++[.cells [a] true 0]) rfl rfl rfl (hw _ ⟨_,rfl⟩ (by simp))
theorem qH{q:Nat}{a v:SV}{p:AO}(ha:evS E p=some (.ptr q 0))(hx:ev E x=some (.sc v))(hc:h[q]?=some (.cells [a] true 0))(hw:∀ h1,h1=h.set q (.cells [v] true 0)->h1[q]?=some (.cells [v] true 0)->Qm FT HK r (Qv d none E) h1 K) :
  Qm FT HK (⟨d,.st 1 p x,none⟩::r) E h K :=
 Q2 (v:=none) (h':=h.set q (.cells [v] true 0)) rfl rfl (by simp[Qo,ha,hx,AV.cells,Xx,hc,Q8]) (hw _ rfl (GA (Gb.1 hc).1))
theorem JD{q:Nat}{a b v:SV}{p:AO}(ha:evS E p=some (.ptr q (0+1)))(hx:ev E x=some (.sc v))(hc:Cel h q a b)(hw:∀ h1,Wr h h1 q a v->Qm FT HK r (Qv d none E) h1 K) :
  Qm FT HK (⟨d,.st 1 p x,none⟩::r) E h K :=
 Q2 (v:=none) (h':=h.set q (.cells [a,v] true 0)) rfl rfl (by
  have hc':h[q]?=some (.cells [a,b] true 0):=hc
  simp[Qo,ha,hx,AV.cells,Xx,hc',Q8]) (hw _ ⟨rfl,_,_,hc⟩)
end
theorem Qw{h h':Qa}{id off n:Nat}{vs:List SV}(e:Ext h h')(hr:Q3 h id off n=some vs):Q3 h' id off n=some vs:=by
 unfold Q3 at hr ⊢
 split at hr
 ·rename_i hg;rw[e.get _ _ hg];exact hr
 ·cases hr
theorem Cel.fram{h h':Qa}{q:Nat}{a b s s':SV}(c:Cel h q a b)(hf:Fram h h' s s')(hn:XW s q):Cel h' q a b:=(hf _ _ c hn).1
theorem OwnD.wrC{h0 h h1:Qa}{q:Nat}{a b s:SV}{ps:List P2}(ho:OwnD h0 h s ps)(w:Wr h h1 q a b):OwnD h0 h1 s ps:=by
 obtain⟨c,d,hc⟩:=w.old
 rw[w.eq];exact ho.set (ho.cel hc) _
theorem IsD.wrC{h h1:Qa}{q:Nat}{a b s:SV}{ps:List P2}(ho:IsD h s ps)(w:Wr h h1 q a b):IsD h1 s ps:=by
 obtain⟨c,d,hc⟩:=w.old
 rw[w.eq];exact IsSl.setB ho (ho.cel hc) _
