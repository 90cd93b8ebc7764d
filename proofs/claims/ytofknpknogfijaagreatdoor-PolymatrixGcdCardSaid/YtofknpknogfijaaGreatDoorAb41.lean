import Derived.Test.YtofknpknogfijaaGreatDoorAb37
/- Arithmetic of 64 bits without a sign. -/
namespace Go.Ab
set_option linter.all false
theorem Jl(n:Int):IntKind.u64.wrap n=n%18446744073709551616:=by
 simp[IntKind.wrap,IntKind.signed,IntKind.bits]
section
variable {FT:zzA} {HK:zzH} {E:Env} {h:Qa} {K:Env->Qa->Prop} {d:Option Nat} {r:List AOp} {x y z:AO} {m n k:Int}
theorem QgA(hx:evS E x=some (.int .u64 m))(hy:evS E y=some (.int .u64 n))(hw:Qk FT HK r (Qw d (some (.sc (.int .u64 ((m+n)%18446744073709551616)))) E) h K):Qk FT HK (⟨d,.bin .add x y,none⟩::r) E h K :=
 Xi rfl rfl (by simp[Ql,hx,hy,Je,X8,yN,Yg,Jl]) hw
theorem QcL(hx:evS E x=some (.int .u64 m))(hy:evS E y=some (.int .u64 n))(hw:Qk FT HK r (Qw d (some (.sc (.int .u64 ((m-n)%18446744073709551616)))) E) h K):Qk FT HK (⟨d,.bin .sub x y,none⟩::r) E h K :=
 Xi rfl rfl (by simp[Ql,hx,hy,Je,X8,yN,Yg,Jl]) hw
theorem QaG(hx:evS E x=some (.int .u64 m))(hy:evS E y=some (.int .u64 n))(hw:Qk FT HK r (Qw d (some (.sc (.int .u64 ((m*n)%18446744073709551616)))) E) h K):Qk FT HK (⟨d,.bin .mul x y,none⟩::r) E h K :=
 Xi rfl rfl (by simp[Ql,hx,hy,Je,X8,yN,Yg,Jl]) hw
theorem YX(hx:evS E x=some (.int .u64 m))(hy:evS E y=some (.int .u64 n))(hr:0<=m+n/\m+n<18446744073709551616)(hw:Qk FT HK r (Qw d (some (.sc (.int .u64 (m+n)))) E) h K):Qk FT HK (⟨d,.bin .add x y,none⟩::r) E h K :=
 QgA hx hy (by rw[Hr hr.1 hr.2];exact hw)
theorem XI(hx:evS E x=some (.int .u64 m))(hy:evS E y=some (.int .u64 n))(hr:0<=m-n/\m-n<18446744073709551616)(hw:Qk FT HK r (Qw d (some (.sc (.int .u64 (m-n)))) E) h K):Qk FT HK (⟨d,.bin .sub x y,none⟩::r) E h K :=
 QcL hx hy (by rw[Hr hr.1 hr.2];exact hw)
theorem Jb(hx:evS E x=some (.int .u64 m))(hy:evS E y=some (.int .u64 n))(hr:0<=m*n/\m*n<18446744073709551616)(hw:Qk FT HK r (Qw d (some (.sc (.int .u64 (m*n)))) E) h K):Qk FT HK (⟨d,.bin .mul x y,none⟩::r) E h K :=
 QaG hx hy (by rw[Hr hr.1 hr.2];exact hw)
theorem Qk7(hx:evS E x=some (.int .u64 m))(hw:Qk FT HK r (Qw d (some (.sc (.int .u64 ((-m)%18446744073709551616)))) E) h K):Qk FT HK (⟨d,.un .neg x,none⟩::r) E h K :=
 Xi rfl rfl (by simp[Ql,hx,unS,Yg,Jl]) hw
theorem QdX{kd:IntKind}(hx:evS E x=some (.int kd m))(hw:Qk FT HK r (Qw d (some (.sc (.int .u64 (m%18446744073709551616)))) E) h K):Qk FT HK (⟨d,.conv .u64 x,none⟩::r) E h K :=
 Xi rfl rfl (by simp[Ql,hx,Yg,Jl]) hw
theorem QbJ{kd:IntKind}(hx:evS E x=some (.int kd m))(hr:0<=m/\m<18446744073709551616)(hw:Qk FT HK r (Qw d (some (.sc (.int .u64 m))) E) h K):Qk FT HK (⟨d,.conv .u64 x,none⟩::r) E h K :=
 QdX hx (by rw[Hr hr.1 hr.2];exact hw)
theorem UZ(hx:evS E x=some (.int .u64 m))(hy:evS E y=some (.int .u64 n))(hr:0<=m/\m<18446744073709551616/\0<n)(hw:Qk FT HK r (Qw d (some (.sc (.int .u64 (m/n)))) E) h K):Qk FT HK (⟨d,.bin .quo x y,none⟩::r) E h K:=by
 refine Xi rfl rfl ?_ hw
 have h0:n≠0:=by omega
 have h1:m.tdiv n=m/n:=Int.tdiv_eq_ediv_of_nonneg hr.1
 have h2:0<=m/n:=Int.ediv_nonneg hr.1 (by omega)
 have h3:m/n<=m:=Hh _ hr.1
 simp only[Ql,hx,hy,Je,X8,yN,Gi,Bool.false_eq_true,if_false,if_true,if_neg h0,Yg,Jl,h1]
 rw[Hr h2 (by omega)];rfl
theorem Qgu(hx:evS E x=some (.int .u64 m))(hy:evS E y=some (.int .u64 n))(hr:0<=m/\0<n)(hw:Qk FT HK r (Qw d (some (.sc (.int .u64 (m%n)))) E) h K):Qk FT HK (⟨d,.bin .rem x y,none⟩::r) E h K:=by
 refine Xi rfl rfl ?_ hw
 have h0:n≠0:=by omega
 have h1:m.tmod n=m%n:=Int.tmod_eq_emod_of_nonneg hr.1
 simp only[Ql,hx,hy,Je,X8,yN,Gi,Bool.false_eq_true,if_false,if_true,if_neg h0,h1];rfl
theorem XQ{b:Int}{q:Nat}(hx:evS E x=some (.int .u64 m)){k2:IntKind}(hy:evS E y=some (.int k2 b))(hb:b=(q:Nat))(hq:q<=64)(hw:Qk FT HK r (Qw d (some (.sc (.int .u64 (m/(2^q:Nat))))) E) h K):Qk FT HK (⟨d,.bin .shr x y,none⟩::r) E h K:=by
 refine Qjy hx hy (by omega) ?_ hw
 subst hb
 rw[show min ((q:Nat):Int).toNat IntKind.u64.bits=q by simp[IntKind.bits];omega,Int.fdiv_eq_ediv_of_nonneg _ (by exact Int.le_of_lt (Int.pow_pos (by omega)))]
 rw[Int.natCast_pow];rfl
theorem Qhx{a:Int}(h0:0<=a)(h1:a<18446744073709551616){q:Nat}(hq:q<=64):IntKind.u64.wrap ((BitVec.ofInt 64 a &&& BitVec.ofInt 64 (2^q-1:Nat)).toNat:Int)=a%(2^q:Nat):=by
 obtain⟨n,rfl⟩:=Int.eq_ofNat_of_zero_le h0
 have hp:2^q<=2^64:=Nat.pow_le_pow_right (by omega) hq
 have hpos:0<2^q:=Nat.pow_pos (by omega)
 have e1:(BitVec.ofInt 64 ((n:Nat):Int)).toNat=n:=by
  rw[BitVec.ofInt_natCast,BitVec.toNat_ofNat,Hu (by omega)]
 have e2:(BitVec.ofInt 64 ((2^q-1:Nat):Int)).toNat=2^q-1:=by
  rw[BitVec.ofInt_natCast,BitVec.toNat_ofNat,Hu (by omega)]
 rw[BitVec.toNat_and,e1,e2,Nat.and_two_pow_sub_one_eq_mod,Jl]
 have:=Hf n hpos
 rw[Hr (by omega) (by omega)]
 simp
theorem QaJ{q:Nat}{c:Int}(hx:evS E x=some (.int .u64 m))(hy:evS E y=some (.int .u64 c))(hr:0<=m/\m<18446744073709551616)(hq:q<=64)(hc:c=(2^q-1:Nat))(hw:Qk FT HK r (Qw d (some (.sc (.int .u64 (m%(2^q:Nat))))) E) h K):Qk FT HK (⟨d,.bin .and x y,none⟩::r) E h K:=by
 refine Xi rfl rfl ?_ hw
 subst hc
 have:=Qhx hr.1 hr.2 hq
 simp only[Ql,hx,hy,Je,X8,yN,Gi,Bool.false_eq_true,if_false,if_true,Yg]
 rw[show IntKind.bits .u64=64 from rfl,this];rfl
theorem Qk9(hx:evS E x=some (.int .u64 m))(hy:evS E y=some (.int .u64 n))(hz:evS E z=some (.int .u64 k))(hr:0<=m/\0<=n/\n<18446744073709551616/\0<=k/\k<=1)
  (hw:Qk FT HK r (Qw d (some (.tup [.sc (.int .u64 ((m+n+k)%18446744073709551616)),.sc (.int .u64 ((m+n+k)/18446744073709551616))])) E) h K):Qk FT HK (⟨d,.car false x y z,none⟩::r) E h K :=
 Xi rfl rfl (by simp only[Ql,hx,hy,hz];rw[if_pos hr];rfl) hw
theorem Qk8(hx:evS E x=some (.int .u64 m))(hy:evS E y=some (.int .u64 n))(hz:evS E z=some (.int .u64 k))(hr:0<=m/\0<=n/\n<18446744073709551616/\0<=k/\k<=1)
  (hw:Qk FT HK r (Qw d (some (.tup [.sc (.int .u64 ((m+18446744073709551616-n-k)%18446744073709551616)),.sc (.int .u64 (if m<n+k then 1 else 0))])) E) h K):Qk FT HK (⟨d,.car true x y z,none⟩::r) E h K :=
 Xi rfl rfl (by simp only[Ql,hx,hy,hz];rw[if_pos hr];rfl) hw
theorem Qgt{neg:Bool}{k1 k2:IntKind}{a b p q:Int}(hx:ev E x=some (.agg [.int k1 a,.int k2 p]))(hy:ev E y=some (.agg [.int k1 b,.int k2 q]))(hw:Qk FT HK r (Qw d (some (.sc (.bool (if neg then !(a==b&&p==q) else (a==b&&p==q))))) E) h K) :
  Qk FT HK (⟨d,.seq2 neg x y,none⟩::r) E h K :=
 Xi rfl rfl (by simp[Ql,hx,hy]) hw
end
abbrev P2:=SV×SV
def prs:List P2->List SV
 | []=>[]
 | p::r=>p.1::p.2::prs r
theorem ZV:∀ ps:List P2,(prs ps).length=ps.length*2
 | []=>rfl
 | p::r=>by simp[prs,ZV r];omega
theorem Uo:∀ a b:List P2,prs (a++b)=prs a++prs b
 | [],b=>rfl
 | p::r,b=>by simp[prs,Uo r b]
theorem QfY:∀ {ps:List P2} {i:Nat} {p:P2},ps[i]?=some p->((prs ps).drop (i*2)).take 2=[p.1,p.2]
 | [],i,p,h=>by simp at h
 | q::r,0,p,h=>by simp at h;subst h;simp[prs]
 | q::r,i+1,p,h=>by
  have e:(i+1)*2=i*2+1+1:=by omega
  rw[e]
  simp only[prs,List.drop_succ_cons]
  exact QfY (by simpa using h)
theorem yl:∀(ps:List P2) (n:Nat),prs (ps.take n)=(prs ps).take (n*2)
 | [],n=>by simp[prs]
 | p::r,0=>by simp[prs]
 | p::r,n+1=>by
  rw[show (n+1)*2=n*2+1+1 by omega]
  simp[prs,yl r n]
theorem ym:∀(ps:List P2) (n:Nat),prs (ps.drop n)=(prs ps).drop (n*2)
 | [],n=>by simp[prs]
 | p::r,0=>by simp[prs]
 | p::r,n+1=>by
  rw[show (n+1)*2=n*2+1+1 by omega]
  simp[prs,ym r n]
theorem Qit{ps:List P2}{i:Nat}(hi:i<ps.length)(p:P2):prs (ps.set i p)=(prs ps).take (i*2)++[p.1,p.2]++(prs ps).drop (i*2+2):=by
 rw[List.set_eq_take_append_cons_drop,if_pos hi,Uo,yl]
 simp only[prs]
 rw[ym,show (i+1)*2=i*2+2 by omega]
 simp
theorem Qad(a b:SV):∀ n,rep [a,b] n=prs (List.replicate n (a,b))
 | 0=>rfl
 | n+1=>by rw[List.replicate_succ];simp[rep,prs,Qad a b n]
def IsD(h:Qa)(s:SV)(ps:List P2):Prop:=IsSl h s 2 ps.length (prs ps)
theorem IsD.ext{h h':Qa}{s:SV}{ps:List P2}(i:IsD h s ps)(e:Ext h h'):IsD h' s ps:=IsSl.ext i e
theorem IsD.len{h:Qa}{s:SV}{ps:List P2}(i:IsD h s ps):Yv false s=some (ps.length:Int):=IsSl.len i
theorem IsD.nil(h:Qa):IsD h .nilS [] := .inl ⟨rfl,rfl,rfl⟩
theorem IsD.at{h:Qa}{s:SV}{ps:List P2}(hs:IsD h s ps){i:Nat}{p:P2}(hp:ps[i]?=some p):∃ id off cap,s = .slc id off ps.length cap/\Q9 h id (off+i*2) 2=some [p.1,p.2]:=by
 have hi:=(Gb.1 hp).1
 rcases hs with ⟨-,h0,-⟩|⟨id,off,cap,b,rfl,h1,h2,h3,h4⟩
 ·omega
 ·obtain⟨cs,rw',rfl,hc⟩:=h4 (by omega)
  refine⟨id,off,cap,rfl,?_⟩
  unfold Q9
  rw[h1]
  simp only
  unfold cut at hc ⊢
  simp only[ez2]at hc
  split at hc
  ·simp only[Option.some.injEq]at hc
   rw[if_pos (by omega)]
   have:(cs.drop (off+i*2)).take 2=(((cs.drop off).take (ps.length*2)).drop (i*2)).take 2:=by
    rw[List.drop_take,List.drop_drop,List.take_take]
    rw[GM (by omega)]
   rw[this,hc,QfY hp]
  ·simp at hc
def RoomD(n:Nat)(bl:List SV):Option Nat->Prop
 | none=>n*2<=bl.length
 | some c=>bl.length=c*2/\n<=c
def OwnD(h0 h:Qa)(s:SV)(ps:List P2):Prop:=(s = .nilS/\ps=[])∨∃ id cap bl,s = .slc id 0 ps.length cap/\h0.length<=id/\h[id]?=some (.cells bl true 2)/\bl.take (ps.length*2)=prs ps/\RoomD ps.length bl cap
theorem RoomD.le{n:Nat}{bl:List SV}{cap:Option Nat}(r:RoomD n bl cap):n*2<=bl.length:=by
 cases cap with
 | none=>exact r
 | some c=>have:=r.1;have:=r.2;omega
theorem OwnD.is{h0 h:Qa}{s:SV}{ps:List P2}(ho:OwnD h0 h s ps):IsD h s ps:=by
 rcases ho with ⟨rfl,rfl⟩|⟨id,cap,bl,rfl,h1,h2,h3,h4⟩
 ·exact .inl ⟨rfl,rfl,rfl⟩
 ·refine .inr ⟨id,0,cap,_,rfl,h2,rfl,fun h=>?_,fun _=>⟨bl,true,rfl,?_⟩⟩
  ·rw[Gu h];rfl
  ·have:=h4.le
   unfold cut
   simp only[ez2]
   rw[if_pos (by omega),Hi,h3]
theorem OwnD.len{h0 h:Qa}{s:SV}{ps:List P2}(ho:OwnD h0 h s ps):Yv false s=some (ps.length:Int):=ho.is.len
theorem OwnD.ext{h0 h h':Qa}{s:SV}{ps:List P2}(ho:OwnD h0 h s ps)(he:Ext h h'):OwnD h0 h' s ps:=by
 rcases ho with ho|⟨id,cap,bl,rfl,h1,h2,h3⟩
 ·exact .inl ho
 ·exact .inr ⟨id,cap,bl,rfl,h1,he.get _ _ h2,h3⟩
theorem OwnD.weaken{h0 h1 h:Qa}{s:SV}{ps:List P2}(ho:OwnD h1 h s ps)(hl:h0.length<=h1.length):OwnD h0 h s ps:=by
 rcases ho with ho|⟨id,cap,bl,rfl,e1,e2,e3⟩
 ·exact .inl ho
 ·exact .inr ⟨id,cap,bl,rfl,by omega,e2,e3⟩
theorem OwnD.cel{h0 h:Qa}{s:SV}{ps:List P2}(ho:OwnD h0 h s ps){j:Nat}{cs:List SV}{rw':Bool}(hj:h[j]?=some (.cells cs rw' 0)):Ys s j:=by
 rcases ho with ⟨rfl,-⟩|⟨id,cap,bl,rfl,h1,h2,-⟩
 ·intro o n c e;cases e
 ·intro o n c e;cases e
  rw[hj]at h2;simp at h2
  exact absurd h2.2.2 (by decide)
theorem IsD.cel{h:Qa}{s:SV}{ps:List P2}(ho:IsD h s ps){j:Nat}{cs:List SV}{rw':Bool}(hj:h[j]?=some (.cells cs rw' 0)):Ys s j:=by
 rcases ho with ⟨rfl,-⟩|⟨id,off,cap,b,rfl,h1,h2,-⟩
 ·intro o n c e;cases e
 ·intro o n c e;cases e
  rw[hj]at h1;simp at h1;subst h1
  exact absurd (show (0:ESz)=2 from h2) (by decide)
theorem OwnD.away{h0 h h':Qa}{s s' t:SV}{ps:List P2}(ht:OwnD h0 h t ps)(hf:Fram h h' s s')(ha:Apart s t):OwnD h0 h' t ps:=by
 rcases ht with hs|⟨id,cap,bl,rfl,h1,h2,h3⟩
 ·exact .inl hs
 ·exact .inr ⟨id,cap,bl,rfl,h1,(hf id _ h2 ((ha id).resolve_right fun hn=>hn _ _ _ rfl)).1,h3⟩
theorem OwnD.set{h0 h:Qa}{s:SV}{ps:List P2}(ho:OwnD h0 h s ps){j:Nat}(hn:Ys s j)(b:Blk):OwnD h0 (h.set j b) s ps:=by
 rcases ho with ho|⟨id,cap,bl,rfl,h1,h2,h3⟩
 ·exact .inl ho
 ·exact .inr ⟨id,cap,bl,rfl,h1,by rw[Gn (fun e=>by subst e;exact hn _ _ _ rfl)];exact h2,h3⟩
theorem IsSl.setB{h:Qa}{t:SV}{e:ESz}{n:Nat}{ws:List SV}(ht:IsSl h t e n ws){j:Nat}(hn:Ys t j)(b:Blk):IsSl (h.set j b) t e n ws :=
 ht.keep fun k c hk hx=>by rw[Gn (fun e=>by subst e;exact hx hn)];exact hk
theorem appD{h0 h:Qa}{s:SV}{ps:List P2}{bytes:Nat}(he:Ext h0 h)(ho:OwnD h0 h s ps)(hb:(ps.length+1)*(bytes+1)<=Yh)(a b:SV) :
  ∃ s' h',ZG h 2 bytes s 1 [a,b]=some (s',h')/\OwnD h0 h' s' (ps++[(a,b)])/\Ext h0 h'/\h.length<=h'.length/\Fram h h' s s':=by
 have hl:=he.len
 have hp:prs (ps++[(a,b)])=prs ps++[a,b]:=Uo _ _
 have hpl:(ps++[(a,b)]).length=ps.length+1:=by simp
 have hpr:=ZV ps
 rcases ho with ⟨rfl,rfl⟩|⟨id,cap,bl,rfl,h1,h2,h3,h4⟩
 ·refine⟨.slc h.length 0 1 none,h++[.cells [a,b] true 2],?_,.inr ⟨h.length,none,[a,b],rfl,hl,by simp,rfl,by simp[RoomD]⟩,he.app _,by simp,fun j b' hj hn=>?_⟩
  ·simp only[ZG]
   rw[if_neg (by omega),if_pos (by simp at hb;omega)]
  ·have hjl:=(Gb.1 hj).1
   exact⟨YN j b' hj,fun o n c hc=>by cases hc;omega⟩
 ·have hid:id<h.length:=(Gb.1 h2).1
  have hle:=h4.le
  have hcut:cut bl 0 (ps.length*2)=some (prs ps):=by
   unfold cut
   rw[if_pos (by omega),Hi,h3]
  have fresh:∀(j:Nat) (b:Blk),h[j]?=some b->∀ k,Ys (SV.slc h.length 0 k none) j:=by
   intro j b hj k o n c hc
   have:=(Gb.1 hj).1
   cases hc;omega
  cases cap with
  | none =>
   refine⟨.slc h.length 0 (ps.length+1) none,h.set id (.dead 2)++[.cells (prs ps++[a,b]) true 2],?_,?_,(he.set h1 _).app _,by simp,?_⟩
   ·simp only[ZG]
    rw[if_neg (by omega),if_pos hb,h2]
    simp only[if_true,ez2,hcut]
    rw[if_pos ⟨trivial,.inl rfl⟩]
   ·refine .inr ⟨h.length,none,prs ps++[a,b],by rw[hpl],hl,?_,?_,by simp[RoomD,hpr];omega⟩
    ·rw[Gk (by simp)];simp
    ·rw[hp,Gx (by simp[hpr];omega)]
   ·intro j b' hj hn
    have hne:id≠j:=fun e=>by subst e;exact hn _ _ _ rfl
    refine⟨YN j b' ?_,fresh j b' hj _⟩
    rw[Gn hne];exact hj
  | some c =>
   obtain⟨h5,h6⟩:=h4
   by_cases hc:c<ps.length+1
   ·refine⟨.slc h.length 0 (ps.length+1) none,h++[.cells (prs ps++[a,b]) true 2],?_,?_,he.app _,by simp,?_⟩
    ·simp only[ZG]
     rw[if_neg (by omega),if_pos hb,h2]
     simp only[if_true,ez2,hcut]
     rw[if_pos hc]
    ·refine .inr ⟨h.length,none,prs ps++[a,b],by rw[hpl],hl,?_,?_,by simp[RoomD,hpr];omega⟩
     ·rw[Gk (Ge _)];simp
     ·rw[hp,Gx (by simp[hpr];omega)]
    ·exact fun j b' hj hn=>⟨YN j b' hj,fresh j b' hj _⟩
   ·have hsl:(Xf bl (0+ps.length*2) [a,b]).length=c*2:=by simp[Xf];omega
    refine⟨.slc id 0 (ps.length+1) (some c),h.set id (.cells (Xf bl (0+ps.length*2) [a,b]) true 2),?_,?_,he.set h1 _,by simp,?_⟩
    ·simp only[ZG]
     rw[if_neg (by omega),if_pos hb,h2]
     simp only[if_true,ez2,hcut]
     rw[if_neg hc]
     simp only[Xz,h2]
     rw[if_pos (by simp;omega)];rfl
    ·refine .inr ⟨id,some c,Xf bl (0+ps.length*2) [a,b],by rw[hpl],h1,GI hid,?_,?_⟩
     ·rw[hp,hpl]
      simp only[Xf,Hc]
      rw[h3,Hs (by simp[hpr];omega),Gx (by simp[hpr];omega)]
     ·rw[hpl];exact⟨hsl,by omega⟩
    ·intro j b' hj hn
     have hne:id≠j:=fun e=>by subst e;exact hn _ _ _ rfl
     refine⟨?_,fun o n c' e=>hn _ _ _ (by cases e;rfl)⟩
     rw[Gn hne];exact hj
theorem OwnD.rd{h0 h:Qa}{s:SV}{ps:List P2}{i:Nat}{p:P2}(ho:OwnD h0 h s ps)(hp:ps[i]?=some p):∃ id cap,s = .slc id 0 ps.length cap/\Q9 h id (0+i*2) 2=some [p.1,p.2]:=by
 obtain⟨id,off,cap,e,hr⟩:=ho.is.at hp
 rcases ho with ⟨rfl,rfl⟩|⟨id2,cap2,bl,rfl,h1,h2,h3⟩
 ·simp at hp
 ·cases e
  exact⟨id,cap,rfl,hr⟩
theorem OwnD.wr{h0 h:Qa}{s:SV}{ps:List P2}{i:Nat}(he:Ext h0 h)(ho:OwnD h0 h s ps)(hi:i<ps.length)(a b:SV) :
  ∃ id cap h',s = .slc id 0 ps.length cap/\Xz h id (0+i*2) [a,b]=some h'/\OwnD h0 h' s (ps.set i (a,b))/\Ext h0 h'/\Fram h h' s s/\h'.length=h.length:=by
 rcases ho with ⟨rfl,rfl⟩|⟨id,cap,bl,rfl,h1,h2,h3,h4⟩
 ·simp at hi
 ·have hle:=h4.le
  have hid:id<h.length:=(Gb.1 h2).1
  have hpr:=ZV ps
  refine⟨id,cap,h.set id (.cells (Xf bl (i*2) [a,b]) true 2),rfl,?_,.inr ⟨id,cap,Xf bl (i*2) [a,b],by simp,h1,GI hid,?_,?_⟩,he.set h1 _,?_,by simp⟩
  ·simp only[Xz,h2,Hc]
   rw[if_pos (by simp;omega)]
  ·rw[Hb,Qit hi]
   simp only[Xf,GQ,Hg]
   have e1:bl.take (i*2)=(prs ps).take (i*2):=by
    rw[← h3,List.take_take,GM (by omega)]
   have e2:(bl.drop (i*2+2)).take (ps.length*2-(i*2+2))=(prs ps).drop (i*2+2):=by
    rw[← h3,List.drop_take]
   rw[List.take_append,List.take_append]
   simp only[GK,GV,GQ,Hg]
   rw[GM (by omega),Gx (l:=bl.take (i*2)) (by simp;omega),Gx (l:=[a,b]) (by simp;omega),e1,
    show ps.length*2-(i*2+(0+1+1))=ps.length*2-(i*2+2) by omega,show i*2+(0+1+1)=i*2+2 by omega,e2]
  ·rw[Hb]
   have hsl:(Xf bl (i*2) [a,b]).length=bl.length:=by simp[Xf];omega
   cases cap with
   | none=>show _<=_;rw[hsl];exact h4
   | some c=>exact⟨by rw[hsl];exact h4.1,h4.2⟩
  ·intro j b' hj hn
   have hne:id≠j:=fun e=>by subst e;exact hn _ _ _ rfl
   exact⟨by rw[Gn hne];exact hj,hn⟩
section
variable {FT:zzA} {HK:zzH} {E:Env} {h h0:Qa} {K:Env->Qa->Prop} {d:Option Nat} {r:List AOp} {x y xo so:AO}
theorem zW{bytes:Nat}{a b:SV}{n m:Int}{k1 k2:IntKind}(he:Ext h0 h)(hx:evS E x=some (.int k1 n))(hy:evS E y=some (.int k2 m))(hb:0<=n/\n<=m/\m*(bytes+1:Nat)<=Yh)
  (hw:∀ s h1,OwnD h h1 s (List.replicate n.toNat (a,b))->Ext h h1->Ext h0 h1->h.length<h1.length->Qk FT HK r (Qw d (some (.sc s)) E) h1 K):Qk FT HK (⟨d,.mk 2 bytes [a,b] x y,none⟩::r) E h K:=by
 refine op_mk rfl hx hy hb (hw _ _ ?_ ⟨_,rfl⟩ (he.app _) (by simp))
 refine .inr ⟨h.length,some m.toNat,rep [a,b] m.toNat,by simp,Ge _,by simp,?_,?_⟩
 ·rw[Qad,List.length_replicate,← yl,List.take_replicate,GM (by omega)]
 ·rw[List.length_replicate,Qad]
  exact⟨by rw[ZV,List.length_replicate],by omega⟩
theorem ZZ{t bytes:Nat}{s a b z0 z1:SV}{ps:List P2}{z2:List SV}(he:Ext h0 h)(ho:OwnD h0 h s ps)(hx:ev E xo=some (.agg [a,b]))(hs:evS (Qw (some t) (some (.sc (.slc h.length 0 1 (some 1)))) E) so=some s)(hb:(ps.length+1)*(bytes+1)<=Yh)
  (hw:∀ s' h',OwnD h0 h' s' (ps++[(a,b)])->Ext h0 h'->Fram h h' s s'->h.length<=h'.length->Qk FT HK r (Qw d (some (.sc s')) (Qw (some t) (some (.sc (.slc h.length 0 1 (some 1)))) E)) h' K) :
  Qk FT HK (⟨some t,.bsl 2 [z0,z1] 1 [(0,xo)],none⟩::⟨d,.app 2 bytes z2 so (.t t),none⟩::r) E h K:=by
 obtain⟨s',h',h1,h2,h3,h4,h5⟩:=appD (bytes:=bytes) (h:=h++[.cells [a,b] true 2]) (he.app _) (ho.ext ⟨_,rfl⟩) hb a b
 refine Xi (v:=some (.sc (.slc h.length 0 1 (some 1)))) (h':=h++[.cells [a,b] true 2]) rfl rfl ?_ ?_
 ·simp[Ql,Yk,hx,AV.cells,ZA,rep,Xf,ez2]
 refine Xi (v:=some (.sc s')) (h':=h') rfl rfl ?_ (hw s' h' h2 h3 (fun j b' hj hn=>h5 j b' (YN j b' hj) hn) (by simp at h4;omega))
 have e1:evS (Qw (some t) (some (.sc (.slc h.length 0 1 (some 1)))) E) (.t t)=some (.slc h.length 0 1 (some 1)):=by simp[evS,ev,Qw,Env.get]
 have e2:XZ (h++[Blk.cells [a,b] true 2]) 2 (.slc h.length 0 1 (some 1))=some (1,[a,b]):=by simp[XZ,Q9,cut]
 simp only[Ql,hs,e1,Gi,ez2,e2,h1,Gm]
theorem XN{id off:Nat}{a b:SV}(hx:evS E x=some (.ptr id off))(hr:Q9 h id off 2=some [a,b])(hw:Qk FT HK r (Qw d (some (.agg [a,b])) E) h K):Qk FT HK (⟨d,.ld 2 true x,none⟩::r) E h K :=
 Xi rfl rfl (by simp[Ql,hx,hr,YU]) hw
theorem QbH{id off:Nat}{a b:SV}{h':Qa}{p:AO}(ha:evS E p=some (.ptr id off))(hx:ev E x=some (.agg [a,b]))(hr:Xz h id off [a,b]=some h')(hw:Qk FT HK r (Qw d none E) h' K):Qk FT HK (⟨d,.st 2 p x,none⟩::r) E h K :=
 Xi rfl rfl (by simp[Ql,ha,hx,AV.cells,hr]) hw
theorem yP(hw:K E h):Qk FT HK [] E h K:=hw
theorem y7{a:SV}(hw:∀ h1,Ext h h1->h1[h.length]?=some (.cells [a] true 0)->Qk FT HK r (Qw d (some (.sc (.ptr h.length 0))) E) h1 K):Qk FT HK (⟨d,.new [a],none⟩::r) E h K :=
 Xi (v:=some (.sc (.ptr h.length 0))) (h':=h++[.cells [a] true 0]) rfl rfl rfl (hw _ ⟨_,rfl⟩ (by simp))
theorem QbI{q:Nat}{a v:SV}{p:AO}(ha:evS E p=some (.ptr q 0))(hx:ev E x=some (.sc v))(hc:h[q]?=some (.cells [a] true 0))(hw:∀ h1,h1=h.set q (.cells [v] true 0)->h1[q]?=some (.cells [v] true 0)->Qk FT HK r (Qw d none E) h1 K) :
  Qk FT HK (⟨d,.st 1 p x,none⟩::r) E h K :=
 Xi (v:=none) (h':=h.set q (.cells [v] true 0)) rfl rfl (by simp[Ql,ha,hx,AV.cells,Xz,hc,Xf]) (hw _ rfl (GI (Gb.1 hc).1))
theorem ZO{q:Nat}{a b v:SV}{p:AO}(ha:evS E p=some (.ptr q (0+1)))(hx:ev E x=some (.sc v))(hc:Cel h q a b)(hw:∀ h1,Wr h h1 q a v->Qk FT HK r (Qw d none E) h1 K) :
  Qk FT HK (⟨d,.st 1 p x,none⟩::r) E h K :=
 Xi (v:=none) (h':=h.set q (.cells [a,v] true 0)) rfl rfl (by
  have hc':h[q]?=some (.cells [a,b] true 0):=hc
  simp[Ql,ha,hx,AV.cells,Xz,hc',Xf]) (hw _ ⟨rfl,_,_,hc⟩)
end
theorem QO{h h':Qa}{id off n:Nat}{vs:List SV}(e:Ext h h')(hr:Q9 h id off n=some vs):Q9 h' id off n=some vs:=by
 unfold Q9 at hr ⊢
 split at hr
 ·rename_i hg;rw[e.get _ _ hg];exact hr
 ·cases hr
theorem Cel.fram{h h':Qa}{q:Nat}{a b s s':SV}(c:Cel h q a b)(hf:Fram h h' s s')(hn:Ys s q):Cel h' q a b:=(hf _ _ c hn).1
theorem OwnD.wrC{h0 h h1:Qa}{q:Nat}{a b s:SV}{ps:List P2}(ho:OwnD h0 h s ps)(w:Wr h h1 q a b):OwnD h0 h1 s ps:=by
 obtain⟨c,d,hc⟩:=w.old
 rw[w.eq];exact ho.set (ho.cel hc) _
theorem IsD.wrC{h h1:Qa}{q:Nat}{a b s:SV}{ps:List P2}(ho:IsD h s ps)(w:Wr h h1 q a b):IsD h1 s ps:=by
 obtain⟨c,d,hc⟩:=w.old
 rw[w.eq];exact IsSl.setB ho (ho.cel hc) _
