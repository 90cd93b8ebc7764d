import Derived.Test.YtofknpknogfijaaGreatDoorAb23
import Derived.Lib.Builder
/- strings.Builder's check against copies,as a contract. -/
namespace Go.Ab
set_option linter.all false
variable [Base]
def yb(T:Nat):Xq:=fun args h=>match args with
 | [.sc (.ptr id 0)] => match h[id]? with
   | some (.cells [.nilP,x] true z)=>if z=⟨0,some T⟩ then some (.tup [],h.set id (.cells [.ptr id 0,x] true z)) else none
   | some (.cells [.ptr j 0,x] true z)=>if z=⟨0,some T⟩/\j=id then some (.tup [],h) else none
   | _=>none
 | _=>none
theorem Qfc{P:Program}{f:FuncId}{T:Nat}(hfn:U1 P f=true)
  (hu:∀(b:Nat) (w:World),w.cell? ⟨b,0,none⟩=some (.pointer (some ⟨b,0,none⟩))->Calls P f #[.pointer (some ⟨b,0,none⟩)] w fun e w'=>e = .returned (.tuple #[])/\w'=w)
  (hn:∀(b:Nat) (w:World),w.cell? ⟨b,0,none⟩=some (.pointer none)->w.shape? b=some (T,2)->w.frozen? ⟨b,0,none⟩=false ->
   Calls P f #[.pointer (some ⟨b,0,none⟩)] w fun e w'=>e = .returned (.tuple #[])/\w'=w.setCell ⟨b,0,none⟩ (.pointer (some ⟨b,0,none⟩))):HkOK P f (yb T) where
 fn:=hfn
 len:=fun args h v h' hs=>by
  unfold yb at hs
  split at hs
  ·split at hs
   ·split at hs
    ·simp at hs;rw[← hs.2];simp
    ·simp at hs
   ·split at hs
    ·simp at hs;rw[hs.2];exact Ge _
    ·simp at hs
   ·simp at hs
  ·simp at hs
 run:=fun args h v h' hs β w vs hvs R hf=>by
  unfold yb at hs
  split at hs
  ·rename_i id
   cases hvs with
   | cons ha hr =>
    cases hr
    cases ha with
    | sc ha =>
     cases ha with
     | ptr hL hn' =>
      rename_i L
      split at hs
      ·rename_i x z hg
       split at hs
       ·rename_i hz
        subst hz
        simp at hs
        obtain⟨rfl,rfl⟩:=hs
        obtain⟨h1,ccs,e,fz,h2,h3,h4,h5,h6,h7,h8⟩:=(R.blk id L _ true _ hg hL).cell hn'
        obtain⟨hb0,hsz⟩:=h8.1 T rfl
        replace hsz:=hsz rfl
        have he:e=T:=h7 T rfl
        have hfz:=h6 rfl
        subst he hfz
        simp at hsz
        obtain⟨c0,k1,k2⟩:=h5 0 .nilP rfl
        cases k2
        rw[hb0]at k1
        have hc:w.cell? ⟨L.b,0,none⟩=some (.pointer none):=by rw[cell_of_row w L.b _ ccs e _ h2];exact k1
        have hfr:w.frozen? ⟨L.b,0,none⟩=false:=by simp[World.frozen?,h2]
        have hw:Xz h id 0 [.ptr id 0]=some (h.set id (.cells [.ptr id 0,x] true ⟨0,some e⟩)):=by
         simp[Xz,hg,Xf]
        obtain⟨w1,s1,s2,s3⟩:=Jn (P:=P) R hL hn' (vs:=[.ptr id 0]) (ws:=[.pointer (some ⟨L.b,L.base+0,none⟩)]) (.cons (.ptr hL hn') .nil) hw
        rw[hb0]at s1
        have hrun:(storeCells ⟨L.b,0+0,none⟩ [.pointer (some ⟨L.b,0+0,none⟩)]).run P w = .ok () (w.setCell ⟨L.b,0,none⟩ (.pointer (some ⟨L.b,0,none⟩))):=by
         have ha:(⟨L.b,0,none⟩:Addr).add 0=⟨L.b,0,none⟩:=rfl
         have hst:=run_store P w ⟨L.b,0,none⟩ (.pointer (some ⟨L.b,0,none⟩)) .plain rfl
         rw[hc]at hst
         simp only[hfr,Bool.false_eq_true,if_false]at hst
         simp[storeCells,ha,hst]
        rw[hrun]at s1
        simp only[Result.ok.injEq,true_and]at s1
        rw[hb0]
        refine(hn L.b w hc (by simp[World.shape?,h2];omega) hfr).mono ?_
        rintro e' w' ⟨rfl,rfl⟩
        rw[s1]
        exact⟨β,_,rfl,.tup .nil,s2,s3⟩
       ·simp at hs
      ·rename_i j x z hg
       split at hs
       ·rename_i hz
        obtain⟨rfl,rfl⟩:=hz
        simp at hs
        obtain⟨rfl,rfl⟩:=hs
        obtain⟨h1,ccs,e,fz,h2,h3,h4,h5,h6,h7,h8⟩:=(R.blk _ L _ true _ hg hL).cell hn'
        obtain⟨hb0,hsz⟩:=h8.1 T rfl
        obtain⟨c0,k1,k2⟩:=h5 0 _ rfl
        cases k2 with
        | ptr hM =>
         rw[hL]at hM
         simp at hM;subst hM
         rw[hb0]at k1
         have hc:w.cell? ⟨L.b,0,none⟩=some (.pointer (some ⟨L.b,0,none⟩)):=by rw[cell_of_row w L.b _ ccs e _ h2];exact k1
         rw[hb0]
         refine(hu L.b w hc).mono ?_
         rintro e' w' ⟨rfl,rfl⟩
         exact⟨β,_,rfl,.tup .nil,Stp.refl _ _ _,R⟩
       ·simp at hs
      ·simp at hs
  ·simp at hs
end Go.Ab
namespace Go.Ab
set_option linter.all false
section
variable {FT:zzA} {HK:zzH} {E:Env} {h:Qa} {K:Env->Qa->Prop} {d:Option Nat} {r:List AOp} {Q:Ex->Env->Qa->Prop} {a b:AC} {c:AO} {o:AOp} {x y i:AO} {k:AK}
theorem Qe(hw:Qk FT HK [] E h K):Qk FT HK [] E h K:=hw
theorem Qb(hw:Qk FT HK (o::r) E h K):Qk FT HK (o::r) E h K:=hw
theorem Qg(hw:wA FT HK (.cond c a b) E h Q):wA FT HK (.cond c a b) E h Q:=hw
theorem QaF{t:Nat}{u:Bool}(hg:E.get t=some (.tup []))(hw:Qk FT HK r (Qw d (some (.tup [])) E) h K):Qk FT HK (⟨d,k,some (t,u)⟩::r) E h K :=
 QdC (by simp only[Yn,hg]) hw
theorem Xa{t:Nat}{u:Bool}(hg:E.get t=some (.sc (.bool !u)))(hw:Qk FT HK r (Qw d (some (.tup [])) E) h K):Qk FT HK (⟨d,k,some (t,u)⟩::r) E h K :=
 QdC (by simp only[Yn,hg];cases u <;> rfl) hw
theorem QE{t:Nat}{u:Bool}(hg:E.get t=some (.sc (.bool u)))(hw:Qk FT HK (⟨d,k,none⟩::r) E h K):Qk FT HK (⟨d,k,some (t,u)⟩::r) E h K:=by
 have h1:wOp FT HK ⟨d,k,none⟩ E h (fun E' h'=>Qk FT HK r E' h' K):=hw
 show wOp FT HK _ _ _ _
 unfold wOp at h1 ⊢
 have hw:Yn E (some (t,u))=some true:=by simp only[Yn,hg];cases u <;> rfl
 rw[hw]
 exact h1
theorem Qn{v:AV}(hx:ev E x=some v)(hw:Qk FT HK r (Qw d (some v) E) h K):Qk FT HK (⟨d,.mv x,none⟩::r) E h K :=
 Xi rfl rfl (by simp only[Ql,hx];rfl) hw
theorem QK{p q:AO}{v:AV}(hc:evS E c=some (.bool true))(hx:ev E p=some v)(hw:Qk FT HK r (Qw d (some v) E) h K):Qk FT HK (⟨d,.pick c p q,none⟩::r) E h K :=
 Xi rfl rfl (by simp only[Ql,hc,hx];rfl) hw
theorem Qy{p q:AO}{v:AV}(hc:evS E c=some (.bool false))(hx:ev E q=some v)(hw:Qk FT HK r (Qw d (some v) E) h K):Qk FT HK (⟨d,.pick c p q,none⟩::r) E h K :=
 Xi rfl rfl (by simp only[Ql,hc,hx];rfl) hw
theorem Qjz{u:Bool}(hx:evS E x=some (.bool u))(hw:Qk FT HK r (Qw d (some (.sc (.bool (!u)))) E) h K):Qk FT HK (⟨d,.un .not x,none⟩::r) E h K :=
 Xi rfl rfl (by simp only[Ql,hx];rfl) hw
theorem XX(hx:evS E x=some (.bool true))(hw:Qk FT HK r (Qw d (some (.sc (.bool false))) E) h K):Qk FT HK (⟨d,.un .not x,none⟩::r) E h K:=Qjz hx hw
theorem YW(hx:evS E x=some (.bool false))(hw:Qk FT HK r (Qw d (some (.sc (.bool true))) E) h K):Qk FT HK (⟨d,.un .not x,none⟩::r) E h K:=Qjz hx hw
section arith
variable {m n:Int}
theorem Q1(hx:evS E x=some (.int .i64 m))(hy:evS E y=some (.int .i64 n))(hr : -9223372036854775808<=m+n/\m+n<=9223372036854775807)(hw:Qk FT HK r (Qw d (some (.sc (.int .i64 (m+n)))) E) h K):Qk FT HK (⟨d,.bin .add x y,none⟩::r) E h K :=
 Jw rfl rfl (by simp only[Ql,hx,hy];rfl) hr hw
theorem Yp(hx:evS E x=some (.int .i64 m))(hy:evS E y=some (.int .i64 n))(hr : -9223372036854775808<=m-n/\m-n<=9223372036854775807)(hw:Qk FT HK r (Qw d (some (.sc (.int .i64 (m-n)))) E) h K):Qk FT HK (⟨d,.bin .sub x y,none⟩::r) E h K :=
 Jw rfl rfl (by simp only[Ql,hx,hy];rfl) hr hw
theorem QdU(hx:evS E x=some (.int .i64 m))(hy:evS E y=some (.int .i64 n))(hr : -9223372036854775808<=m*n/\m*n<=9223372036854775807)(hw:Qk FT HK r (Qw d (some (.sc (.int .i64 (m*n)))) E) h K):Qk FT HK (⟨d,.bin .mul x y,none⟩::r) E h K :=
 Jw rfl rfl (by simp only[Ql,hx,hy];rfl) hr hw
theorem Zy(hx:evS E x=some (.int .i64 m))(hr : -9223372036854775808 ≤ -m ∧ -m<=9223372036854775807)(hw:Qk FT HK r (Qw d (some (.sc (.int .i64 (-m)))) E) h K):Qk FT HK (⟨d,.un .neg x,none⟩::r) E h K :=
 Jw rfl rfl (by simp only[Ql,hx];rw[show -m=0-m by omega];rfl) hr hw
theorem QdT(hx:evS E x=some (.int .i64 m))(hy:evS E y=some (.int .i64 n))(hr:0<=m/\m<=9223372036854775807/\0<n)(hw:Qk FT HK r (Qw d (some (.sc (.int .i64 (m/n)))) E) h K):Qk FT HK (⟨d,.bin .quo x y,none⟩::r) E h K:=by
 have h1:m.tdiv n=m/n:=Int.tdiv_eq_ediv_of_nonneg hr.1
 have h2:0<=m/n:=Int.ediv_nonneg hr.1 (by omega)
 have h3:m/n<=m:=Hh n hr.1
 refine Jw (n:=m/n) rfl rfl ?_ (by omega) hw
 simp only[Ql,hx,hy,Gi,Je,X8,yN]
 rw[if_neg (by decide),if_pos trivial,if_neg (by omega),h1];rfl
theorem QaC(hx:evS E x=some (.int .i64 m))(hy:evS E y=some (.int .i64 n))(hr:n≠0)(hw:Qk FT HK r (Qw d (some (.sc (.int .i64 (m.tmod n)))) E) h K):Qk FT HK (⟨d,.bin .rem x y,none⟩::r) E h K:=by
 refine Xi rfl rfl ?_ hw
 simp only[Ql,hx,hy,Gi,Je,X8,yN]
 rw[if_neg (by decide),if_pos trivial,if_neg hr];rfl
theorem QdV(hx:evS E x=some (.int .i64 m))(hy:evS E y=some (.int .i64 n))(hw:Qk FT HK r (Qw d (some (.sc (.int .i64 (max m n)))) E) h K):Qk FT HK (⟨d,.mm true x [y],none⟩::r) E h K:=by
 refine Xi rfl rfl ?_ hw
 simp only[Ql,hx,Gi,Vr,hy,Gm,mmL,mm2,if_true]
 congr 4
 split <;> simp <;> omega
theorem QdY{op:BinOp}{p:Prop}{ip:Decidable p}{kd:IntKind}(hx:evS E x=some (.int kd m))(hy:evS E y=some (.int kd n))(hs:yN op kd m n=some (.bool (@decide p ip)))(ho:X8 op=false)
  (ht:p->Qk FT HK r (Qw d (some (.sc (.bool true))) E) h K) (hf:¬ p->Qk FT HK r (Qw d (some (.sc (.bool false))) E) h K):Qk FT HK (⟨d,.bin op x y,none⟩::r) E h K:=by
 have h1:Ql E h (.bin op x y)=some (some (.sc (.bool (@decide p ip))),h):=by
  simp only[Ql,hx,hy,Gi,Je,ho,if_true,hs]
  rfl
 exact Qal rfl rfl h1 (fun hb=>ht (by simpa using hb)) (fun hb=>hf (by simpa using hb))
theorem QjA{kd:IntKind}(hx:evS E x=some (.int kd m))(hy:evS E y=some (.int kd n))(ht:m<n->Qk FT HK r (Qw d (some (.sc (.bool true))) E) h K)(hf:¬ m<n->Qk FT HK r (Qw d (some (.sc (.bool false))) E) h K):Qk FT HK (⟨d,.bin .lss x y,none⟩::r) E h K :=
 QdY hx hy rfl rfl ht hf
theorem QH{kd:IntKind}(hx:evS E x=some (.int kd m))(hy:evS E y=some (.int kd n))(hp:m<n)(ht:Qk FT HK r (Qw d (some (.sc (.bool true))) E) h K):Qk FT HK (⟨d,.bin .lss x y,none⟩::r) E h K :=
 QjA hx hy (fun _=>ht) (fun hn=>absurd hp hn)
theorem QW{kd:IntKind}(hx:evS E x=some (.int kd m))(hy:evS E y=some (.int kd n))(hp:¬ m<n)(ht:Qk FT HK r (Qw d (some (.sc (.bool false))) E) h K):Qk FT HK (⟨d,.bin .lss x y,none⟩::r) E h K :=
 QjA hx hy (fun hn=>absurd hn hp) (fun _=>ht)
theorem QjB{kd:IntKind}(hx:evS E x=some (.int kd m))(hy:evS E y=some (.int kd n))(ht:m<=n->Qk FT HK r (Qw d (some (.sc (.bool true))) E) h K)(hf:¬ m<=n->Qk FT HK r (Qw d (some (.sc (.bool false))) E) h K):Qk FT HK (⟨d,.bin .leq x y,none⟩::r) E h K :=
 QdY hx hy rfl rfl ht hf
theorem QcN{kd:IntKind}(hx:evS E x=some (.int kd m))(hy:evS E y=some (.int kd n))(hp:m<=n)(ht:Qk FT HK r (Qw d (some (.sc (.bool true))) E) h K):Qk FT HK (⟨d,.bin .leq x y,none⟩::r) E h K :=
 QjB hx hy (fun _=>ht) (fun hn=>absurd hp hn)
theorem QaH{kd:IntKind}(hx:evS E x=some (.int kd m))(hy:evS E y=some (.int kd n))(hp:¬ m<=n)(ht:Qk FT HK r (Qw d (some (.sc (.bool false))) E) h K):Qk FT HK (⟨d,.bin .leq x y,none⟩::r) E h K :=
 QjB hx hy (fun hn=>absurd hn hp) (fun _=>ht)
theorem QjC{kd:IntKind}(hx:evS E x=some (.int kd m))(hy:evS E y=some (.int kd n))(ht:n<m->Qk FT HK r (Qw d (some (.sc (.bool true))) E) h K)(hf:¬ n<m->Qk FT HK r (Qw d (some (.sc (.bool false))) E) h K):Qk FT HK (⟨d,.bin .gtr x y,none⟩::r) E h K :=
 QdY hx hy rfl rfl ht hf
theorem X9{kd:IntKind}(hx:evS E x=some (.int kd m))(hy:evS E y=some (.int kd n))(hp:n<m)(ht:Qk FT HK r (Qw d (some (.sc (.bool true))) E) h K):Qk FT HK (⟨d,.bin .gtr x y,none⟩::r) E h K :=
 QjC hx hy (fun _=>ht) (fun hn=>absurd hp hn)
theorem XY{kd:IntKind}(hx:evS E x=some (.int kd m))(hy:evS E y=some (.int kd n))(hp:¬ n<m)(ht:Qk FT HK r (Qw d (some (.sc (.bool false))) E) h K):Qk FT HK (⟨d,.bin .gtr x y,none⟩::r) E h K :=
 QjC hx hy (fun hn=>absurd hn hp) (fun _=>ht)
theorem QjD{kd:IntKind}(hx:evS E x=some (.int kd m))(hy:evS E y=some (.int kd n))(ht:n<=m->Qk FT HK r (Qw d (some (.sc (.bool true))) E) h K)(hf:¬ n<=m->Qk FT HK r (Qw d (some (.sc (.bool false))) E) h K):Qk FT HK (⟨d,.bin .geq x y,none⟩::r) E h K :=
 QdY hx hy rfl rfl ht hf
theorem YD{kd:IntKind}(hx:evS E x=some (.int kd m))(hy:evS E y=some (.int kd n))(hp:n<=m)(ht:Qk FT HK r (Qw d (some (.sc (.bool true))) E) h K):Qk FT HK (⟨d,.bin .geq x y,none⟩::r) E h K :=
 QjD hx hy (fun _=>ht) (fun hn=>absurd hp hn)
theorem X3{kd:IntKind}(hx:evS E x=some (.int kd m))(hy:evS E y=some (.int kd n))(hp:¬ n<=m)(ht:Qk FT HK r (Qw d (some (.sc (.bool false))) E) h K):Qk FT HK (⟨d,.bin .geq x y,none⟩::r) E h K :=
 QjD hx hy (fun hn=>absurd hn hp) (fun _=>ht)
theorem Qgy{kd:IntKind}(hx:evS E x=some (.int kd m))(hy:evS E y=some (.int kd n))(ht:m=n->Qk FT HK r (Qw d (some (.sc (.bool true))) E) h K)(hf:m≠n->Qk FT HK r (Qw d (some (.sc (.bool false))) E) h K):Qk FT HK (⟨d,.bin .eql x y,none⟩::r) E h K:=by
 have h1:Ql E h (.bin .eql x y)=some (some (.sc (.bool (m==n))),h):=by
  simp only[Ql,hx,hy,Gi,Je,X8,if_true]
  rfl
 exact Qal rfl rfl h1 (fun hb=>ht (by simpa using hb)) (fun hb=>hf (by simpa using hb))
theorem Qgw{kd:IntKind}(hx:evS E x=some (.int kd m))(hy:evS E y=some (.int kd n))(ht:m≠n->Qk FT HK r (Qw d (some (.sc (.bool true))) E) h K)(hf:m=n->Qk FT HK r (Qw d (some (.sc (.bool false))) E) h K):Qk FT HK (⟨d,.bin .neq x y,none⟩::r) E h K:=by
 have h1:Ql E h (.bin .neq x y)=some (some (.sc (.bool (m != n))),h):=by
  simp only[Ql,hx,hy,Gi,Je,X8,if_true]
  rfl
 exact Qal rfl rfl h1 (fun hb=>ht (by simpa using hb)) (fun hb=>hf (by simpa using hb))
theorem XC{kd:IntKind}(hx:evS E x=some (.int kd m))(hy:evS E y=some (.int kd n))(hp:m=n)(ht:Qk FT HK r (Qw d (some (.sc (.bool true))) E) h K):Qk FT HK (⟨d,.bin .eql x y,none⟩::r) E h K:=Qgy hx hy (fun _=>ht) (fun hn=>absurd hp hn)
theorem Xk{kd:IntKind}(hx:evS E x=some (.int kd m))(hy:evS E y=some (.int kd n))(hp:m≠n)(ht:Qk FT HK r (Qw d (some (.sc (.bool false))) E) h K):Qk FT HK (⟨d,.bin .eql x y,none⟩::r) E h K:=Qgy hx hy (fun hn=>absurd hn hp) (fun _=>ht)
theorem Zh{kd:IntKind}(hx:evS E x=some (.int kd m))(hy:evS E y=some (.int kd n))(hp:m≠n)(ht:Qk FT HK r (Qw d (some (.sc (.bool true))) E) h K):Qk FT HK (⟨d,.bin .neq x y,none⟩::r) E h K:=Qgw hx hy (fun _=>ht) (fun hn=>absurd hn hp)
theorem X2{kd:IntKind}(hx:evS E x=some (.int kd m))(hy:evS E y=some (.int kd n))(hp:m=n)(ht:Qk FT HK r (Qw d (some (.sc (.bool false))) E) h K):Qk FT HK (⟨d,.bin .neq x y,none⟩::r) E h K:=Qgw hx hy (fun hn=>absurd hp hn) (fun _=>ht)
end arith
theorem QJ{esz id off n:Nat}{cp:Option Nat}{kd:IntKind}{j:Int}(hx:evS E x=some (.slc id off n cp))(hi:evS E i=some (.int kd j))(hb:0<=j/\j<n)
 (hw:Qk FT HK r (Qw d (some (.sc (.ptr id (off+j.toNat*esz)))) E) h K):Qk FT HK (⟨d,.idxA esz x i,none⟩::r) E h K:=Qiz rfl hx hi hb hw
theorem Xx{id off:Nat}{v:SV}(hx:evS E x=some (.ptr id off))(hr:Q9 h id off 1=some [v])
 (hw:Qk FT HK r (Qw d (some (.sc v)) E) h K):Qk FT HK (⟨d,.ld 1 false x,none⟩::r) E h K:=Qjs rfl hx hr hw
theorem QaE{id off:Nat}{v:SV}{h':Qa}{p:AO}(ha:evS E p=some (.ptr id off))(hx:ev E x=some (.sc v))(hr:Xz h id off [v]=some h')
 (hw:Qk FT HK r (Qw d none E) h' K):Qk FT HK (⟨d,.st 1 p x,none⟩::r) E h K:=op_st rfl ha hx hr hw
theorem QG{u:Bool}{s:SV}{n:Int}(hx:evS E x=some s)(hl:Yv u s=some n)(hw:Qk FT HK r (Qw d (some (.sc (.int .i64 n))) E) h K):Qk FT HK (⟨d,.len u x,none⟩::r) E h K:=QkQ rfl hx hl hw
theorem Qd{f:FuncId}{args:List AO}{vs:List AV}{R:AV->Qa->Prop}(ha:evs E args=some vs)(hc:∃ v h',Cal FT HK f vs h v h'/\R v h')
 (hw:∀ v h',R v h'->Qk FT HK r (Qw d (some v) E) h' K):Qk FT HK (⟨d,.call f args,none⟩::r) E h K:=QiA rfl ha hc hw
theorem Xt{v:Option AV}{h':Qa}(hk:J8 k=false)(hs:Ql E h k=some (v,h'))(hw:Qk FT HK r (Qw d v E) h' K):Qk FT HK (⟨d,k,none⟩::r) E h K:=Xi rfl hk hs hw
theorem Qp{k0:Nat}{x0:AV}(h0:E.get k0=some x0)(hq:Q .nm [(k0,some x0)] h):Qk FT HK [] E h (fun E' h'=>Q .nm (E'.keep [k0]) h') :=
 Zx (Qo h0 (X0 _)) hq
theorem Qx{k0 k1:Nat}{x0 x1:AV}(h0:E.get k0=some x0)(h1:E.get k1=some x1)(hq:Q .nm [(k0,some x0),(k1,some x1)] h):Qk FT HK [] E h (fun E' h'=>Q .nm (E'.keep [k0,k1]) h') :=
 Zx (Qo h0 (Qo h1 (X0 _))) hq
theorem Qq{k0 k1 k2:Nat}{x0 x1 x2:AV}(h0:E.get k0=some x0)(h1:E.get k1=some x1)(h2:E.get k2=some x2)(hq:Q .nm [(k0,some x0),(k1,some x1),(k2,some x2)] h):Qk FT HK [] E h (fun E' h'=>Q .nm (E'.keep [k0,k1,k2]) h') :=
 Zx (Qo h0 (Qo h1 (Qo h2 (X0 _)))) hq
theorem QA{k0 k1 k2 k3:Nat}{x0 x1 x2 x3:AV}(h0:E.get k0=some x0)(h1:E.get k1=some x1)(h2:E.get k2=some x2)(h3:E.get k3=some x3)(hq:Q .nm [(k0,some x0),(k1,some x1),(k2,some x2),(k3,some x3)] h):Qk FT HK [] E h (fun E' h'=>Q .nm (E'.keep [k0,k1,k2,k3]) h') :=
 Zx (Qo h0 (Qo h1 (Qo h2 (Qo h3 (X0 _))))) hq
theorem QM{k0 k1 k2 k3 k4:Nat}{x0 x1 x2 x3 x4:AV}(h0:E.get k0=some x0)(h1:E.get k1=some x1)(h2:E.get k2=some x2)(h3:E.get k3=some x3)(h4:E.get k4=some x4)(hq:Q .nm [(k0,some x0),(k1,some x1),(k2,some x2),(k3,some x3),(k4,some x4)] h):Qk FT HK [] E h (fun E' h'=>Q .nm (E'.keep [k0,k1,k2,k3,k4]) h') :=
 Zx (Qo h0 (Qo h1 (Qo h2 (Qo h3 (Qo h4 (X0 _)))))) hq
theorem Q7{k0 k1 k2 k3 k4 k5:Nat}{x0 x1 x2 x3 x4 x5:AV}(h0:E.get k0=some x0)(h1:E.get k1=some x1)(h2:E.get k2=some x2)(h3:E.get k3=some x3)(h4:E.get k4=some x4)(h5:E.get k5=some x5)(hq:Q .nm [(k0,some x0),(k1,some x1),(k2,some x2),(k3,some x3),(k4,some x4),(k5,some x5)] h):Qk FT HK [] E h (fun E' h'=>Q .nm (E'.keep [k0,k1,k2,k3,k4,k5]) h') :=
 Zx (Qo h0 (Qo h1 (Qo h2 (Qo h3 (Qo h4 (Qo h5 (X0 _))))))) hq
theorem Xr{k0 k1 k2 k3 k4 k5 k6:Nat}{x0 x1 x2 x3 x4 x5 x6:AV}(h0:E.get k0=some x0)(h1:E.get k1=some x1)(h2:E.get k2=some x2)(h3:E.get k3=some x3)(h4:E.get k4=some x4)(h5:E.get k5=some x5)(h6:E.get k6=some x6)(hq:Q .nm [(k0,some x0),(k1,some x1),(k2,some x2),(k3,some x3),(k4,some x4),(k5,some x5),(k6,some x6)] h):Qk FT HK [] E h (fun E' h'=>Q .nm (E'.keep [k0,k1,k2,k3,k4,k5,k6]) h') :=
 Zx (Qo h0 (Qo h1 (Qo h2 (Qo h3 (Qo h4 (Qo h5 (Qo h6 (X0 _)))))))) hq
theorem Xh{k0 k1 k2 k3 k4 k5 k6 k7:Nat}{x0 x1 x2 x3 x4 x5 x6 x7:AV}(h0:E.get k0=some x0)(h1:E.get k1=some x1)(h2:E.get k2=some x2)(h3:E.get k3=some x3)(h4:E.get k4=some x4)(h5:E.get k5=some x5)(h6:E.get k6=some x6)(h7:E.get k7=some x7)(hq:Q .nm [(k0,some x0),(k1,some x1),(k2,some x2),(k3,some x3),(k4,some x4),(k5,some x5),(k6,some x6),(k7,some x7)] h):Qk FT HK [] E h (fun E' h'=>Q .nm (E'.keep [k0,k1,k2,k3,k4,k5,k6,k7]) h') :=
 Zx (Qo h0 (Qo h1 (Qo h2 (Qo h3 (Qo h4 (Qo h5 (Qo h6 (Qo h7 (X0 _))))))))) hq
theorem Xd{k0 k1 k2 k3 k4 k5 k6 k7 k8:Nat}{x0 x1 x2 x3 x4 x5 x6 x7 x8:AV}(h0:E.get k0=some x0)(h1:E.get k1=some x1)(h2:E.get k2=some x2)(h3:E.get k3=some x3)(h4:E.get k4=some x4)(h5:E.get k5=some x5)(h6:E.get k6=some x6)(h7:E.get k7=some x7)(h8:E.get k8=some x8)(hq:Q .nm [(k0,some x0),(k1,some x1),(k2,some x2),(k3,some x3),(k4,some x4),(k5,some x5),(k6,some x6),(k7,some x7),(k8,some x8)] h):Qk FT HK [] E h (fun E' h'=>Q .nm (E'.keep [k0,k1,k2,k3,k4,k5,k6,k7,k8]) h') :=
 Zx (Qo h0 (Qo h1 (Qo h2 (Qo h3 (Qo h4 (Qo h5 (Qo h6 (Qo h7 (Qo h8 (X0 _)))))))))) hq
theorem XO{k0 k1 k2 k3 k4 k5 k6 k7 k8 k9:Nat}{x0 x1 x2 x3 x4 x5 x6 x7 x8 x9:AV}(h0:E.get k0=some x0)(h1:E.get k1=some x1)(h2:E.get k2=some x2)(h3:E.get k3=some x3)(h4:E.get k4=some x4)(h5:E.get k5=some x5)(h6:E.get k6=some x6)(h7:E.get k7=some x7)(h8:E.get k8=some x8)(h9:E.get k9=some x9)(hq:Q .nm [(k0,some x0),(k1,some x1),(k2,some x2),(k3,some x3),(k4,some x4),(k5,some x5),(k6,some x6),(k7,some x7),(k8,some x8),(k9,some x9)] h):Qk FT HK [] E h (fun E' h'=>Q .nm (E'.keep [k0,k1,k2,k3,k4,k5,k6,k7,k8,k9]) h') :=
 Zx (Qo h0 (Qo h1 (Qo h2 (Qo h3 (Qo h4 (Qo h5 (Qo h6 (Qo h7 (Qo h8 (Qo h9 (X0 _))))))))))) hq
theorem qu{k0 k1 k2 k3 k4 k5 k6 k7 k8 k9 k10:Nat}{x0 x1 x2 x3 x4 x5 x6 x7 x8 x9 x10:AV}(h0:E.get k0=some x0)(h1:E.get k1=some x1)(h2:E.get k2=some x2)(h3:E.get k3=some x3)(h4:E.get k4=some x4)(h5:E.get k5=some x5)(h6:E.get k6=some x6)(h7:E.get k7=some x7)(h8:E.get k8=some x8)(h9:E.get k9=some x9)(h10:E.get k10=some x10)(hq:Q .nm [(k0,some x0),(k1,some x1),(k2,some x2),(k3,some x3),(k4,some x4),(k5,some x5),(k6,some x6),(k7,some x7),(k8,some x8),(k9,some x9),(k10,some x10)] h):Qk FT HK [] E h (fun E' h'=>Q .nm (E'.keep [k0,k1,k2,k3,k4,k5,k6,k7,k8,k9,k10]) h') :=
 Zx (Qo h0 (Qo h1 (Qo h2 (Qo h3 (Qo h4 (Qo h5 (Qo h6 (Qo h7 (Qo h8 (Qo h9 (Qo h10 (X0 _)))))))))))) hq
theorem yg{k0 k1 k2 k3 k4 k5 k6 k7 k8 k9 k10 k11:Nat}{x0 x1 x2 x3 x4 x5 x6 x7 x8 x9 x10 x11:AV}(h0:E.get k0=some x0)(h1:E.get k1=some x1)(h2:E.get k2=some x2)(h3:E.get k3=some x3)(h4:E.get k4=some x4)(h5:E.get k5=some x5)(h6:E.get k6=some x6)(h7:E.get k7=some x7)(h8:E.get k8=some x8)(h9:E.get k9=some x9)(h10:E.get k10=some x10)(h11:E.get k11=some x11)(hq:Q .nm [(k0,some x0),(k1,some x1),(k2,some x2),(k3,some x3),(k4,some x4),(k5,some x5),(k6,some x6),(k7,some x7),(k8,some x8),(k9,some x9),(k10,some x10),(k11,some x11)] h):Qk FT HK [] E h (fun E' h'=>Q .nm (E'.keep [k0,k1,k2,k3,k4,k5,k6,k7,k8,k9,k10,k11]) h') :=
 Zx (Qo h0 (Qo h1 (Qo h2 (Qo h3 (Qo h4 (Qo h5 (Qo h6 (Qo h7 (Qo h8 (Qo h9 (Qo h10 (Qo h11 (X0 _))))))))))))) hq
theorem Qdj{k0 k1 k2 k3 k4 k5 k6 k7 k8 k9 k10 k11 k12:Nat}{x0 x1 x2 x3 x4 x5 x6 x7 x8 x9 x10 x11 x12:AV}(h0:E.get k0=some x0)(h1:E.get k1=some x1)(h2:E.get k2=some x2)(h3:E.get k3=some x3)(h4:E.get k4=some x4)(h5:E.get k5=some x5)(h6:E.get k6=some x6)(h7:E.get k7=some x7)(h8:E.get k8=some x8)(h9:E.get k9=some x9)(h10:E.get k10=some x10)(h11:E.get k11=some x11)(h12:E.get k12=some x12)(hq:Q .nm [(k0,some x0),(k1,some x1),(k2,some x2),(k3,some x3),(k4,some x4),(k5,some x5),(k6,some x6),(k7,some x7),(k8,some x8),(k9,some x9),(k10,some x10),(k11,some x11),(k12,some x12)] h):Qk FT HK [] E h (fun E' h'=>Q .nm (E'.keep [k0,k1,k2,k3,k4,k5,k6,k7,k8,k9,k10,k11,k12]) h') :=
 Zx (Qo h0 (Qo h1 (Qo h2 (Qo h3 (Qo h4 (Qo h5 (Qo h6 (Qo h7 (Qo h8 (Qo h9 (Qo h10 (Qo h11 (Qo h12 (X0 _)))))))))))))) hq
theorem Uf{k0 k1 k2 k3 k4 k5 k6 k7 k8 k9 k10 k11 k12 k13:Nat}{x0 x1 x2 x3 x4 x5 x6 x7 x8 x9 x10 x11 x12 x13:AV}(h0:E.get k0=some x0)(h1:E.get k1=some x1)(h2:E.get k2=some x2)(h3:E.get k3=some x3)(h4:E.get k4=some x4)(h5:E.get k5=some x5)(h6:E.get k6=some x6)(h7:E.get k7=some x7)(h8:E.get k8=some x8)(h9:E.get k9=some x9)(h10:E.get k10=some x10)(h11:E.get k11=some x11)(h12:E.get k12=some x12)(h13:E.get k13=some x13)(hq:Q .nm [(k0,some x0),(k1,some x1),(k2,some x2),(k3,some x3),(k4,some x4),(k5,some x5),(k6,some x6),(k7,some x7),(k8,some x8),(k9,some x9),(k10,some x10),(k11,some x11),(k12,some x12),(k13,some x13)] h):Qk FT HK [] E h (fun E' h'=>Q .nm (E'.keep [k0,k1,k2,k3,k4,k5,k6,k7,k8,k9,k10,k11,k12,k13]) h') :=
 Zx (Qo h0 (Qo h1 (Qo h2 (Qo h3 (Qo h4 (Qo h5 (Qo h6 (Qo h7 (Qo h8 (Qo h9 (Qo h10 (Qo h11 (Qo h12 (Qo h13 (X0 _))))))))))))))) hq
theorem yf{k0 k1 k2 k3 k4 k5 k6 k7 k8 k9 k10 k11 k12 k13 k14:Nat}{x0 x1 x2 x3 x4 x5 x6 x7 x8 x9 x10 x11 x12 x13 x14:AV}(h0:E.get k0=some x0)(h1:E.get k1=some x1)(h2:E.get k2=some x2)(h3:E.get k3=some x3)(h4:E.get k4=some x4)(h5:E.get k5=some x5)(h6:E.get k6=some x6)(h7:E.get k7=some x7)(h8:E.get k8=some x8)(h9:E.get k9=some x9)(h10:E.get k10=some x10)(h11:E.get k11=some x11)(h12:E.get k12=some x12)(h13:E.get k13=some x13)(h14:E.get k14=some x14)(hq:Q .nm [(k0,some x0),(k1,some x1),(k2,some x2),(k3,some x3),(k4,some x4),(k5,some x5),(k6,some x6),(k7,some x7),(k8,some x8),(k9,some x9),(k10,some x10),(k11,some x11),(k12,some x12),(k13,some x13),(k14,some x14)] h):Qk FT HK [] E h (fun E' h'=>Q .nm (E'.keep [k0,k1,k2,k3,k4,k5,k6,k7,k8,k9,k10,k11,k12,k13,k14]) h') :=
 Zx (Qo h0 (Qo h1 (Qo h2 (Qo h3 (Qo h4 (Qo h5 (Qo h6 (Qo h7 (Qo h8 (Qo h9 (Qo h10 (Qo h11 (Qo h12 (Qo h13 (Qo h14 (X0 _)))))))))))))))) hq
theorem VZ{k0 k1 k2 k3 k4 k5 k6 k7 k8 k9 k10 k11 k12 k13 k14 k15:Nat}{x0 x1 x2 x3 x4 x5 x6 x7 x8 x9 x10 x11 x12 x13 x14 x15:AV}(h0:E.get k0=some x0)(h1:E.get k1=some x1)(h2:E.get k2=some x2)(h3:E.get k3=some x3)(h4:E.get k4=some x4)(h5:E.get k5=some x5)(h6:E.get k6=some x6)(h7:E.get k7=some x7)(h8:E.get k8=some x8)(h9:E.get k9=some x9)(h10:E.get k10=some x10)(h11:E.get k11=some x11)(h12:E.get k12=some x12)(h13:E.get k13=some x13)(h14:E.get k14=some x14)(h15:E.get k15=some x15)(hq:Q .nm [(k0,some x0),(k1,some x1),(k2,some x2),(k3,some x3),(k4,some x4),(k5,some x5),(k6,some x6),(k7,some x7),(k8,some x8),(k9,some x9),(k10,some x10),(k11,some x11),(k12,some x12),(k13,some x13),(k14,some x14),(k15,some x15)] h):Qk FT HK [] E h (fun E' h'=>Q .nm (E'.keep [k0,k1,k2,k3,k4,k5,k6,k7,k8,k9,k10,k11,k12,k13,k14,k15]) h') :=
 Zx (Qo h0 (Qo h1 (Qo h2 (Qo h3 (Qo h4 (Qo h5 (Qo h6 (Qo h7 (Qo h8 (Qo h9 (Qo h10 (Qo h11 (Qo h12 (Qo h13 (Qo h14 (Qo h15 (X0 _))))))))))))))))) hq
end
