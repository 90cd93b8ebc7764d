import Derived.Test.YtofknpknogfijaaGreatDoorAb23
import Derived.Lib.Builder
/- strings.Builder's check against copies,as a contract. -/
namespace Go.Ab
set_option linter.all false
variable [Base]
def ZR(T:Nat):Xq:=fun args h=>match args with
 | [.sc (.ptr id 0)] => match h[id]? with
   | some (.cells [.nilP,x] true z)=>if z=⟨0,some T⟩ then some (.tup [],h.set id (.cells [.ptr id 0,x] true z)) else none
   | some (.cells [.ptr j 0,x] true z)=>if z=⟨0,some T⟩/\j=id then some (.tup [],h) else none
   | _=>none
 | _=>none
theorem QfU{P:Program}{f:FuncId}{T:Nat}(hfn:Vt P f=true)
  (hu:∀(b:Nat) (w:World),w.cell? ⟨b,0,none⟩=some (.pointer (some ⟨b,0,none⟩))->Calls P f #[.pointer (some ⟨b,0,none⟩)] w fun e w'=>e = .returned (.tuple #[])/\w'=w)
  (hn:∀(b:Nat) (w:World),w.cell? ⟨b,0,none⟩=some (.pointer none)->w.shape? b=some (T,2)->w.frozen? ⟨b,0,none⟩=false ->
   Calls P f #[.pointer (some ⟨b,0,none⟩)] w fun e w'=>e = .returned (.tuple #[])/\w'=w.setCell ⟨b,0,none⟩ (.pointer (some ⟨b,0,none⟩))):HkOK P f (ZR T) where
 fn:=hfn
 len:=fun args h v h' hs=>by
  unfold ZR at hs
  split at hs
  ·split at hs
   ·split at hs
    ·simp at hs;rw[← hs.2];simp
    ·simp at hs
   ·split at hs
    ·simp at hs;rw[hs.2];exact Gd _
    ·simp at hs
   ·simp at hs
  ·simp at hs
 run:=fun args h v h' hs β w vs hvs R hf=>by
  unfold ZR at hs
  split at hs
  ·rename_i id
   cases hvs with
   | cons ha hr =>
    cases hr
    cases ha with
    | sc ha =>
     cases ha with
     | ptr hL hn' =>
      rename_i L
      split at hs
      ·rename_i x z hg
       split at hs
       ·rename_i hz
        subst hz
        simp at hs
        obtain⟨rfl,rfl⟩:=hs
        obtain⟨h1,ccs,e,fz,h2,h3,h4,h5,h6,h7,h8⟩:=(R.blk id L _ true _ hg hL).cell hn'
        obtain⟨hb0,hsz⟩:=h8.1 T rfl
        replace hsz:=hsz rfl
        have he:e=T:=h7 T rfl
        have hfz:=h6 rfl
        subst he hfz
        simp at hsz
        obtain⟨c0,k1,k2⟩:=h5 0 .nilP rfl
        cases k2
        rw[hb0]at k1
        have hc:w.cell? ⟨L.b,0,none⟩=some (.pointer none):=by rw[cell_of_row w L.b _ ccs e _ h2];exact k1
        have hfr:w.frozen? ⟨L.b,0,none⟩=false:=by simp[World.frozen?,h2]
        have hw:Xx h id 0 [.ptr id 0]=some (h.set id (.cells [.ptr id 0,x] true ⟨0,some e⟩)):=by
         simp[Xx,hg,Q8]
        obtain⟨w1,s1,s2,s3⟩:=Jt (P:=P) R hL hn' (vs:=[.ptr id 0]) (ws:=[.pointer (some ⟨L.b,L.base+0,none⟩)]) (.cons (.ptr hL hn') .nil) hw
        rw[hb0]at s1
        have hrun:(storeCells ⟨L.b,0+0,none⟩ [.pointer (some ⟨L.b,0+0,none⟩)]).run P w = .ok () (w.setCell ⟨L.b,0,none⟩ (.pointer (some ⟨L.b,0,none⟩))):=by
         have ha:(⟨L.b,0,none⟩:Addr).add 0=⟨L.b,0,none⟩:=rfl
         have hst:=run_store P w ⟨L.b,0,none⟩ (.pointer (some ⟨L.b,0,none⟩)) .plain rfl
         rw[hc]at hst
         simp only[hfr,Bool.false_eq_true,if_false]at hst
         simp[storeCells,ha,hst]
        rw[hrun]at s1
        simp only[Result.ok.injEq,true_and]at s1
        rw[hb0]
        refine(hn L.b w hc (by simp[World.shape?,h2];omega) hfr).mono ?_
        rintro e' w' ⟨rfl,rfl⟩
        rw[s1]
        exact⟨β,_,rfl,.tup .nil,s2,s3⟩
       ·simp at hs
      ·rename_i j x z hg
       split at hs
       ·rename_i hz
        obtain⟨rfl,rfl⟩:=hz
        simp at hs
        obtain⟨rfl,rfl⟩:=hs
        obtain⟨h1,ccs,e,fz,h2,h3,h4,h5,h6,h7,h8⟩:=(R.blk _ L _ true _ hg hL).cell hn'
        obtain⟨hb0,hsz⟩:=h8.1 T rfl
        obtain⟨c0,k1,k2⟩:=h5 0 _ rfl
        cases k2 with
        | ptr hM =>
         rw[hL]at hM
         simp at hM;subst hM
         rw[hb0]at k1
         have hc:w.cell? ⟨L.b,0,none⟩=some (.pointer (some ⟨L.b,0,none⟩)):=by rw[cell_of_row w L.b _ ccs e _ h2];exact k1
         rw[hb0]
         refine(hu L.b w hc).mono ?_
         rintro e' w' ⟨rfl,rfl⟩
         exact⟨β,_,rfl,.tup .nil,Stp.refl _ _ _,R⟩
       ·simp at hs
      ·simp at hs
  ·simp at hs
end Go.Ab
namespace Go.Ab
set_option linter.all false
section
variable {FT:zzA} {HK:zzH} {E:Env} {h:Qa} {K:Env->Qa->Prop} {d:Option Nat} {r:List AOp} {Q:Ex->Env->Qa->Prop} {a b:AC} {c:AO} {o:AOp} {x y i:AO} {k:AK}
theorem Qd(hw:Qm FT HK [] E h K):Qm FT HK [] E h K:=hw
theorem Qc(hw:Qm FT HK (o::r) E h K):Qm FT HK (o::r) E h K:=hw
theorem Qg(hw:wA FT HK (.cond c a b) E h Q):wA FT HK (.cond c a b) E h Q:=hw
theorem UD{t:Nat}{u:Bool}(hg:E.get t=some (.tup []))(hw:Qm FT HK r (Qv d (some (.tup [])) E) h K):Qm FT HK (⟨d,k,some (t,u)⟩::r) E h K :=
 Qd8 (by simp only[Yk,hg]) hw
theorem Xd{t:Nat}{u:Bool}(hg:E.get t=some (.sc (.bool !u)))(hw:Qm FT HK r (Qv d (some (.tup [])) E) h K):Qm FT HK (⟨d,k,some (t,u)⟩::r) E h K :=
 Qd8 (by simp only[Yk,hg];cases u <;> rfl) hw
theorem QP{t:Nat}{u:Bool}(hg:E.get t=some (.sc (.bool u)))(hw:Qm FT HK (⟨d,k,none⟩::r) E h K):Qm FT HK (⟨d,k,some (t,u)⟩::r) E h K:=by
 have h1:wOp FT HK ⟨d,k,none⟩ E h (fun E' h'=>Qm FT HK r E' h' K):=hw
 show wOp FT HK _ _ _ _
 unfold wOp at h1 ⊢
 have hw:Yk E (some (t,u))=some true:=by simp only[Yk,hg];cases u <;> rfl
 rw[hw]
 exact h1
theorem Ql{v:AV}(hx:ev E x=some v)(hw:Qm FT HK r (Qv d (some v) E) h K):Qm FT HK (⟨d,.mv x,none⟩::r) E h K :=
 Q2 rfl rfl (by simp only[Qo,hx];rfl) hw
theorem QR{p q:AO}{v:AV}(hc:evS E c=some (.bool true))(hx:ev E p=some v)(hw:Qm FT HK r (Qv d (some v) E) h K):Qm FT HK (⟨d,.pick c p q,none⟩::r) E h K :=
 Q2 rfl rfl (by simp only[Qo,hc,hx];rfl) hw
theorem QJ{p q:AO}{v:AV}(hc:evS E c=some (.bool false))(hx:ev E q=some v)(hw:Qm FT HK r (Qv d (some v) E) h K):Qm FT HK (⟨d,.pick c p q,none⟩::r) E h K :=
 Q2 rfl rfl (by simp only[Qo,hc,hx];rfl) hw
theorem QlR{u:Bool}(hx:evS E x=some (.bool u))(hw:Qm FT HK r (Qv d (some (.sc (.bool (!u)))) E) h K):Qm FT HK (⟨d,.un .not x,none⟩::r) E h K :=
 Q2 rfl rfl (by simp only[Qo,hx];rfl) hw
theorem XC(hx:evS E x=some (.bool true))(hw:Qm FT HK r (Qv d (some (.sc (.bool false))) E) h K):Qm FT HK (⟨d,.un .not x,none⟩::r) E h K:=QlR hx hw
theorem X1(hx:evS E x=some (.bool false))(hw:Qm FT HK r (Qv d (some (.sc (.bool true))) E) h K):Qm FT HK (⟨d,.un .not x,none⟩::r) E h K:=QlR hx hw
section arith
variable {m n:Int}
theorem QM(hx:evS E x=some (.int .i64 m))(hy:evS E y=some (.int .i64 n))(hr : -9223372036854775808<=m+n/\m+n<=9223372036854775807)(hw:Qm FT HK r (Qv d (some (.sc (.int .i64 (m+n)))) E) h K):Qm FT HK (⟨d,.bin .add x y,none⟩::r) E h K :=
 JA rfl rfl (by simp only[Qo,hx,hy];rfl) hr hw
theorem Jj(hx:evS E x=some (.int .i64 m))(hy:evS E y=some (.int .i64 n))(hr : -9223372036854775808<=m-n/\m-n<=9223372036854775807)(hw:Qm FT HK r (Qv d (some (.sc (.int .i64 (m-n)))) E) h K):Qm FT HK (⟨d,.bin .sub x y,none⟩::r) E h K :=
 JA rfl rfl (by simp only[Qo,hx,hy];rfl) hr hw
theorem JR(hx:evS E x=some (.int .i64 m))(hy:evS E y=some (.int .i64 n))(hr : -9223372036854775808<=m*n/\m*n<=9223372036854775807)(hw:Qm FT HK r (Qv d (some (.sc (.int .i64 (m*n)))) E) h K):Qm FT HK (⟨d,.bin .mul x y,none⟩::r) E h K :=
 JA rfl rfl (by simp only[Qo,hx,hy];rfl) hr hw
theorem Z1(hx:evS E x=some (.int .i64 m))(hr : -9223372036854775808 ≤ -m ∧ -m<=9223372036854775807)(hw:Qm FT HK r (Qv d (some (.sc (.int .i64 (-m)))) E) h K):Qm FT HK (⟨d,.un .neg x,none⟩::r) E h K :=
 JA rfl rfl (by simp only[Qo,hx];rw[show -m=0-m by omega];rfl) hr hw
theorem z8(hx:evS E x=some (.int .i64 m))(hy:evS E y=some (.int .i64 n))(hr:0<=m/\m<=9223372036854775807/\0<n)(hw:Qm FT HK r (Qv d (some (.sc (.int .i64 (m/n)))) E) h K):Qm FT HK (⟨d,.bin .quo x y,none⟩::r) E h K:=by
 have h1:m.tdiv n=m/n:=Int.tdiv_eq_ediv_of_nonneg hr.1
 have h2:0<=m/n:=Int.ediv_nonneg hr.1 (by omega)
 have h3:m/n<=m:=Int.ediv_le_self n hr.1
 refine JA (n:=m/n) rfl rfl ?_ (by omega) hw
 simp only[Qo,hx,hy,Gl,ZI,X3,qZ]
 rw[if_neg (by decide),if_pos trivial,if_neg (by omega),h1];rfl
theorem yK(hx:evS E x=some (.int .i64 m))(hy:evS E y=some (.int .i64 n))(hr:0<=m/\0<n)(hw:Qm FT HK r (Qv d (some (.sc (.int .i64 (m%n)))) E) h K):Qm FT HK (⟨d,.bin .rem x y,none⟩::r) E h K:=by
 have h1:m.tmod n=m%n:=Int.tmod_eq_emod_of_nonneg hr.1
 refine Q2 rfl rfl ?_ hw
 simp only[Qo,hx,hy,Gl,ZI,X3,qZ]
 rw[if_neg (by decide),if_pos trivial,if_neg (by omega),h1];rfl
theorem QnS(hx:evS E x=some (.int .i64 m))(hy:evS E y=some (.int .i64 n))(hr:n≠0)(hw:Qm FT HK r (Qv d (some (.sc (.int .i64 (m.tmod n)))) E) h K):Qm FT HK (⟨d,.bin .rem x y,none⟩::r) E h K:=by
 refine Q2 rfl rfl ?_ hw
 simp only[Qo,hx,hy,Gl,ZI,X3,qZ]
 rw[if_neg (by decide),if_pos trivial,if_neg hr];rfl
theorem Qae(hx:evS E x=some (.int .i64 m))(hy:evS E y=some (.int .i64 n))(hw:Qm FT HK r (Qv d (some (.sc (.int .i64 (max m n)))) E) h K):Qm FT HK (⟨d,.mm true x [y],none⟩::r) E h K:=by
 refine Q2 rfl rfl ?_ hw
 simp only[Qo,hx,Gl,Vw,hy,Gp,mmL,mm2,if_true]
 congr 4
 split <;> simp <;> omega
theorem Qch(hx:evS E x=some (.int .i64 m))(hy:evS E y=some (.int .i64 n))(hw:Qm FT HK r (Qv d (some (.sc (.int .i64 (min m n)))) E) h K):Qm FT HK (⟨d,.mm false x [y],none⟩::r) E h K:=by
 refine Q2 rfl rfl ?_ hw
 simp only[Qo,hx,Gl,Vw,hy,Gp,mmL,mm2,if_true]
 congr 4
 simp only[Bool.false_eq_true,if_false]
 split <;> simp <;> omega
theorem Qes{op:BinOp}{p:Prop}{ip:Decidable p}{kd:IntKind}(hx:evS E x=some (.int kd m))(hy:evS E y=some (.int kd n))(hs:qZ op kd m n=some (.bool (@decide p ip)))(ho:X3 op=false)
  (ht:p->Qm FT HK r (Qv d (some (.sc (.bool true))) E) h K) (hf:¬ p->Qm FT HK r (Qv d (some (.sc (.bool false))) E) h K):Qm FT HK (⟨d,.bin op x y,none⟩::r) E h K:=by
 have h1:Qo E h (.bin op x y)=some (some (.sc (.bool (@decide p ip))),h):=by
  simp only[Qo,hx,hy,Gl,ZI,ho,if_true,hs]
  rfl
 exact QaN rfl rfl h1 (fun hb=>ht (by simpa using hb)) (fun hb=>hf (by simpa using hb))
theorem Vm{kd:IntKind}(hx:evS E x=some (.int kd m))(hy:evS E y=some (.int kd n))(ht:m<n->Qm FT HK r (Qv d (some (.sc (.bool true))) E) h K)(hf:¬ m<n->Qm FT HK r (Qv d (some (.sc (.bool false))) E) h K):Qm FT HK (⟨d,.bin .lss x y,none⟩::r) E h K :=
 Qes hx hy rfl rfl ht hf
theorem Qx{kd:IntKind}(hx:evS E x=some (.int kd m))(hy:evS E y=some (.int kd n))(hp:m<n)(ht:Qm FT HK r (Qv d (some (.sc (.bool true))) E) h K):Qm FT HK (⟨d,.bin .lss x y,none⟩::r) E h K :=
 Vm hx hy (fun _=>ht) (fun hn=>absurd hp hn)
theorem QF{kd:IntKind}(hx:evS E x=some (.int kd m))(hy:evS E y=some (.int kd n))(hp:¬ m<n)(ht:Qm FT HK r (Qv d (some (.sc (.bool false))) E) h K):Qm FT HK (⟨d,.bin .lss x y,none⟩::r) E h K :=
 Vm hx hy (fun hn=>absurd hn hp) (fun _=>ht)
theorem Qci{kd:IntKind}(hx:evS E x=some (.int kd m))(hy:evS E y=some (.int kd n))(ht:m<=n->Qm FT HK r (Qv d (some (.sc (.bool true))) E) h K)(hf:¬ m<=n->Qm FT HK r (Qv d (some (.sc (.bool false))) E) h K):Qm FT HK (⟨d,.bin .leq x y,none⟩::r) E h K :=
 Qes hx hy rfl rfl ht hf
theorem J3{kd:IntKind}(hx:evS E x=some (.int kd m))(hy:evS E y=some (.int kd n))(hp:m<=n)(ht:Qm FT HK r (Qv d (some (.sc (.bool true))) E) h K):Qm FT HK (⟨d,.bin .leq x y,none⟩::r) E h K :=
 Qci hx hy (fun _=>ht) (fun hn=>absurd hp hn)
theorem JF{kd:IntKind}(hx:evS E x=some (.int kd m))(hy:evS E y=some (.int kd n))(hp:¬ m<=n)(ht:Qm FT HK r (Qv d (some (.sc (.bool false))) E) h K):Qm FT HK (⟨d,.bin .leq x y,none⟩::r) E h K :=
 Qci hx hy (fun hn=>absurd hn hp) (fun _=>ht)
theorem Vn{kd:IntKind}(hx:evS E x=some (.int kd m))(hy:evS E y=some (.int kd n))(ht:n<m->Qm FT HK r (Qv d (some (.sc (.bool true))) E) h K)(hf:¬ n<m->Qm FT HK r (Qv d (some (.sc (.bool false))) E) h K):Qm FT HK (⟨d,.bin .gtr x y,none⟩::r) E h K :=
 Qes hx hy rfl rfl ht hf
theorem XK{kd:IntKind}(hx:evS E x=some (.int kd m))(hy:evS E y=some (.int kd n))(hp:n<m)(ht:Qm FT HK r (Qv d (some (.sc (.bool true))) E) h K):Qm FT HK (⟨d,.bin .gtr x y,none⟩::r) E h K :=
 Vn hx hy (fun _=>ht) (fun hn=>absurd hp hn)
theorem XD{kd:IntKind}(hx:evS E x=some (.int kd m))(hy:evS E y=some (.int kd n))(hp:¬ n<m)(ht:Qm FT HK r (Qv d (some (.sc (.bool false))) E) h K):Qm FT HK (⟨d,.bin .gtr x y,none⟩::r) E h K :=
 Vn hx hy (fun hn=>absurd hn hp) (fun _=>ht)
theorem Qcj{kd:IntKind}(hx:evS E x=some (.int kd m))(hy:evS E y=some (.int kd n))(ht:n<=m->Qm FT HK r (Qv d (some (.sc (.bool true))) E) h K)(hf:¬ n<=m->Qm FT HK r (Qv d (some (.sc (.bool false))) E) h K):Qm FT HK (⟨d,.bin .geq x y,none⟩::r) E h K :=
 Qes hx hy rfl rfl ht hf
theorem Ye{kd:IntKind}(hx:evS E x=some (.int kd m))(hy:evS E y=some (.int kd n))(hp:n<=m)(ht:Qm FT HK r (Qv d (some (.sc (.bool true))) E) h K):Qm FT HK (⟨d,.bin .geq x y,none⟩::r) E h K :=
 Qcj hx hy (fun _=>ht) (fun hn=>absurd hp hn)
theorem X6{kd:IntKind}(hx:evS E x=some (.int kd m))(hy:evS E y=some (.int kd n))(hp:¬ n<=m)(ht:Qm FT HK r (Qv d (some (.sc (.bool false))) E) h K):Qm FT HK (⟨d,.bin .geq x y,none⟩::r) E h K :=
 Qcj hx hy (fun hn=>absurd hn hp) (fun _=>ht)
theorem Vo{kd:IntKind}(hx:evS E x=some (.int kd m))(hy:evS E y=some (.int kd n))(ht:m=n->Qm FT HK r (Qv d (some (.sc (.bool true))) E) h K)(hf:m≠n->Qm FT HK r (Qv d (some (.sc (.bool false))) E) h K):Qm FT HK (⟨d,.bin .eql x y,none⟩::r) E h K:=by
 have h1:Qo E h (.bin .eql x y)=some (some (.sc (.bool (m==n))),h):=by
  simp only[Qo,hx,hy,Gl,ZI,X3,if_true]
  rfl
 exact QaN rfl rfl h1 (fun hb=>ht (by simpa using hb)) (fun hb=>hf (by simpa using hb))
theorem Vl{kd:IntKind}(hx:evS E x=some (.int kd m))(hy:evS E y=some (.int kd n))(ht:m≠n->Qm FT HK r (Qv d (some (.sc (.bool true))) E) h K)(hf:m=n->Qm FT HK r (Qv d (some (.sc (.bool false))) E) h K):Qm FT HK (⟨d,.bin .neq x y,none⟩::r) E h K:=by
 have h1:Qo E h (.bin .neq x y)=some (some (.sc (.bool (m != n))),h):=by
  simp only[Qo,hx,hy,Gl,ZI,X3,if_true]
  rfl
 exact QaN rfl rfl h1 (fun hb=>ht (by simpa using hb)) (fun hb=>hf (by simpa using hb))
theorem Xu{kd:IntKind}(hx:evS E x=some (.int kd m))(hy:evS E y=some (.int kd n))(hp:m=n)(ht:Qm FT HK r (Qv d (some (.sc (.bool true))) E) h K):Qm FT HK (⟨d,.bin .eql x y,none⟩::r) E h K:=Vo hx hy (fun _=>ht) (fun hn=>absurd hp hn)
theorem Xl{kd:IntKind}(hx:evS E x=some (.int kd m))(hy:evS E y=some (.int kd n))(hp:m≠n)(ht:Qm FT HK r (Qv d (some (.sc (.bool false))) E) h K):Qm FT HK (⟨d,.bin .eql x y,none⟩::r) E h K:=Vo hx hy (fun hn=>absurd hn hp) (fun _=>ht)
theorem Ya{kd:IntKind}(hx:evS E x=some (.int kd m))(hy:evS E y=some (.int kd n))(hp:m≠n)(ht:Qm FT HK r (Qv d (some (.sc (.bool true))) E) h K):Qm FT HK (⟨d,.bin .neq x y,none⟩::r) E h K:=Vl hx hy (fun _=>ht) (fun hn=>absurd hn hp)
theorem XJ{kd:IntKind}(hx:evS E x=some (.int kd m))(hy:evS E y=some (.int kd n))(hp:m=n)(ht:Qm FT HK r (Qv d (some (.sc (.bool false))) E) h K):Qm FT HK (⟨d,.bin .neq x y,none⟩::r) E h K:=Vl hx hy (fun hn=>absurd hp hn) (fun _=>ht)
end arith
theorem Qy{esz id off n:Nat}{cp:Option Nat}{kd:IntKind}{j:Int}(hx:evS E x=some (.slc id off n cp))(hi:evS E i=some (.int kd j))(hb:0<=j/\j<n)
 (hw:Qm FT HK r (Qv d (some (.sc (.ptr id (off+j.toNat*esz)))) E) h K):Qm FT HK (⟨d,.idxA esz x i,none⟩::r) E h K:=Qky rfl hx hi hb hw
theorem Q1{id off:Nat}{v:SV}(hx:evS E x=some (.ptr id off))(hr:Q3 h id off 1=some [v])
 (hw:Qm FT HK r (Qv d (some (.sc v)) E) h K):Qm FT HK (⟨d,.ld 1 false x,none⟩::r) E h K:=QlH rfl hx hr hw
theorem Jk{id off:Nat}{v:SV}{h':Qa}{p:AO}(ha:evS E p=some (.ptr id off))(hx:ev E x=some (.sc v))(hr:Xx h id off [v]=some h')
 (hw:Qm FT HK r (Qv d none E) h' K):Qm FT HK (⟨d,.st 1 p x,none⟩::r) E h K:=QlG rfl ha hx hr hw
theorem Qr{u:Bool}{s:SV}{n:Int}(hx:evS E x=some s)(hl:Yh u s=some n)(hw:Qm FT HK r (Qv d (some (.sc (.int .i64 n))) E) h K):Qm FT HK (⟨d,.len u x,none⟩::r) E h K:=QnC rfl hx hl hw
theorem Qj{f:FuncId}{args:List AO}{vs:List AV}{R:AV->Qa->Prop}(ha:evs E args=some vs)(hc:∃ v h',Cal FT HK f vs h v h'/\R v h')
 (hw:∀ v h',R v h'->Qm FT HK r (Qv d (some v) E) h' K):Qm FT HK (⟨d,.call f args,none⟩::r) E h K:=Qkz rfl ha hc hw
theorem Xk{v:Option AV}{h':Qa}(hk:J6 k=false)(hs:Qo E h k=some (v,h'))(hw:Qm FT HK r (Qv d v E) h' K):Qm FT HK (⟨d,k,none⟩::r) E h K:=Q2 rfl hk hs hw
theorem Qau (hq:Q .nm [] h):Qm FT HK [] E h (fun E' h'=>Q .nm (E'.keep []) h') :=
 YB (Xv _) hq
theorem Qq{k0:Nat}{x0:AV}(h0:E.get k0=some x0)(hq:Q .nm [(k0,some x0)] h):Qm FT HK [] E h (fun E' h'=>Q .nm (E'.keep [k0]) h') :=
 YB (Qh h0 (Xv _)) hq
theorem QA{k0 k1:Nat}{x0 x1:AV}(h0:E.get k0=some x0)(h1:E.get k1=some x1)(hq:Q .nm [(k0,some x0),(k1,some x1)] h):Qm FT HK [] E h (fun E' h'=>Q .nm (E'.keep [k0,k1]) h') :=
 YB (Qh h0 (Qh h1 (Xv _))) hq
theorem Qu{k0 k1 k2:Nat}{x0 x1 x2:AV}(h0:E.get k0=some x0)(h1:E.get k1=some x1)(h2:E.get k2=some x2)(hq:Q .nm [(k0,some x0),(k1,some x1),(k2,some x2)] h):Qm FT HK [] E h (fun E' h'=>Q .nm (E'.keep [k0,k1,k2]) h') :=
 YB (Qh h0 (Qh h1 (Qh h2 (Xv _)))) hq
theorem QG{k0 k1 k2 k3:Nat}{x0 x1 x2 x3:AV}(h0:E.get k0=some x0)(h1:E.get k1=some x1)(h2:E.get k2=some x2)(h3:E.get k3=some x3)(hq:Q .nm [(k0,some x0),(k1,some x1),(k2,some x2),(k3,some x3)] h):Qm FT HK [] E h (fun E' h'=>Q .nm (E'.keep [k0,k1,k2,k3]) h') :=
 YB (Qh h0 (Qh h1 (Qh h2 (Qh h3 (Xv _))))) hq
theorem QO{k0 k1 k2 k3 k4:Nat}{x0 x1 x2 x3 x4:AV}(h0:E.get k0=some x0)(h1:E.get k1=some x1)(h2:E.get k2=some x2)(h3:E.get k3=some x3)(h4:E.get k4=some x4)(hq:Q .nm [(k0,some x0),(k1,some x1),(k2,some x2),(k3,some x3),(k4,some x4)] h):Qm FT HK [] E h (fun E' h'=>Q .nm (E'.keep [k0,k1,k2,k3,k4]) h') :=
 YB (Qh h0 (Qh h1 (Qh h2 (Qh h3 (Qh h4 (Xv _)))))) hq
theorem QE{k0 k1 k2 k3 k4 k5:Nat}{x0 x1 x2 x3 x4 x5:AV}(h0:E.get k0=some x0)(h1:E.get k1=some x1)(h2:E.get k2=some x2)(h3:E.get k3=some x3)(h4:E.get k4=some x4)(h5:E.get k5=some x5)(hq:Q .nm [(k0,some x0),(k1,some x1),(k2,some x2),(k3,some x3),(k4,some x4),(k5,some x5)] h):Qm FT HK [] E h (fun E' h'=>Q .nm (E'.keep [k0,k1,k2,k3,k4,k5]) h') :=
 YB (Qh h0 (Qh h1 (Qh h2 (Qh h3 (Qh h4 (Qh h5 (Xv _))))))) hq
theorem Q4{k0 k1 k2 k3 k4 k5 k6:Nat}{x0 x1 x2 x3 x4 x5 x6:AV}(h0:E.get k0=some x0)(h1:E.get k1=some x1)(h2:E.get k2=some x2)(h3:E.get k3=some x3)(h4:E.get k4=some x4)(h5:E.get k5=some x5)(h6:E.get k6=some x6)(hq:Q .nm [(k0,some x0),(k1,some x1),(k2,some x2),(k3,some x3),(k4,some x4),(k5,some x5),(k6,some x6)] h):Qm FT HK [] E h (fun E' h'=>Q .nm (E'.keep [k0,k1,k2,k3,k4,k5,k6]) h') :=
 YB (Qh h0 (Qh h1 (Qh h2 (Qh h3 (Qh h4 (Qh h5 (Qh h6 (Xv _)))))))) hq
theorem Xh{k0 k1 k2 k3 k4 k5 k6 k7:Nat}{x0 x1 x2 x3 x4 x5 x6 x7:AV}(h0:E.get k0=some x0)(h1:E.get k1=some x1)(h2:E.get k2=some x2)(h3:E.get k3=some x3)(h4:E.get k4=some x4)(h5:E.get k5=some x5)(h6:E.get k6=some x6)(h7:E.get k7=some x7)(hq:Q .nm [(k0,some x0),(k1,some x1),(k2,some x2),(k3,some x3),(k4,some x4),(k5,some x5),(k6,some x6),(k7,some x7)] h):Qm FT HK [] E h (fun E' h'=>Q .nm (E'.keep [k0,k1,k2,k3,k4,k5,k6,k7]) h') :=
 YB (Qh h0 (Qh h1 (Qh h2 (Qh h3 (Qh h4 (Qh h5 (Qh h6 (Qh h7 (Xv _))))))))) hq
theorem Q9{k0 k1 k2 k3 k4 k5 k6 k7 k8:Nat}{x0 x1 x2 x3 x4 x5 x6 x7 x8:AV}(h0:E.get k0=some x0)(h1:E.get k1=some x1)(h2:E.get k2=some x2)(h3:E.get k3=some x3)(h4:E.get k4=some x4)(h5:E.get k5=some x5)(h6:E.get k6=some x6)(h7:E.get k7=some x7)(h8:E.get k8=some x8)(hq:Q .nm [(k0,some x0),(k1,some x1),(k2,some x2),(k3,some x3),(k4,some x4),(k5,some x5),(k6,some x6),(k7,some x7),(k8,some x8)] h):Qm FT HK [] E h (fun E' h'=>Q .nm (E'.keep [k0,k1,k2,k3,k4,k5,k6,k7,k8]) h') :=
 YB (Qh h0 (Qh h1 (Qh h2 (Qh h3 (Qh h4 (Qh h5 (Qh h6 (Qh h7 (Qh h8 (Xv _)))))))))) hq
theorem XA{k0 k1 k2 k3 k4 k5 k6 k7 k8 k9:Nat}{x0 x1 x2 x3 x4 x5 x6 x7 x8 x9:AV}(h0:E.get k0=some x0)(h1:E.get k1=some x1)(h2:E.get k2=some x2)(h3:E.get k3=some x3)(h4:E.get k4=some x4)(h5:E.get k5=some x5)(h6:E.get k6=some x6)(h7:E.get k7=some x7)(h8:E.get k8=some x8)(h9:E.get k9=some x9)(hq:Q .nm [(k0,some x0),(k1,some x1),(k2,some x2),(k3,some x3),(k4,some x4),(k5,some x5),(k6,some x6),(k7,some x7),(k8,some x8),(k9,some x9)] h):Qm FT HK [] E h (fun E' h'=>Q .nm (E'.keep [k0,k1,k2,k3,k4,k5,k6,k7,k8,k9]) h') :=
 YB (Qh h0 (Qh h1 (Qh h2 (Qh h3 (Qh h4 (Qh h5 (Qh h6 (Qh h7 (Qh h8 (Qh h9 (Xv _))))))))))) hq
theorem Yr{k0 k1 k2 k3 k4 k5 k6 k7 k8 k9 k10:Nat}{x0 x1 x2 x3 x4 x5 x6 x7 x8 x9 x10:AV}(h0:E.get k0=some x0)(h1:E.get k1=some x1)(h2:E.get k2=some x2)(h3:E.get k3=some x3)(h4:E.get k4=some x4)(h5:E.get k5=some x5)(h6:E.get k6=some x6)(h7:E.get k7=some x7)(h8:E.get k8=some x8)(h9:E.get k9=some x9)(h10:E.get k10=some x10)(hq:Q .nm [(k0,some x0),(k1,some x1),(k2,some x2),(k3,some x3),(k4,some x4),(k5,some x5),(k6,some x6),(k7,some x7),(k8,some x8),(k9,some x9),(k10,some x10)] h):Qm FT HK [] E h (fun E' h'=>Q .nm (E'.keep [k0,k1,k2,k3,k4,k5,k6,k7,k8,k9,k10]) h') :=
 YB (Qh h0 (Qh h1 (Qh h2 (Qh h3 (Qh h4 (Qh h5 (Qh h6 (Qh h7 (Qh h8 (Qh h9 (Qh h10 (Xv _)))))))))))) hq
theorem X0{k0 k1 k2 k3 k4 k5 k6 k7 k8 k9 k10 k11:Nat}{x0 x1 x2 x3 x4 x5 x6 x7 x8 x9 x10 x11:AV}(h0:E.get k0=some x0)(h1:E.get k1=some x1)(h2:E.get k2=some x2)(h3:E.get k3=some x3)(h4:E.get k4=some x4)(h5:E.get k5=some x5)(h6:E.get k6=some x6)(h7:E.get k7=some x7)(h8:E.get k8=some x8)(h9:E.get k9=some x9)(h10:E.get k10=some x10)(h11:E.get k11=some x11)(hq:Q .nm [(k0,some x0),(k1,some x1),(k2,some x2),(k3,some x3),(k4,some x4),(k5,some x5),(k6,some x6),(k7,some x7),(k8,some x8),(k9,some x9),(k10,some x10),(k11,some x11)] h):Qm FT HK [] E h (fun E' h'=>Q .nm (E'.keep [k0,k1,k2,k3,k4,k5,k6,k7,k8,k9,k10,k11]) h') :=
 YB (Qh h0 (Qh h1 (Qh h2 (Qh h3 (Qh h4 (Qh h5 (Qh h6 (Qh h7 (Qh h8 (Qh h9 (Qh h10 (Qh h11 (Xv _))))))))))))) hq
theorem Y5{k0 k1 k2 k3 k4 k5 k6 k7 k8 k9 k10 k11 k12:Nat}{x0 x1 x2 x3 x4 x5 x6 x7 x8 x9 x10 x11 x12:AV}(h0:E.get k0=some x0)(h1:E.get k1=some x1)(h2:E.get k2=some x2)(h3:E.get k3=some x3)(h4:E.get k4=some x4)(h5:E.get k5=some x5)(h6:E.get k6=some x6)(h7:E.get k7=some x7)(h8:E.get k8=some x8)(h9:E.get k9=some x9)(h10:E.get k10=some x10)(h11:E.get k11=some x11)(h12:E.get k12=some x12)(hq:Q .nm [(k0,some x0),(k1,some x1),(k2,some x2),(k3,some x3),(k4,some x4),(k5,some x5),(k6,some x6),(k7,some x7),(k8,some x8),(k9,some x9),(k10,some x10),(k11,some x11),(k12,some x12)] h):Qm FT HK [] E h (fun E' h'=>Q .nm (E'.keep [k0,k1,k2,k3,k4,k5,k6,k7,k8,k9,k10,k11,k12]) h') :=
 YB (Qh h0 (Qh h1 (Qh h2 (Qh h3 (Qh h4 (Qh h5 (Qh h6 (Qh h7 (Qh h8 (Qh h9 (Qh h10 (Qh h11 (Qh h12 (Xv _)))))))))))))) hq
theorem qf{k0 k1 k2 k3 k4 k5 k6 k7 k8 k9 k10 k11 k12 k13:Nat}{x0 x1 x2 x3 x4 x5 x6 x7 x8 x9 x10 x11 x12 x13:AV}(h0:E.get k0=some x0)(h1:E.get k1=some x1)(h2:E.get k2=some x2)(h3:E.get k3=some x3)(h4:E.get k4=some x4)(h5:E.get k5=some x5)(h6:E.get k6=some x6)(h7:E.get k7=some x7)(h8:E.get k8=some x8)(h9:E.get k9=some x9)(h10:E.get k10=some x10)(h11:E.get k11=some x11)(h12:E.get k12=some x12)(h13:E.get k13=some x13)(hq:Q .nm [(k0,some x0),(k1,some x1),(k2,some x2),(k3,some x3),(k4,some x4),(k5,some x5),(k6,some x6),(k7,some x7),(k8,some x8),(k9,some x9),(k10,some x10),(k11,some x11),(k12,some x12),(k13,some x13)] h):Qm FT HK [] E h (fun E' h'=>Q .nm (E'.keep [k0,k1,k2,k3,k4,k5,k6,k7,k8,k9,k10,k11,k12,k13]) h') :=
 YB (Qh h0 (Qh h1 (Qh h2 (Qh h3 (Qh h4 (Qh h5 (Qh h6 (Qh h7 (Qh h8 (Qh h9 (Qh h10 (Qh h11 (Qh h12 (Qh h13 (Xv _))))))))))))))) hq
theorem Jr{k0 k1 k2 k3 k4 k5 k6 k7 k8 k9 k10 k11 k12 k13 k14:Nat}{x0 x1 x2 x3 x4 x5 x6 x7 x8 x9 x10 x11 x12 x13 x14:AV}(h0:E.get k0=some x0)(h1:E.get k1=some x1)(h2:E.get k2=some x2)(h3:E.get k3=some x3)(h4:E.get k4=some x4)(h5:E.get k5=some x5)(h6:E.get k6=some x6)(h7:E.get k7=some x7)(h8:E.get k8=some x8)(h9:E.get k9=some x9)(h10:E.get k10=some x10)(h11:E.get k11=some x11)(h12:E.get k12=some x12)(h13:E.get k13=some x13)(h14:E.get k14=some x14)(hq:Q .nm [(k0,some x0),(k1,some x1),(k2,some x2),(k3,some x3),(k4,some x4),(k5,some x5),(k6,some x6),(k7,some x7),(k8,some x8),(k9,some x9),(k10,some x10),(k11,some x11),(k12,some x12),(k13,some x13),(k14,some x14)] h):Qm FT HK [] E h (fun E' h'=>Q .nm (E'.keep [k0,k1,k2,k3,k4,k5,k6,k7,k8,k9,k10,k11,k12,k13,k14]) h') :=
 YB (Qh h0 (Qh h1 (Qh h2 (Qh h3 (Qh h4 (Qh h5 (Qh h6 (Qh h7 (Qh h8 (Qh h9 (Qh h10 (Qh h11 (Qh h12 (Qh h13 (Qh h14 (Xv _)))))))))))))))) hq
theorem ZC{k0 k1 k2 k3 k4 k5 k6 k7 k8 k9 k10 k11 k12 k13 k14 k15:Nat}{x0 x1 x2 x3 x4 x5 x6 x7 x8 x9 x10 x11 x12 x13 x14 x15:AV}(h0:E.get k0=some x0)(h1:E.get k1=some x1)(h2:E.get k2=some x2)(h3:E.get k3=some x3)(h4:E.get k4=some x4)(h5:E.get k5=some x5)(h6:E.get k6=some x6)(h7:E.get k7=some x7)(h8:E.get k8=some x8)(h9:E.get k9=some x9)(h10:E.get k10=some x10)(h11:E.get k11=some x11)(h12:E.get k12=some x12)(h13:E.get k13=some x13)(h14:E.get k14=some x14)(h15:E.get k15=some x15)(hq:Q .nm [(k0,some x0),(k1,some x1),(k2,some x2),(k3,some x3),(k4,some x4),(k5,some x5),(k6,some x6),(k7,some x7),(k8,some x8),(k9,some x9),(k10,some x10),(k11,some x11),(k12,some x12),(k13,some x13),(k14,some x14),(k15,some x15)] h):Qm FT HK [] E h (fun E' h'=>Q .nm (E'.keep [k0,k1,k2,k3,k4,k5,k6,k7,k8,k9,k10,k11,k12,k13,k14,k15]) h') :=
 YB (Qh h0 (Qh h1 (Qh h2 (Qh h3 (Qh h4 (Qh h5 (Qh h6 (Qh h7 (Qh h8 (Qh h9 (Qh h10 (Qh h11 (Qh h12 (Qh h13 (Qh h14 (Qh h15 (Xv _))))))))))))))))) hq
end
