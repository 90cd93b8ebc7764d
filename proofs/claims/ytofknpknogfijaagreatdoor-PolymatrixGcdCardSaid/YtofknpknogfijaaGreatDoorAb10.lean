import Derived.Laws.BytesString
import Derived.Test.YtofknpknogfijaaGreatDoorAb8
import Derived.MapKept
import Derived.Lib.UnsafeStr
import Derived.Lib.ConvBytes
import Derived.Laws.AppendOwn
import Derived.Orders
/- append. -/
namespace Go.Ab
set_option linter.all false
variable [Base]
variable {P:Program} {β:Bt} {E:Env} {h:Qa} {w:World} {a:Act}
theorem QhW{esz m:Nat}{vs:List SV}{x:SV}{q:Value}(R:Rep β h w)(hx:SRel β x q)(hs:XZ h esz x=some (m,vs)) :
  ∃ ws:List Value,F2 (SRel β) vs ws/\ws.length=m*esz/\∀ w':World,w'.heap=w.heap->(Builtin.lenOf q).run P w' = .ok m w'/\(Builtin.firstCells esz m q).run P w' = .ok ws.toArray w':=by
 unfold XZ at hs
 split at hs
 ·simp at hs
  obtain⟨rfl,rfl⟩:=hs
  cases hx
  exact⟨[],.nil,by simp,fun w' _=>⟨by simp[Builtin.lenOf],by simp[Builtin.firstCells]⟩⟩
 ·rename_i id off n cap
  split at hs
  ·rename_i hn0
   subst hn0
   simp at hs
   obtain⟨rfl,rfl⟩:=hs
   cases hx
   exact⟨[],.nil,by simp,fun w' _=>⟨by simp[Builtin.lenOf],by simp[Builtin.firstCells,loadCells,loadCellsFrom]⟩⟩
  simp only[Ga,Prod.mk.injEq]at hs
  obtain⟨us,hus,rfl,rfl⟩:=hs
  cases hx with
  | slc hL hc hl ho hb hn' =>
   rename_i L c ad
   obtain⟨ws,e1,e2,e3⟩:=Ju R hL hn' hus
   refine⟨ws,e1,e2,fun w' hw'=>⟨by simp[Builtin.lenOf],?_⟩⟩
   by_cases h0:n=0
   ·subst h0
    have:ws=[]:=by simpa using e2
    subst this
    simp[Builtin.firstCells,loadCells,loadCellsFrom]
   ·have:=ho (by omega)
    subst this
    simp only[Builtin.firstCells]
    have hrun:=YZ (P:=P) (w:=w') (b:=L.b) (o:=L.base+off) (ws:=ws) fun j v hj=>by
     have:=e3 j v hj
     rw[← this]
     simp[World.cell?,hw']
    rw[e2]at hrun
    exact hrun
 ·rename_i s
  split at hs
  ·rename_i he
   subst he
   simp at hs
   obtain⟨rfl,rfl⟩:=hs
   cases hx
   refine⟨s.data.toList.map fun b=>Value.int .u8 b.toNat,?_,by simp,fun w' _=>⟨by simp[Builtin.lenOf],?_⟩⟩
   ·refine F2.of_get (by simp) fun i x y hx hy=>?_
    simp at hx hy
    obtain⟨b,hb,rfl⟩:=hx
    rw[hb]at hy
    simp at hy
    subst hy
    exact .int _ _
   ·simp only[Builtin.firstCells,Sem.run_pure]
    congr 1
    apply Array.ext'
    have:(s.extract 0 s.size).data=s.data:=by simp[ByteArray.extract_zero_size]
    simp
  ·simp at hs
 ·simp at hs
section
variable {t u ty e:TypeId} {bytes:Nat} {ti:TypeInfo} {z:Value} {q:Value} {m:Nat} {ws:List Value} {d:TypeDesc}
theorem Ux(hu:P.underlying t=some (.slice e))(hd:P.underlying u=some d)(hnz:∀ k,d ≠ .int k)(hi:P.info? e=some ti)
  (hq1:(Builtin.lenOf q).run P w = .ok m w) (hq2:(Builtin.firstCells ti.size m q).run P w = .ok ws.toArray w) {base:Option Addr} {n c:Nat} (hfit:n+m<=c)
  {w':World} (hst:∀ b,base=some b->(storeCells (b.add (n*ti.size)) ws).run P w = .ok () w') (hno:base=none->w'=w) :
  (Builtin.append_ #[t,u] ty #[.slice base n c,q]).run P w = .ok (.slice base (n+m) c) w':=by
 have hz:(match d with | .int _=>true|_=>false)=false:=by
  cases d <;> first|rfl|exact absurd rfl (hnz _)
 cases base with
 | none =>
  have:=hno rfl
  subst this
  simp[Builtin.append_,Q4 hu,Q4 hd,sizeOf,typeInfo,hi,hq1,hq2,hfit]
 | some b =>
  have:=hst b rfl
  simp[Builtin.append_,Q4 hu,Q4 hd,sizeOf,typeInfo,hi,hq1,hq2,hfit,this]
theorem Qcg(hu:P.underlying t=some (.slice e))(hd:P.underlying u=some d)(hnz:∀ k,d ≠ .int k)(hi:P.info? e=some ti)(hz:ti.zero=some z)
  (hq:∀ w':World,w'.heap=w.heap->(Builtin.lenOf q).run P w' = .ok m w'/\(Builtin.firstCells ti.size m q).run P w' = .ok ws.toArray w') {base:Option Addr} {n c:Nat} (hg:c<n+m)
  {os:List Value} (ho:∀ w':World,w'.heap=w.heap->(Builtin.firstCells ti.size n (.slice base n c)).run P w' = .ok os.toArray w')
  (hb:(n+m)*(ti.bytes+1)<=Yh) :
  (Builtin.append_ #[t,u] ty #[.slice base n c,q]).run P w =
   .ok (.slice (some ⟨w.heap.size,0,none⟩) (n+m) (grownCap w (n+m) c e)) (w.drew.alloc (.cells (os.toArray++ws.toArray++Builtin.zeroCells z.cells (grownCap w (n+m) c e-(n+m))) e)):=by
 have hz':(match d with | .int _=>true|_=>false)=false:=by
  cases d <;> first|rfl|exact absurd rfl (hnz _)
 have hbig:Yh=1099511627776:=rfl
 rw[Nat.mul_add,Hd,hbig]at hb
 have hn:¬(n+m<=c):=by omega
 have h63:¬(9223372036854775807<((n:Int)+(m:Int))):=by omega
 have h48:¬(281474976710656<Builtin.nextslicecap (n+m) c*ti.bytes):=by
  have:=growslice_fits (need:=n+m) (old:=c) (bytes:=ti.bytes) hg (by omega)
  omega
 have q1:=(hq w rfl).1
 have q2:=(hq w.drew rfl).2
 have q3:=ho w.drew rfl
 simp[Builtin.append_,Q4 hu,Q4 hd,sizeOf,typeInfo,zeroValue,hi,hz,hn,h63,h48,Question.forced,q1,q2,q3,newRow,grownCap]
 congr 2
 apply Array.ext'
 simp
end
theorem Vj(w:World)(o:Obj):w.drew.alloc o={ w.alloc o with drawn:=w.drawn+1 }:=rfl
theorem QbR{cs vs:List SV}{os ws:List Value}{esz:ESz}{n m:Nat}{zero:List SV}{z:Value}(R:Rep β h w)(hf:β h.length=none)(e:TypeId)(hty:QhB esz e)(hlow:esz.n<1000000)(hnt:esz.n≠0)(cap:Nat)
  (ho:F2 (SRel β) cs os) (hv:F2 (SRel β) vs ws) (hol:os.length=n*esz.n) (hwl:ws.length=m*esz.n) (hz:F2 (SRel β) zero z.cells.toList) (hzl:zero.length=esz.n) (hcap:n+m<=cap) :
  ∃ L:Loc,L.b=w.heap.size/\L.base=0/\L.esz=esz/\cap*L.esz.n<=L.sz ∧
   Stp β h w (upd β h.length L) (h++[.cells (cs++vs) true esz]) (w.drew.alloc (.cells (os.toArray++ws.toArray++Builtin.zeroCells z.cells (cap-(n+m))) e)) ∧
   Rep (upd β h.length L) (h++[.cells (cs++vs) true esz]) (w.drew.alloc (.cells (os.toArray++ws.toArray++Builtin.zeroCells z.cells (cap-(n+m))) e)):=by
 have hzs:z.cells.size=esz.n:=by have:=hz.length;simp at this;omega
 have hsz:(os.toArray++ws.toArray++Builtin.zeroCells z.cells (cap-(n+m))).size=cap*esz.n:=by
  simp[size_zeroCells,hol,hwl,hzs,← GZ]
  congr 1
  omega
 have hl:=ho.length
 have hl2:=hv.length
 have hfit:(n+m)*esz.n<=cap*esz.n:=Gz _ hcap
 obtain⟨q1,q2⟩:=JM R hf (os.toArray++ws.toArray++Builtin.zeroCells z.cells (cap-(n+m))) e (cs++vs) esz hty hlow (fun h0=>absurd h0 hnt)
  (by rw[hsz];simp;rw[GZ]at hfit;omega) (fun i v hi=>by
   obtain⟨c,k1,k2⟩:=(ho.append hv).get hi
   refine⟨c,?_,k2⟩
   have hlt:i<(os++ws).length:=(Gb.1 k1).1
   rw[Array.getElem?_append_left (by simpa using hlt)]
   rw[← k1]
   simp)
 refine⟨⟨w.heap.size,0,(os.toArray++ws.toArray++Builtin.zeroCells z.cells (cap-(n+m))).size,esz⟩,rfl,rfl,rfl,Nat.le_of_eq hsz.symm,?_,?_⟩
 ·rw[Vj]
  exact⟨q1.ext,q1.dom,q1.full,q1.len,q1.own,q1.new,q1.frame,q1.size,q1.os,q1.tape,q1.output⟩
 ·rw[Vj];exact q2.drawn _
theorem s_app{esz:ESz}{bytes:Nat}{zero:List SV}{x y:AO}{o:Oper}{v:Option AV}{h':Qa}(hok:Xe P (.app esz bytes zero x y) o.op=true)(hE:ERel β E a.tmps)(R:Rep β h w)(hf:fresh β h h')
  (hs:Ql E h (.app esz bytes zero x y)=some (v,h')):X4 β h w ((execOp a.eval o).run P w) v h':=by
 cases hop:o.op <;> rw[hop]at hok <;> simp only[Xe,Bool.false_eq_true]at hok
 rename_i c
 obtain⟨callee,args,argTypes⟩:=c
 split at hok
 case h_2=>simp at hok
 rename_i x' y' t u hc ha ht
 simp only at hc ha ht
 have ha':args=#[x',y']:=by rw[← GS (xs:=args),ha]
 have ht':argTypes=#[t,u]:=by rw[← GS (xs:=argTypes),ht]
 subst hc ha' ht'
 simp only[Bool.and_eq_true,Bool.not_eq_true']at hok
 obtain⟨⟨⟨⟨⟨k1,k2⟩,k3⟩,k4⟩,k0⟩,k5⟩:=hok
 obtain⟨e,hu,hg⟩:=YA k5
 simp at hg
 obtain⟨⟨⟨⟨hsz,hby⟩,hzero⟩,hze⟩,hty⟩:=hg
 have hty':=V5 hty
 have hnt:=QgQ k0
 have hpos:=zh k0
 have hlow:=zj k0
 obtain⟨en,ety⟩:=esz
 simp only at hsz hze hs hty' hnt hpos hlow
 subst hze
 obtain⟨ti,z,hi,hz,hcz⟩:=Y3 hzero
 have hzr:=Yb (β:=β) hcz
 have hs1:ti.size=zero.length:=by simpa [Y8,hi]using hsz
 have hs2:ti.bytes=bytes:=by simpa [Qjd,hi]using hby
 subst hs2
 obtain⟨d,hd⟩:=Option.isSome_iff_exists.1 k3
 have hnz:∀ k,d ≠ .int k:=fun k hk=>by subst hk;simp[QbM,hd]at k4
 simp only[Ql,Gd,Ga,Prod.mk.injEq]at hs
 obtain⟨s,hps,t',hpt,⟨m,vs⟩,hsrc,⟨s',h1⟩,happ,rfl,rfl⟩:=hs
 have r1:=QN k1 hE hps
 have r2:=QN k2 hE hpt
 obtain⟨ws,w1,w2,w3⟩:=QhW (P:=P) R r2 hsrc
 have hvl:=w1.length
 have key:∀ {c w'},(Builtin.append_ #[t,u] o.type #[a.eval x',a.eval y']).run P w = .ok c w'->(execOp a.eval o).run P w = .ok (.value c) w':=by
  intro c w' hr
  simp[execOp,hop,resolve,invoke,builtin,hr]
 generalize hpv:a.eval x'=pv at r1 key
 rw[← hs1]at w2 w3
 have hF0:∀ w':World,w'.heap=w.heap->(Builtin.firstCells ti.size 0 (.slice none 0 0)).run P w' = .ok ([]:List Value).toArray w':=fun w' _=>by simp[Builtin.firstCells]
 unfold ZG at happ
 split at happ
 ·split at happ
  ·rename_i hm0
   subst hm0
   simp at happ
   obtain⟨rfl,rfl⟩:=happ
   cases r1
   exact QI R (key (Ux hu hd hnz hi (w3 w rfl).1 (w3 w rfl).2 (base:=none) (n:=0) (c:=0) (by simp) (w':=w) (by simp) (fun _=>rfl))) (.sc .nilS)
  ·rename_i hm0
   split at happ
   ·rename_i hb
    simp at happ
    obtain⟨rfl,rfl⟩:=happ
    cases r1
    have hg:=Qcg (ty:=o.type) hu hd hnz hi hz w3 (base:=none) (n:=0) (c:=0) (by omega) hF0 (by simpa using hb)
    obtain⟨L,l1,l2,l3,l4,q1,q2⟩:=QbR (n:=0) (m:=m) R hf.one e hty' hlow hnt (grownCap w (0+m) 0 e) .nil w1 (by simp) (by rw[w2,hs1]) hzr rfl (grownCap_ge w (0+m) 0 e)
    simp only[List.nil_append,Hc]at q1 q2 l4 hg
    have hge:=grownCap_ge w m 0 e
    refine⟨_,_,q1,q2,_,key hg,.sc ?_⟩
    exact Ui l1 l2 hge (fun k hk=>by simp at hk) (by rw[l3];exact⟨hpos,hlow⟩) l4
   ·simp at happ
 ·rename_i id off n cap
  split at happ
  ·rename_i hm0
   subst hm0
   simp at happ
   obtain⟨rfl,rfl⟩:=happ
   have hws:ws=[]:=by simpa using w2
   subst hws
   cases r1 with
   | slc hL hc hl ho hb hn' =>
    exact QI R (key (Ux hu hd hnz hi (w3 w rfl).1 (w3 w rfl).2 (by omega) (w':=w) (fun b _=>by simp[storeCells]) (fun _=>rfl))) (.sc (.slc hL hc hl ho hb hn'))
  ·rename_i hm0
   split at happ
   case isFalse=>simp at happ
   rename_i hbig
   split at happ
   case h_2=>simp at happ
   rename_i cs rw esz hg
   split at happ
   case isFalse=>simp at happ
   rename_i he
   subst he
   split at happ
   case h_2=>simp at happ
   rename_i old hcut
   cases r1 with
   | slc hL hc hl ho hb hn' =>
    rename_i L c ad
    have hB:=(R.blk id L cs rw ⟨zero.length,ety⟩ hg hL).cell hn'
    obtain⟨ws0,o1,o2,o3⟩:=Ju R hL hn' (show Q9 h id off (n*zero.length)=some old by simp[Q9,hg,hcut])
    obtain⟨cu1,cu2,cu3⟩:=qe hcut
    have hold:∀ w':World,w'.heap=w.heap->(Builtin.firstCells ti.size n (.slice (some ad) n c)).run P w' = .ok ws0.toArray w':=by
     intro w' hw'
     by_cases h0:n=0
     ·subst h0
      have:ws0=[]:=by simpa using o2
      subst this
      simp[Builtin.firstCells,loadCells,loadCellsFrom]
     ·have:=ho (by omega)
      subst this
      simp only[Builtin.firstCells]
      have hrun:=YZ (P:=P) (w:=w') (b:=L.b) (o:=L.base+off) (ws:=ws0) fun j v hj=>by
       have:=o3 j v hj
       rw[← this]
       simp[World.cell?,hw']
      rw[o2]at hrun
      rw[hs1]
      exact hrun
    have grows:c<n+m->β h.length=none->∀ {h1:Qa},Rep β h1 w->Stp β h w β h1 w->h1.length=h.length ->
      X4 β h w ((execOp a.eval o).run P w) (some (.sc (.slc h.length 0 (n+m) none))) (h1++[.cells (old++vs) true ⟨zero.length,ety⟩]):=by
     intro hlt hfr0 h1 R1 S1 hlen
     have hgr:=Qcg (ty:=o.type) hu hd hnz hi hz w3 hlt hold hbig
     have hfr:β h1.length=none:=by rw[hlen];exact hfr0
     obtain⟨M,l1,l2,l3,l4,q1,q2⟩:=QbR (n:=n) (m:=m) R1 hfr e hty' hlow hnt (grownCap w (n+m) c e) o1 w1 o2 (by rw[w2,hs1]) hzr rfl (grownCap_ge w (n+m) c e)
     refine⟨_,_,S1.trans q1,q2,_,key hgr,.sc ?_⟩
     rw[← hlen]
     exact Ui l1 l2 (grownCap_ge w (n+m) c e) (fun k hk=>by simp at hk) (by rw[l3];exact⟨hpos,hlow⟩) l4
    split at happ
    ·rename_i k
     have hck:=hc k rfl
     subst hck
     split at happ
     ·rename_i hlt
      simp at happ
      obtain⟨rfl,rfl⟩:=happ
      exact grows hlt hf.one R (Stp.refl _ _ _) rfl
     ·rename_i hlt
      simp only[Ga,Prod.mk.injEq]at happ
      obtain⟨h1,hw,rfl,rfl⟩:=happ
      have ho':=ho (by omega)
      subst ho'
      obtain⟨w',q1,q2,q3⟩:=Jn (P:=P) R hL hn' w1 hw
      have hrun:=Ux (ty:=o.type) hu hd hnz hi (w3 w rfl).1 (w3 w rfl).2 (base:=some ⟨L.b,L.base+off,none⟩) (n:=n) (c:=c) (by omega) (w':=w') (fun b hb=>by
       simp at hb;subst hb
       rw[Addr.add_off,hs1,GU]
       exact q1) (fun hb=>by simp at hb)
      exact⟨β,w',q2,q3,_,key hrun,.sc (.slc hL hc (by omega) ho hb hn')⟩
    ·split at happ
     case isFalse=>simp at happ
     rename_i hrw
     simp at happ
     obtain⟨rfl,rfl⟩:=happ
     have hid:id<h.length:=(Gb.1 hg).1
     have hfr0:β h.length=none:=hf h.length (Ge _) (by simp)
     obtain rfl:=hrw.1
     by_cases hlt:c<n+m
     ·obtain⟨q1,q2⟩:=Qe0 R hg
      exact grows hlt hfr0 q2 q1 (by simp)
     ·have ho':=ho (by omega)
      obtain⟨hbp,hb⟩:=hb (by omega)
      subst ho'
      obtain⟨b1,ccs,be,fz,b2,b3,b4,b5,b6,-,b8⟩:=hB
      have:=b6 rfl
      subst this
      have hnb:ety=none∨L.base+off=0:=by
       cases hety:ety with
       | none=>exact .inl rfl
       | some t0 =>
        have h1:=(b8.1 t0 hety).1
        rcases hrw.2 with h2|h2
        ·simp[hety]at h2
        ·exact .inr (by omega)
      have hl1:=o1.length
      have hl2:=w1.length
      have hmul:n*L.esz.n+m*L.esz.n<=c*L.esz.n:=by rw[← GZ];exact Gz _ (by omega)
      have hwl:ws.length=m*zero.length:=by rw[w2,hs1]
      rw[b1]at hmul hb
      simp only at hmul hb
      have hst:=run_storeCells_at P L.b (L.base+off+n*zero.length) be ws 0 ccs w b2 (by omega) w1.oneCell
      have hfit:L.base+off+n*zero.length+ws.length<=ccs.toList.length:=by have hcl:ccs.toList.length=ccs.size:=Array.length_toList;omega
      obtain⟨q1,q2⟩:=Qde R hfr0 hg hL (ccs.toList.take (L.base+off+n*zero.length+0)++ws++ccs.toList.drop (L.base+off+n*zero.length+0+ws.length)).toArray (L.base+off) hlow hnt hnb (old++vs)
       (by simp;omega) (by simp;omega) (fun i v hi=>by
        simp only[List.getElem?_toArray,Nat.add_zero]
        rw[zD _ _ _ hfit]
        by_cases c1:i<n*zero.length
        ·rw[Gq (by omega)]at hi
         obtain⟨ci,k1,k2⟩:=o1.get hi
         rw[if_pos (by omega)]
         refine⟨ci,?_,k2⟩
         have:=o3 i ci k1
         rw[cell_of_row w L.b _ ccs be _ b2]at this
         rw[G9]
         exact this
        ·rw[Gk (by omega)]at hi
         obtain⟨ci,k1,k2⟩:=w1.get hi
         have hlt2:i-old.length<ws.length:=(Gb.1 k1).1
         rw[if_neg (by omega),if_pos (by omega)]
         refine⟨ci,?_,k2⟩
         rw[← k1];congr 1;omega)
      have hrun:=Ux (ty:=o.type) hu hd hnz hi (w3 w rfl).1 (w3 w rfl).2 (base:=some ⟨L.b,L.base+off,none⟩) (n:=n) (c:=c) (by omega) (fun b hb=>by
       simp at hb;subst hb
       rw[Addr.add_off,hs1]
       exact hst) (fun hb=>by simp at hb)
      refine⟨_,_,q1,q2,_,key hrun,.sc ?_⟩
      exact SRel.slc (L:=⟨L.b,L.base+off,L.sz,⟨zero.length,ety⟩⟩) (off:=0) (Q3 _ _ _) (fun k hk=>by simp at hk) (by omega) (fun _=>rfl) (fun _=>⟨hpos,hb⟩) hlow
 ·simp at happ
theorem s_cpy{esz:Nat}{x y:AO}{o:Oper}{v:Option AV}{h':Qa}(hok:Xe P (.cpy esz x y) o.op=true)(hE:ERel β E a.tmps)(R:Rep β h w)
  (hs:Ql E h (.cpy esz x y)=some (v,h')):X4 β h w ((execOp a.eval o).run P w) v h':=by
 cases hop:o.op <;> rw[hop]at hok <;> simp only[Xe,Bool.false_eq_true]at hok
 rename_i c
 obtain⟨callee,args,argTypes⟩:=c
 split at hok
 case h_2=>simp at hok
 rename_i x' y' t u hc ha ht
 simp only at hc ha ht
 have ha':args=#[x',y']:=by rw[← GS (xs:=args),ha]
 have ht':argTypes=#[t,u]:=by rw[← GS (xs:=argTypes),ht]
 subst hc ha' ht'
 simp only[Bool.and_eq_true]at hok
 obtain⟨⟨k1,k2⟩,k5⟩:=hok
 obtain⟨e,hu,hg⟩:=YA k5
 obtain⟨ti,hi,hs1⟩:∃ ti,P.info? e=some ti/\ti.size=esz:=by
  unfold Y8 at hg
  split at hg
  ·exact⟨_,by assumption,by simpa using hg⟩
  ·cases hg
 simp only[Ql]at hs
 split at hs
 case h_2=>simp at hs
 rename_i id off dl cp id2 off2 m cp2 hpx hpy
 split at hs
 case isFalse=>simp at hs
 rename_i hpos
 simp only[Gd,Ga,Prod.mk.injEq]at hs
 obtain⟨vs,hrd,h1,hw,rfl,rfl⟩:=hs
 have r1:=QN k1 hE hpx
 have r2:=QN k2 hE hpy
 have key:∀ {c w'},(Builtin.copy_ #[t,u] o.type #[a.eval x',a.eval y']).run P w = .ok c w'->(execOp a.eval o).run P w = .ok (.value c) w':=by
  intro c w' hr
  simp[execOp,hop,resolve,invoke,builtin,hr]
 generalize hpv:a.eval x'=pv at r1 key
 generalize hqv:a.eval y'=qv at r2 key
 cases r1 with
 | slc hL hc hl ho hb hn' =>
  rename_i L c ad
  cases r2 with
  | slc hL2 hc2 hl2 ho2 hb2 hn2 =>
   rename_i L2 c2 ad2
   have hm:0<m:=by omega
   have hd:0<dl:=by omega
   have o1:=ho (by omega)
   have o2:=ho2 (by omega)
   subst o1 o2
   obtain⟨ws,e1,e2,e3⟩:=Ju R hL2 hn2 hrd
   have hrun:=YZ (P:=P) (w:=w) (b:=L2.b) (o:=L2.base+off2) (ws:=ws) fun j v hj=>e3 j v hj
   rw[e2]at hrun
   obtain⟨w',q1,q2,q3⟩:=Jn (P:=P) R hL hn' e1 hw
   have hcp:(Builtin.copy_ #[t,u] o.type #[.slice (some ⟨L.b,L.base+off,none⟩) dl c,.slice (some ⟨L2.b,L2.base+off2,none⟩) m c2]).run P w = .ok (goInt ((min m dl:Nat):Int)) w':=by
    have hmin:Nat.min m dl=min m dl:=rfl
    simp[Builtin.copy_,Q4 hu,sizeOf,typeInfo,hi,hs1,Builtin.lenOf,Builtin.firstCells,hmin,hrun,q1]
   exact⟨β,w',q2,q3,_,key hcp,.sc (.int _ _)⟩
theorem QbT(w:World){b o n:Nat}{cs:Array Value}{e:TypeId}{fz:Nat×Nat}(hb:w.heap[b]?=some (.cells cs e fz)):∃ fz',(w.freeze ⟨b,o,none⟩ n).heap[b]?=some (.cells cs e fz'):=by
 unfold World.freeze
 split
 ·exact⟨fz,hb⟩
 ·obtain⟨lo,hi⟩:=fz
  simp only[Array.getElem?_modify,if_true,hb,Gm]
  exact⟨_,rfl⟩
theorem Jz(w:World){b o n k:Nat}(h:k≠b):(w.freeze ⟨b,o,none⟩ n).heap[k]?=w.heap[k]?:=by
 unfold World.freeze
 split
 ·rfl
 ·simp only[Array.getElem?_modify]
  rw[if_neg (by simpa using Ne.symm h)]
theorem QbS(w:World)(a:Addr)(n:Nat):(w.freeze a n).heap.size=w.heap.size/\(w.freeze a n).os=w.os/\(w.freeze a n).tape=w.tape/\(w.freeze a n).output=w.output:=by
 unfold World.freeze
 split
 ·exact⟨rfl,rfl,rfl,rfl⟩
 ·exact⟨by simp,rfl,rfl,rfl⟩
theorem z6(R:Rep β h w){id:Nat}{L:Loc}{cs:List SV}{esz:ESz}(hg:h[id]?=some (.cells cs true esz))(hL:β id=some L)(hn:L.esz.n<1000000)(o n:Nat) :
  Stp β h w β (h.set id (.cells cs false esz)) (w.freeze ⟨L.b,o,none⟩ n)/\Rep β (h.set id (.cells cs false esz)) (w.freeze ⟨L.b,o,none⟩ n):=by
 have hid:id<h.length:=(Gb.1 hg).1
 have hB:=R.blk id L cs true esz hg hL
 obtain⟨z1,z2,z3,z4⟩:=QbS w ⟨L.b,o,none⟩ n
 refine⟨⟨fun _ _ h=>h,fun _ _ h => .inl h,fun i h1 h2=>by simp at h2;omega,by simp,?_,fun id L h1 h2=>by rw[h1]at h2;simp at h2,?_,by rw[z1];exact Ge _,z2,z3,z4⟩,⟨fun i b M hi hM=>?_,?_,?_,⟨by rw[z1];exact R.keep.1,fun b hb=>(Jz _ (Nat.ne_of_lt (GJ hb (hB.low rfl)))).trans (R.keep.2 b hb)⟩⟩⟩
 ·rintro b ⟨i,M,cs1,e1,hi,hM,rfl⟩
  rw[Yj _ _ _ _ hid]at hi
  split at hi
  ·simp at hi
  ·exact .inr ⟨i,M,cs1,e1,hi,hM,rfl⟩
 ·intro b hb hn
  exact Jz w fun e=>hn ⟨id,L,cs,esz,hg,hL,e.symm⟩
 ·rw[Yj _ _ _ _ hid]at hi
  split at hi
  ·rename_i e;subst e;simp at hi;subst hi
   exact(R.sz i _ M hg hM:M.esz=esz)
  ·exact R.sz i b M hi hM
 ·intro i M cs1 rw1 e1 hi hM
  rw[Yj _ _ _ _ hid]at hi
  split at hi
  ·rename_i e;subst e;simp at hi;obtain⟨rfl,rfl,rfl⟩:=hi
   rw[hL]at hM;simp at hM;subst hM
   obtain⟨h1,ccs,e,fz,h2,h3,h4,h5,h6,h7⟩:=hB.cell hn
   obtain⟨fz',h8⟩:=QbT w (o:=o) (n:=n) h2
   exact .inl ⟨by rw[← h1];exact hn,h1,ccs,e,fz',h8,h3,h4,h5,fun hc=>by simp at hc,h7.1,h7.2.1,fun hc=>by simp at hc⟩
  ·rename_i e
   have hB':=R.blk i M cs1 rw1 e1 hi hM
   have hne:L.b≠M.b:=R.exc id i L M cs esz cs1 rw1 e1 hg hi (Ne.symm e) hL hM
   exact hB'.mono (fun _ _ h=>h) (Jz w (Ne.symm hne))
 ·intro i j M N cs1 e1 cs2 rw2 e2 hi hj hne hM hN
  rw[Yj _ _ _ _ hid]at hi hj
  split at hi
  ·simp at hi
  ·split at hj
   ·rename_i e;subst e
    exact R.exc i j M N cs1 e1 cs true esz hi hg hne hM hN
   ·exact R.exc i j M N cs1 e1 cs2 rw2 e2 hi hj hne hM hN
theorem Z3:∀ {vs:List SV} {l:List UInt8},Z4 vs=some l->l.length=vs.length/\∀(j:Nat) (x:UInt8),l[j]?=some x->vs[j]?=some (.int .u8 x.toNat)
 | [],l,h=>by simp[Z4]at h;subst h;simp
 | .int .u8 v::r,l,h=>by
  simp only[Z4]at h
  split at h
  ·rename_i hv
   simp only[Ga]at h
   obtain⟨l',hl',rfl⟩:=h
   obtain⟨h1,h2⟩:=Z3 hl'
   refine⟨by simp[h1],fun j x hj=>?_⟩
   cases j with
   | zero=>simp at hj;subst hj;simp only[List.getElem?_cons_zero];rw[← hv]
   | succ j=>simpa using h2 j x (by simpa using hj)
  ·simp at h
 | v::r,l,h=>by
  unfold Z4 at h
  split at h
  ·rename_i h1;cases h1
  ·rename_i v' r' h1
   cases h1
   split at h
   ·rename_i hv
    simp only[Ga]at h
    obtain⟨l',hl',rfl⟩:=h
    obtain⟨h1,h2⟩:=Z3 hl'
    refine⟨by simp[h1],fun j x hj=>?_⟩
    cases j with
    | zero=>simp at hj;subst hj;simp only[List.getElem?_cons_zero];rw[← hv]
    | succ j=>simpa using h2 j x (by simpa using hj)
   ·simp at h
  ·simp at h
theorem s_usd{x:AO}{o:Oper}{v:Option AV}{h':Qa}(hok:Xe P (.usd x) o.op=true)(hE:ERel β E a.tmps)(R:Rep β h w)
  (hs:Ql E h (.usd x)=some (v,h')):X4 β h w ((execOp a.eval o).run P w) v h':=by
 cases hop:o.op <;> rw[hop]at hok <;> simp only[Xe,Bool.false_eq_true]at hok
 rename_i c
 obtain⟨callee,args,argTypes⟩:=c
 split at hok
 case h_2=>simp at hok
 rename_i x' hc ha
 simp only at hc ha
 have ha':args=#[x']:=by rw[← GS (xs:=args),ha]
 subst hc ha'
 have key:∀ {c w'},(Builtin.unsafeSliceData_ argTypes o.type #[a.eval x']).run P w = .ok c w'->(execOp a.eval o).run P w = .ok (.value c) w':=by
  intro c w' hr
  simp[execOp,hop,resolve,invoke,builtin,hr]
 simp only[Ql]at hs
 split at hs
 ·rename_i id off n cap hp
  split at hs
  ·rename_i hn
   simp at hs
   obtain⟨rfl,rfl⟩:=hs
   have r:=QN hok hE hp
   generalize hpv:a.eval x'=pv at r key
   cases r with
   | slc hL hc hl ho hb hn' =>
    rename_i L c ad
    have had:=ho (by omega)
    subst had
    exact QI R (key (Lib.run_unsafeSliceData_row _ _ _ _ _ _ (by omega))) (.sc (.ptr hL hn'))
  ·simp at hs
 ·rename_i hp
  simp at hs
  obtain⟨rfl,rfl⟩:=hs
  have r:=QN hok hE hp
  generalize hpv:a.eval x'=pv at r key
  cases r
  exact QI R (key (Lib.run_unsafeSliceData_nil _ _ _ _ _)) (.sc .nilP)
 ·simp at hs
theorem Qky{t:Nat}{x n:AO}{o:Oper}{v:Option AV}{h':Qa}(hok:Xe P (.ustr t x n) o.op=true)(hE:ERel β E a.tmps)(R:Rep β h w)
  (hs:Ql E h (.ustr t x n)=some (v,h')):X4 β h w ((execOp a.eval o).run P w) v h':=by
 cases hop:o.op <;> rw[hop]at hok <;> simp only[Xe,Bool.false_eq_true]at hok
 rename_i c
 obtain⟨callee,args,argTypes⟩:=c
 split at hok
 case h_2=>simp at hok
 rename_i x' n' u tl hc ha ht
 simp only at hc ha ht
 have ha':args=#[x',n']:=by rw[← GS (xs:=args),ha]
 have ht':argTypes=#[u,tl]:=by rw[← GS (xs:=argTypes),ht]
 subst hc ha' ht'
 simp only[Bool.and_eq_true]at hok
 obtain⟨⟨⟨k1,k2⟩,k3⟩,k4⟩:=hok
 have hu:P.underlying u=some (.pointer t):=by
  unfold Qjq at k3
  split at k3
  ·rename_i e he;simp at k3;subst k3;exact he
  ·simp at k3
 have hcells:P.cellsOf t=1:=by
  unfold Y8 at k4
  split at k4
  ·rename_i i hi;simp at k4;simp[Program.cellsOf,hi,k4]
  ·simp at k4
 have key:∀ {c w'},(Builtin.unsafeString_ #[u,tl] o.type #[a.eval x',a.eval n']).run P w = .ok c w'->(execOp a.eval o).run P w = .ok (.value c) w':=by
  intro c w' hr
  simp[execOp,hop,resolve,invoke,builtin,hr]
 simp only[Ql]at hs
 split at hs
 ·rename_i id m hp hn
  split at hs
  ·rename_i cs z hg
   split at hs
   ·rename_i hcond
    obtain⟨hm0,hm1,rfl⟩:=hcond
    simp only[Gd,Ga,Prod.mk.injEq]at hs
    obtain⟨vs,hcut,l,hl,rfl,rfl⟩:=hs
    have r1:=QN k1 hE hp
    have r2:=QN k2 hE hn
    generalize hpv:a.eval x'=pv at r1 key
    generalize hnv:a.eval n'=nv at r2 key
    cases r2
    cases r1 with
    | ptr hL hn' =>
     rename_i L
     obtain⟨b1,b2⟩:=Z3 hl
     obtain⟨c1,c2,c3⟩:=qe hcut
     have hlen:l.length=m.toNat:=by rw[b1,c2]
     have hm:m=(l.length:Int):=by omega
     obtain⟨q1,q2⟩:=z6 R hg hL hn' (L.base+0) m.toNat
     obtain⟨-,ccs,e,fz,h2,h3,h4,h5,-,h7,h8⟩:=(R.blk id L cs true _ hg hL).cell hn'
     have he:e=t:=h7 t rfl
     subst he
     obtain⟨hb0,-⟩:=h8.1 e rfl
     rw[hb0]at key q1 q2
     refine⟨β,_,q1,q2,_,key ?_,.sc (.str _)⟩
     have hcell:∀(j:Nat) (x:UInt8),l[j]?=some x->w.cell? ((⟨L.b,0,none⟩:Addr).add j)=some (.int .u8 x.toNat):=by
      intro j x hj
      have h8:=b2 j x hj
      obtain⟨-,h9⟩:=c3 _ _ h8
      obtain⟨c,h10,h11⟩:=h5 _ _ h9
      cases h11
      rw[Addr.add_off,cell_of_row w L.b _ ccs e fz h2]
      rw[hb0]at h10
      simpa using h10
     have hsh:w.shape? L.b=some (e,ccs.size):=by simp[World.shape?,h2]
     have hrun:=Lib.run_unsafeString_row (P:=P) w u tl o.type e hu hcells L.b ccs.size hsh l (by intro hnil;subst hnil;simp at hlen;omega) (by omega) (by omega) hcell
     rw[← hm]at hrun
     rw[hlen]at hrun
     exact hrun
   ·simp at hs
  ·simp at hs
 ·rename_i m hp hn
  split at hs
  ·rename_i hm
   subst hm
   simp at hs
   obtain⟨rfl,rfl⟩:=hs
   have r1:=QN k1 hE hp
   have r2:=QN k2 hE hn
   generalize hpv:a.eval x'=pv at r1 key
   generalize hnv:a.eval n'=nv at r2 key
   cases r2
   cases r1
   exact QI R (key (Lib.run_unsafeString_none w u tl o.type none)) (.sc (.str _))
  ·simp at hs
 ·simp at hs
theorem s_cvb{x:AO}{o:Oper}{v:Option AV}{h':Qa}(hok:Xe P (.cvb x) o.op=true)(hE:ERel β E a.tmps)(R:Rep β h w)(hf:fresh β h h')
  (hs:Ql E h (.cvb x)=some (v,h')):X4 β h w ((execOp a.eval o).run P w) v h':=by
 cases hop:o.op <;> rw[hop]at hok <;> simp only[Xe,Bool.false_eq_true]at hok
 rename_i s t x'
 simp only[Bool.and_eq_true]at hok
 obtain⟨⟨k1,k2⟩,k3⟩:=hok
 have hus:=ZJ k2
 obtain⟨e,hut,hue⟩:=YA k3
 have hu8:P.underlying e=some (.int .u8):=by
  unfold QhO at hue
  split at hue
  ·assumption
  ·simp at hue
 simp only[Ql]at hs
 split at hs
 ·rename_i str hp
  simp only[Option.some.injEq,Prod.mk.injEq]at hs
  obtain⟨rfl,rfl⟩:=hs
  have r1:=QN k1 hE hp
  generalize hpv:a.eval x'=pv at r1
  cases r1
  have hfr:β h.length=none:=hf _ (Ge _) (by simp)
  have hge:=grownCap_ge w str.size 0 e
  have hsz:(Lib.bytesCells w e str).size=grownCap w str.size 0 e:=by
   simp only[Lib.bytesCells,Array.size_append,Array.size_map,Array.size_replicate]
   have:str.data.size=str.size:=rfl
   omega
  have hrel:∀(i:Nat) (v:SV),(str.data.toList.map fun b=>SV.int .u8 (b.toNat:Int))[i]?=some v->∃ c,(Lib.bytesCells w e str)[i]?=some c/\SRel β v c:=by
   intro i v hi
   rw[Gj,Ga]at hi
   obtain⟨b,hb,rfl⟩:=hi
   have hi':i<str.data.size:=by simpa using (Gb.1 hb).1
   refine⟨.int .u8 b.toNat,?_,.int _ _⟩
   rw[G9]at hb
   unfold Lib.bytesCells
   rw[Array.getElem?_append_left (by simpa using hi'),Array.getElem?_map,hb];rfl
  obtain⟨s1,s2⟩:=JM (R.drawn (w.drawn+1)) hfr (Lib.bytesCells w e str) e (str.data.toList.map fun b=>SV.int .u8 (b.toNat:Int)) 1 (fun t ht=>by cases ht) (by decide) (fun h=>by cases h) (by
   rw[hsz,Gp]
   have:str.data.toList.length=str.size:=by simp
   omega) hrel
  obtain⟨f1,f2⟩:=z6 s2 (id:=h.length) (cs:=str.data.toList.map fun b=>SV.int .u8 (b.toNat:Int)) (esz:=1) (by simp) (Q3 _ _ _) (show (1:ESz).n<1000000 by decide) (Lib.bytesCells w e str).size 1
  have hset:(h++[Blk.cells (str.data.toList.map fun b=>SV.int .u8 (b.toNat:Int)) true 1]).set h.length (Blk.cells (str.data.toList.map fun b=>SV.int .u8 (b.toNat:Int)) false 1)=h++[Blk.cells (str.data.toList.map fun b=>SV.int .u8 (b.toNat:Int)) false 1]:=by
   rw[List.set_append_right _ _ (Ge _)];simp
  rw[hset]at f1 f2
  have s0:Stp β h w β h { w with drawn:=w.drawn+1 }:=⟨fun _ _ h=>h,fun _ _ h => .inl h,fun id h1 h2=>by omega,Ge _,fun b hb => .inr hb,fun id L h1 h2=>by rw[h1]at h2;simp at h2,fun _ _ _=>rfl,Ge _,rfl,rfl,rfl⟩
  refine⟨_,_,(s0.trans s1).trans f1,f2,.slice (some ⟨w.heap.size,0,none⟩) str.size (grownCap w str.size 0 e),?_,.sc ?_⟩
  ·have hr:=Lib.run_convert_string_bytes (P:=P) w s t e str hus hut hu8
   simp[execOp,hop,hpv,hr,Lib.bytesWorld,World.drew,-World.drew_eq]
  ·refine .slc (Q3 _ _ _) (fun k hk=>by cases hk) hge (fun _=>rfl) (fun _=>⟨Ge _,?_⟩) (show (1:ESz).n<1000000 by decide)
   simp[hsz]
 ·simp at hs
theorem Qbl:∀(l:List UInt8) (s:ByteArray),(l.map fun b=>(b.toNat:Int)).foldl (fun r n=>r.push (UInt8.ofNat n.toNat)) s=s++⟨l.toArray⟩
 | [],s=>by ext1;simp
 | b::r,s=>by
  simp only[G8,List.foldl_cons]
  rw[Qbl r]
  ext1
  simp
theorem s_cbs{x:AO}{o:Oper}{v:Option AV}{h':Qa}(hok:Xe P (.cbs x) o.op=true)(hE:ERel β E a.tmps)(R:Rep β h w)
  (hs:Ql E h (.cbs x)=some (v,h')):X4 β h w ((execOp a.eval o).run P w) v h':=by
 cases hop:o.op <;> rw[hop]at hok <;> simp only[Xe,Bool.false_eq_true]at hok
 rename_i s t x'
 simp only[Bool.and_eq_true]at hok
 obtain⟨⟨k1,k2⟩,k3⟩:=hok
 have hud:=ZJ k2
 obtain⟨e,hut,hue⟩:=YA k3
 have hu8:P.underlying e=some (.int .u8):=by
  unfold QhO at hue
  split at hue
  ·assumption
  ·simp at hue
 simp only[Ql]at hs
 split at hs
 ·rename_i id off n cap hp
  split at hs
  ·rename_i hn
   simp only[Gd,Ga,Prod.mk.injEq]at hs
   obtain⟨vs,hrd,l,hl,rfl,rfl⟩:=hs
   have r1:=QN k1 hE hp
   generalize hpv:a.eval x'=pv at r1
   cases r1 with
   | slc hL hcp hl' ho hbd hn' =>
    rename_i L c ad
    have had:=ho (by omega)
    subst had
    unfold Q9 at hrd
    split at hrd
    ·rename_i cs rw' esz hg
     obtain⟨h1,ccs,e',fz,h2,h3,h4,h5,h6⟩:=(R.blk id L cs rw' esz hg hL).cell hn'
     obtain⟨c1,c2,c3⟩:=qe hrd
     obtain⟨b1,b2⟩:=Z3 hl
     have hload:=YZ (P:=P) (w:=w) (b:=L.b) (o:=L.base+off) (ws:=(l.map fun b=>(b.toNat:Int)).map (Value.int .u8)) (fun j v hj=>by
      rw[List.map_map,Gj,Ga]at hj
      obtain⟨b,hb,rfl⟩:=hj
      have hv:=b2 j b hb
      obtain⟨-,hcs⟩:=c3 _ _ hv
      obtain⟨c0,q1,q2⟩:=h5 _ _ hcs
      cases q2
      rw[cell_of_row w L.b _ ccs e' fz h2,GU]
      exact q1)
     have hlen:((l.map fun b=>(b.toNat:Int)).map (Value.int .u8)).length=n:=by simp[b1,c2]
     rw[hlen]at hload
     have hr:=run_bytesToString w ⟨L.b,L.base+off,none⟩ n c _ hload
     rw[Qbl,show ByteArray.empty++(⟨l.toArray⟩:ByteArray)=⟨l.toArray⟩ by ext1;simp]at hr
     refine QI R (c := .string ⟨l.toArray⟩) ?_ (.sc (.str _))
     have hcv:=run_convert_bytes_string (P:=P) w s t e (some ⟨L.b,L.base+off,none⟩) n c hut hu8 hud
     rw[hr]at hcv
     simp[execOp,hop,hpv,hcv]
    ·cases hrd
  ·simp at hs
 ·simp at hs
theorem QdG(R:Rep β h w)(hf:β h.length=none)(o:Obj)(cs:List SV)(esz:ESz)(hn:1000000<=esz.n)
  (hrel:∀ β' w',β.le β'->w'.heap=(w.alloc o).heap->(esz.n<2000000/\BMap β' w' ⟨w.heap.size,0,0,esz⟩ cs esz)∨(2000000<=esz.n/\Qeo β' w' ⟨w.heap.size,0,0,esz⟩ cs)) :
  Stp β h w (upd β h.length ⟨w.heap.size,0,0,esz⟩) (h++[.cells cs true esz]) (w.alloc o)/\Rep (upd β h.length ⟨w.heap.size,0,0,esz⟩) (h++[.cells cs true esz]) (w.alloc o):=by
 have hle:=V3 (β:=β) (⟨w.heap.size,0,0,esz⟩:Loc) hf
 have hold:∀ i,i<h.length->upd β h.length ⟨w.heap.size,0,0,esz⟩ i=β i:=fun i hi=>XT _ _ (by omega)
 have hsz:∀ b,b<w.heap.size->(w.alloc o).heap[b]?=w.heap[b]?:=fun b hb=>Go.RowKit.Below.heap_alloc w _ b hb
 have lt:∀(i:Nat) (x:Blk),h[i]?=some x->i<h.length:=fun i x hx=>(Gb.1 hx).1
 refine⟨⟨hle,?_,?_,by simp,?_,?_,fun b hb _=>hsz b hb,by simp,rfl,rfl,rfl⟩,⟨fun id b L hg hL=>?_,?_,?_,⟨Gh R.keep.1 (by simp),fun b hb=>(hsz b (GJ hb R.keep.1)).trans (R.keep.2 b hb)⟩⟩⟩
 ·intro id L hl
  by_cases hi:id=h.length
  ·exact .inr (by simp;omega)
  ·exact .inl (by rwa [XT _ _ hi]at hl)
 ·intro id h1 h2
  have:id=h.length:=by simp at h2;omega
  subst this
  exact⟨_,Q3 _ _ _⟩
 ·rintro b ⟨id,L,cs',esz',hg,hL,rfl⟩
  rw[YP]at hg
  split at hg
  ·rename_i hi;subst hi;rw[Q3]at hL;simp at hL;subst hL;exact .inl (Ge _)
  ·rw[hold id (lt _ _ hg)]at hL
   exact .inr ⟨id,L,cs',esz',hg,hL,rfl⟩
 ·intro id L h1 h2
  by_cases hi:id=h.length
  ·subst hi;rw[Q3]at h1;simp at h1;subst h1;exact .inl (Ge _)
  ·rw[XT _ _ hi,h2]at h1;simp at h1
 ·rw[YP]at hg
  split at hg
  ·rename_i hi;subst hi;rw[Q3]at hL;simp at hL hg;subst hL hg;rfl
  ·rw[hold id (lt _ _ hg)]at hL
   exact R.sz id b L hg hL
 ·intro id L cs' rw' esz' hg hL
  rw[YP]at hg
  split at hg
  ·rename_i hi;subst hi;rw[Q3]at hL;simp at hL hg
   obtain⟨rfl,rfl,rfl⟩:=hg
   subst hL
   exact .inr ⟨hn,rfl,hrel _ _ hle rfl,fun _=>R.keep.1⟩
  ·rw[hold id (lt _ _ hg)]at hL
   have hb:=R.blk id L cs' rw' esz' hg hL
   exact hb.mono hle (hsz _ hb.lt)
 ·intro i j L M cs1 e1 cs2 rw2 e2 hi hj hne hL hM
  rw[YP]at hi hj
  split at hi
  ·rename_i hii;subst hii
   rw[Q3]at hL;simp at hL;subst hL
   rw[if_neg (Ne.symm hne)]at hj
   rw[hold j (lt _ _ hj)]at hM
   have:=(R.blk j M cs2 rw2 e2 hj hM).lt
   show w.heap.size≠M.b
   omega
  ·rw[hold i (lt _ _ hi)]at hL
   split at hj
   ·rename_i hjj;subst hjj
    rw[Q3]at hM;simp at hM;subst hM
    have:=(R.blk i L cs1 _ e1 hi hL).lt
    show L.b≠w.heap.size
    omega
   ·rw[hold j (lt _ _ hj)]at hM
    exact R.exc i j L M cs1 e1 cs2 rw2 e2 hi hj hne hL hM
theorem QdF(R:Rep β h w){id:Nat}{L:Loc}{cs:List SV}{esz:ESz}(hg:h[id]?=some (.cells cs true esz))(hL:β id=some L)(hn:1000000<=L.esz.n)(o:Obj)(cs':List SV)
  (hrel:∀ w':World,w'.heap=w.heap.setIfInBounds L.b o->(esz.n<2000000/\BMap β w' L cs' esz)∨(2000000<=esz.n/\Qeo β w' L cs')) :
  Stp β h w β (h.set id (.cells cs' true esz)) { w with heap:=w.heap.setIfInBounds L.b o }/\Rep β (h.set id (.cells cs' true esz)) { w with heap:=w.heap.setIfInBounds L.b o }:=by
 have hid:id<h.length:=(Gb.1 hg).1
 have hB:=R.blk id L cs true esz hg hL
 have other:∀ b,b≠L.b->(w.heap.setIfInBounds L.b o)[b]?=w.heap[b]?:=fun b hb=>by simp[Ne.symm hb]
 have hez:L.esz=esz:=R.sz id _ L hg hL
 refine⟨⟨fun _ _ h=>h,fun _ _ h => .inl h,fun i h1 h2=>by simp at h2;omega,by simp,?_,fun id L h1 h2=>by rw[h1]at h2;simp at h2,?_,by simp,rfl,rfl,rfl⟩,⟨fun i b M hi hM=>?_,?_,?_,⟨Gh R.keep.1 (by simp),fun b hb=>(other _ (Nat.ne_of_lt (GJ hb (hB.low rfl)))).trans (R.keep.2 b hb)⟩⟩⟩
 ·rintro b ⟨i,M,cs1,e1,hi,hM,rfl⟩
  rw[Yj _ _ _ _ hid]at hi
  split at hi
  ·rename_i e;subst e;simp at hi;obtain⟨rfl,rfl⟩:=hi
   exact .inr ⟨i,M,cs,esz,hg,hM,rfl⟩
  ·exact .inr ⟨i,M,cs1,e1,hi,hM,rfl⟩
 ·intro b hb hn
  exact other _ fun e=>hn ⟨id,L,cs,esz,hg,hL,e.symm⟩
 ·rw[Yj _ _ _ _ hid]at hi
  split at hi
  ·rename_i e;subst e;simp at hi;subst hi
   exact(R.sz i _ M hg hM:M.esz=esz)
  ·exact R.sz i b M hi hM
 ·intro i M cs1 rw1 e1 hi hM
  rw[Yj _ _ _ _ hid]at hi
  split at hi
  ·rename_i e;subst e;simp at hi;obtain⟨rfl,rfl,rfl⟩:=hi
   rw[hL]at hM;simp at hM;subst hM
   exact .inr ⟨by rw[← hez];exact hn,hez,hrel _ rfl,fun _=>hB.low rfl⟩
  ·rename_i e
   have hB':=R.blk i M cs1 rw1 e1 hi hM
   have hne:L.b≠M.b:=R.exc id i L M cs esz cs1 rw1 e1 hg hi (Ne.symm e) hL hM
   exact hB'.mono (fun _ _ h=>h) (other _ (Ne.symm hne))
 ·intro i j M N cs1 e1 cs2 rw2 e2 hi hj hne hM hN
  rw[Yj _ _ _ _ hid]at hi hj
  split at hi
  ·rename_i e;subst e
   rw[if_neg (Ne.symm hne)]at hj
   exact R.exc i j M N cs esz cs2 rw2 e2 hg hj hne hM hN
  ·split at hj
   ·rename_i e;subst e
    exact R.exc i j M N cs1 e1 cs true esz hi hg hne hM hN
   ·exact R.exc i j M N cs1 e1 cs2 rw2 e2 hi hj hne hM hN
theorem qy(R:Rep β h w){id:Nat}{L:Loc}{cs:List SV}{rw':Bool}{z:ESz}(hg:h[id]?=some (.cells cs rw' z))(hL:β id=some L)(hn:1000000<=L.esz.n/\L.esz.n<2000000):BMap β w L cs z:=by
 have hz:L.esz=z:=R.sz id _ L hg hL
 rw[hz]at hn
 rcases R.blk id L cs rw' z hg hL with h1|⟨-,-,⟨-,h2⟩|h2,-⟩
 ·omega
 ·exact h2
 ·omega
theorem QgB(R:Rep β h w){id:Nat}{L:Loc}{cs:List SV}{rw':Bool}{z:ESz}(hg:h[id]?=some (.cells cs rw' z))(hL:β id=some L)(hn:2000000<=L.esz.n):Qeo β w L cs:=by
 have hz:L.esz=z:=R.sz id _ L hg hL
 rw[hz]at hn
 rcases R.blk id L cs rw' z hg hL with h1|⟨-,-,h2|⟨-,h2⟩,-⟩
 ·omega
 ·omega
 ·exact h2
theorem VRel.av{xs:List SV}{v:Value}(h:VRel β xs v):ARel β (mpAV xs) v/\PRel β (Qgg xs) v:=by
 rcases h with ⟨x,rfl,h2⟩|⟨h0,vs,rfl,h2⟩
 ·exact⟨.sc h2,.sc h2⟩
 ·match xs,h0 with
  | [],_=>exact⟨.agg h2,.agg h2⟩
  | [_],h0=>exact absurd rfl h0
  | _::_::_,_=>exact⟨.agg h2,.agg h2⟩
theorem yu{v:AV}{c:Value}{vs:List SV}(h:ARel β v c)(hv:QcC v=some vs):VRel β vs c:=by
 cases h with
 | sc h=>simp[QcC]at hv;subst hv;exact .inl ⟨_,rfl,h⟩
 | agg h =>
  simp[QcC]at hv
  obtain⟨h0,rfl⟩:=hv
  exact .inr ⟨h0,_,rfl,h⟩
 | tup h=>simp[QcC]at hv
theorem J9:∀ {ks:List SV} {ns:List Int},Jc ks=some ns->ks=ns.map (SV.int .i64)
 | [],ns,h=>by simp[Jc]at h;subst h;rfl
 | x::r,ns,h=>by
  unfold Jc at h
  split at h
  ·rename_i hx;cases hx
  ·rename_i n r' hx
   cases hx
   simp only[Ga]at h
   obtain⟨m,h1,rfl⟩:=h
   rw[J9 h1];rfl
  ·cases h
theorem QcO(ns:List Int):Jc (ns.map (SV.int .i64))=some ns:=by
 induction ns with
 | nil=>rfl
 | cons n r ih=>simp[Jc,ih]
def Qgq:List Int->Value
 | [n] => .int .i64 n
 | ns => .agg (ns.map (Value.int .i64)).toArray
theorem F2.ints{ns:List Int}{vs:List Value}(h:F2 (SRel β) (ns.map (SV.int .i64)) vs):vs=ns.map (Value.int .i64):=by
 induction ns generalizing vs with
 | nil=>cases h;rfl
 | cons n r ih =>
  cases h with
  | cons h1 h2=>cases h1;rw[ih h2];rfl
theorem VRel.key{ns:List Int}{v:Value}(h:VRel β (ns.map (SV.int .i64)) v):v=Qgq ns:=by
 rcases h with ⟨x,h1,h2⟩|⟨h0,vs,rfl,h2⟩
 ·match ns,h1 with
  | [n],h1=>cases h1;cases h2;rfl
 ·rw[F2.ints h2]
  match ns,h0 with
  | [],_=>rfl
  | [_],h0=>exact absurd rfl h0
  | _::_::_,_=>rfl
theorem VI{t:TypeId}{z:ESz}(h:Qgh P t z=true):∃ kt et,P.underlying t=some (.map kt et)/\1000000<=z.n/\z.n<2000000/\P.underlying kt=some (.int .i64)/\z.kw=1:=by
 unfold Qgh at h
 split at h
 ·rename_i kt et hu
  simp only[Bool.and_eq_true,decide_eq_true_eq]at h
  obtain⟨⟨h1,h2⟩,h3⟩:=h
  split at h3
  ·rename_i hk
   exact⟨kt,et,hu,h1,h2,hk,by simpa using h3⟩
  ·cases h3
 ·cases h
theorem Qby{t kt et:TypeId}{zero:List SV}(hu:P.underlying t=some (.map kt et))(h:QcB P t zero=true):∃ v,(∀ w,(zeroValue et).run P w = .ok v w)/\∀ β,VRel β zero v:=by
 unfold QcB at h
 rw[hu]at h
 simp only at h
 split at h
 ·rename_i i hi
  split at h
  ·rename_i vs hz
   simp only[Bool.and_eq_true,decide_eq_true_eq]at h
   exact⟨.agg vs,fun w=>by simp[zeroValue,typeInfo,hi,hz],fun β => .inr ⟨h.1,vs.toList,by simp,Yb h.2⟩⟩
  ·rename_i v hv hz
   split at h
   ·exact⟨v,fun w=>by simp[zeroValue,typeInfo,hi,hz],fun β => .inl ⟨_,rfl,US h⟩⟩
   ·cases h
  ·cases h
 ·cases h
theorem s_mpM{z:ESz}{o:Oper}{v:Option AV}{h':Qa}(hok:Xe P (.mpM z) o.op=true)(hE:ERel β E a.tmps)(R:Rep β h w)(hf:fresh β h h')
  (hs:Ql E h (.mpM z)=some (v,h')):X4 β h w ((execOp a.eval o).run P w) v h':=by
 cases hop:o.op <;> rw[hop]at hok <;> simp[Xe]at hok
 rename_i t r
 obtain⟨rfl,hm⟩:=hok
 simp only[Ql]at hs
 split at hs
 ·rename_i hz
  simp only[Option.some.injEq,Prod.mk.injEq]at hs
  obtain⟨rfl,rfl⟩:=hs
  obtain⟨q1,q2⟩:=QdG R hf.one (.map #[] 0) [] z hz.1 (fun β' w' hb hw => .inl ⟨hz.2.1,#[],by rw[hw];exact Go.heap_alloc_new w _,by simp,hz.2.2,by simp,by simp⟩)
  refine⟨_,_,q1,q2,.map (some w.heap.size),?_,.sc ?_⟩
  ·simp[execOp,hop,Instr.makeMap]
  ·exact SRel.mapv (Q3 β h.length (⟨w.heap.size,0,0,z⟩:Loc)) ⟨hz.1,hz.2.1⟩
 ·cases hs
theorem qc(n:Int):∀(l:List MapEntry) (ks:List (List Int)) (i:Nat),l.map (·.key)=ks.map Qgq->(∀ k∈ks,k.length=1) ->
  Instr.findNow (.int .i64) (.int .i64 n) l i=some ((ks.findIdx? (·==[n])).bind fun j=>(l[j]?).map fun e=>(i+j,e.val))
 | [],[],i,h,_=>rfl
 | [],k::ks,i,h,_=>by simp at h
 | e::l,[],i,h,_=>by simp at h
 | e::l,k::ks,i,h,hl=>by
  simp only[G8,List.cons.injEq]at h
  obtain⟨h1,h2⟩:=h
  obtain⟨m,rfl⟩:∃ m,k=[m]:=List.length_eq_one_iff.1 (hl k (by simp))
  have h1':e.key = .int .i64 m:=h1
  simp only[Instr.findNow,h1',Instr.sameNow,if_true]
  by_cases hk:m=n
  ·subst hk
   simp[List.findIdx?_cons]
  ·have h3:(n==m)=false:=by simp;omega
   have h4:(([m]:List Int)==[n])=false:=by simp[hk]
   rw[h3]
   simp only[List.findIdx?_cons,h4]
   rw[qc n l ks (i+1) h2 fun k hk=>hl k (by simp[hk])]
   simp only[Bool.false_eq_true,if_false]
   congr 1
   cases hx:ks.findIdx? (·==[n]) with
   | none=>rfl
   | some j=>simp[GU,Nat.add_comm 1 j]
theorem y6(z:ESz)(cs:List SV):(Zc z cs).length=cs.length/(z.kw+z.vw):=by simp[Zc]
theorem J5{L:Loc}{cs:List SV}{z:ESz}{n:Nat}(h1:cs.length=n*(z.kw+z.vw))(h0:z.kw≠0):cs.length/(z.kw+z.vw)=n:=by
 rw[h1];exact Nat.mul_div_cancel _ (by omega)
theorem Qb4{cs:List SV}{z:ESz}{n i:Nat}(h1:cs.length=n*(z.kw+z.vw))(hi:i<n):(JI z cs i).length=z.kw/\(qD z cs i).length=z.vw:=by
 have h2:(i+1)*(z.kw+z.vw)<=n*(z.kw+z.vw):=Gz _ hi
 have h3:(i+1)*(z.kw+z.vw)=i*(z.kw+z.vw)+(z.kw+z.vw):=by rw[GZ,Nat.one_mul]
 unfold JI qD
 rw[GV,GV,GW,GW]
 omega
theorem QbC{cs:List SV}{z:ESz}{es:Array MapEntry}(h1:cs.length=es.size*(z.kw+z.vw))(h0:z.kw≠0)(hk:∀(i:Nat) (e:MapEntry),es[i]?=some e->VRel β (JI z cs i) e.key)(hint:∀ i,i<es.size->∃ ns:List Int,JI z cs i=ns.map (.int .i64)) :
  es.toList.map (·.key)=(Zc z cs).map Qgq/\∀ k∈Zc z cs,k.length=z.kw:=by
 have hd:cs.length/(z.kw+z.vw)=es.size:=by rw[h1];exact Nat.mul_div_cancel _ (by omega)
 have at':∀ i,i<es.size->∃ ns:List Int,(Zc z cs)[i]?=some ns/\JI z cs i=ns.map (.int .i64):=fun i hi=>by
  obtain⟨ns,hn⟩:=hint i hi
  refine⟨ns,?_,hn⟩
  unfold Zc
  rw[Gj,Gw (by rw[hd];exact hi)]
  simp[hn,QcO]
 constructor
 ·refine Gr fun i=>?_
  rw[Gj,Gj,G9]
  by_cases hi:i<es.size
  ·have he:es[i]?=some es[i]:=G6 hi
   obtain⟨ns,q1,q2⟩:=at' i hi
   have:=hk i _ he
   rw[q2]at this
   rw[he,q1,Gm,Gm,this.key]
  ·rw[Array.getElem?_eq_none (by omega),Gg (by rw[y6,hd];omega)]
   rfl
 ·intro k hk
  obtain⟨i,hi⟩:=List.mem_iff_getElem?.1 hk
  have hil:=(Gb.1 hi).1
  rw[y6,hd]at hil
  obtain⟨ns,q1,q2⟩:=at' i hil
  rw[hi]at q1
  cases q1
  have:=(Qb4 h1 hil).1
  rw[q2,Gp]at this
  exact this
theorem Qd1{cs:List SV}{z:ESz}{es:Array MapEntry}(hd:cs.length/(z.kw+z.vw)=es.size)(ns:List Int):(Qb0 z cs ns=none/\((Zc z cs).findIdx? (·==ns)).bind (fun j=>(es.toList[j]?).map fun e=>(0+j,e.val))=none) ∨
  ∃ j e,Qb0 z cs ns=some j/\es[j]?=some e/\j<es.size/\((Zc z cs).findIdx? (·==ns)).bind (fun j=>(es.toList[j]?).map fun e=>(0+j,e.val))=some (j,e.val):=by
 unfold Qb0
 cases hx:(Zc z cs).findIdx? (·==ns) with
 | none=>exact .inl ⟨rfl,rfl⟩
 | some j =>
  have hj:j<es.size:=by
   have:=(List.findIdx?_eq_some_iff_findIdx_eq.1 hx).1
   rwa [y6,hd]at this
  exact .inr ⟨j,es[j],rfl,G6 hj,hj,by simp[hj]⟩
theorem s_mpL{z:ESz}{zero:List SV}{ok:Bool}{x k:AO}{o:Oper}{v:Option AV}{h':Qa}(hok:Xe P (.mpL z zero ok x k) o.op=true)(hE:ERel β E a.tmps)(R:Rep β h w)
  (hs:Ql E h (.mpL z zero ok x k)=some (v,h')):X4 β h w ((execOp a.eval o).run P w) v h':=by
 cases hop:o.op <;> rw[hop]at hok <;> simp[Xe]at hok
 rename_i t x' k' ok'
 obtain⟨⟨⟨⟨rfl,k1⟩,k2⟩,k3⟩,k4⟩:=hok
 obtain⟨kt,et,hu,hz1,hz2,hkt,hkw⟩:=VI k3
 obtain⟨zv,hzv,hzr⟩:=Qby hu k4
 simp only[Ql]at hs
 split at hs
 case h_2=>cases hs
 rename_i id hp
 split at hs
 case h_2=>cases hs
 rename_i cs e hg
 split at hs
 case isFalse=>cases hs
 rename_i he
 subst he
 simp only[Gd]at hs
 obtain⟨kv,hkv,ks,hks,ns,hns,hs⟩:=hs
 split at hs
 case isFalse=>cases hs
 rename_i hnl
 simp only[Option.some.injEq,Prod.mk.injEq]at hs
 obtain⟨rfl,rfl⟩:=hs
 have r1:=QN k1 hE hp
 have r2:=Yq k2 hE hkv
 have hkey:a.eval k'=Qgq ns:=by
  have:=yu r2 hks
  rw[J9 hns]at this
  exact this.key
 generalize hpv:a.eval x'=pv at r1
 cases r1 with
 | mapv hL hn =>
  rename_i L
  obtain⟨es,q1,q2,q3,q4,q5⟩:=qy R hg hL hn
  have hd:=J5 (L:=L) q2 q3
  obtain⟨m1,m2⟩:=QbC q2 q3 (fun i e he=>(q4 i e he).2.1) q5
  rw[hkw]at m2 hnl
  obtain⟨n,rfl⟩:∃ n,ns=[n]:=List.length_eq_one_iff.1 hnl
  have hkey':a.eval k' = .int .i64 n:=hkey
  have hf:=qc n es.toList (Zc e cs) 0 m1 m2
  have hck:=MapKept.run_checkKey (P:=P) (w:=w) hkt (k := .int .i64 n) (by simp[MapKept.IsKey]) es.isEmpty 9999
  have hfk:=MapKept.run_findKey (P:=P) (w:=w) hkt hf
  have hgo:=MapKept.run_getObj_map (P:=P) q1
  rcases Qd1 (cs:=cs) (z:=e) hd [n] with ⟨f1,f2⟩|⟨j,en,f1,f2,f3,f4⟩
  ·rw[f2]at hfk
   rw[f1]
   cases ok
   ·refine QI R (c:=zv) ?_ (hzr β).av.1
    simp[execOp,hop,hpv,hkey',Instr.lookup,Q4 hu,hgo,hck,hfk,hzv w,Result.andThen]
   ·refine QI R (c := .tuple #[zv,.bool false]) ?_ (.tup (.cons (hzr β).av.2 (.cons (.sc (.bool false)) .nil)))
    simp[execOp,hop,hpv,hkey',Instr.lookup,Q4 hu,hgo,hck,hfk,hzv w,Result.andThen]
  ·rw[f4]at hfk
   rw[f1]
   have hv:=(q4 j en f2).2.2.av
   cases ok
   ·refine QI R (c:=en.val) ?_ hv.1
    simp[execOp,hop,hpv,hkey',Instr.lookup,Q4 hu,hgo,hck,hfk,Result.andThen]
   ·refine QI R (c := .tuple #[en.val,.bool true]) ?_ (.tup (.cons hv.2 (.cons (.sc (.bool true)) .nil)))
    simp[execOp,hop,hpv,hkey',Instr.lookup,Q4 hu,hgo,hck,hfk,Result.andThen]
theorem Qd4{z:ESz}{cs r:List SV}{n i:Nat}(h1:cs.length=n*(z.kw+z.vw))(hi:i<n):JI z (cs++r) i=JI z cs i/\qD z (cs++r) i=qD z cs i:=by
 have h2:(i+1)*(z.kw+z.vw)<=n*(z.kw+z.vw):=Gz _ hi
 have h3:(i+1)*(z.kw+z.vw)=i*(z.kw+z.vw)+(z.kw+z.vw):=by rw[GZ,Nat.one_mul]
 unfold JI qD
 constructor
 ·rw[List.drop_append_of_le_length (by omega),Hs (by rw[GW];omega)]
 ·rw[List.drop_append_of_le_length (by omega),Hs (by rw[GW];omega)]
theorem Qb3{z:ESz}{cs ks vs:List SV}{n:Nat}(h1:cs.length=n*(z.kw+z.vw))(hk:ks.length=z.kw)(hv:vs.length=z.vw):JI z (cs++ks++vs) n=ks/\qD z (cs++ks++vs) n=vs:=by
 unfold JI qD
 rw[← h1]
 constructor
 ·rw[GR,List.drop_left,← hk,List.take_left]
 ·rw[← hk,show cs.length+ks.length=(cs++ks).length by simp,List.drop_left,← hv,GH]
theorem Qd3{z:ESz}{cs vs:List SV}{n i j:Nat}(h1:cs.length=n*(z.kw+z.vw))(hv:vs.length=z.vw)(hi:i<n)(hj:j<n) :
  JI z (Xf cs (j*(z.kw+z.vw)+z.kw) vs) i=JI z cs i/\qD z (Xf cs (j*(z.kw+z.vw)+z.kw) vs) i=if i=j then vs else qD z cs i:=by
 generalize hm:z.kw+z.vw=m at *
 have e:∀ a,(a+1)*m=a*m+m:=fun a=>by rw[GZ,Nat.one_mul]
 have hj2:(j+1)*m<=n*m:=Gz _ hj
 have hi2:(i+1)*m<=n*m:=Gz _ hi
 have hsp:j*m+z.kw+vs.length<=cs.length:=by have:=e j;omega
 have ord:(i+1)*m<=j*m∨i=j∨(j+1)*m<=i*m:=by
  rcases Nat.lt_trichotomy i j with h|h|h
  ·exact .inl (Gz _ h)
  ·exact .inr (.inl h)
  ·exact .inr (.inr (Gz _ h))
 have ei:=e i
 have ej:=e j
 constructor
 ·refine Gr fun k=>?_
  unfold JI
  rw[hm,GC,GC,GG,GG,Jp _ _ _ hsp]
  by_cases hk:k<z.kw
  ·rw[if_pos hk,if_pos hk]
   by_cases c1:i*m+k<j*m+z.kw
   ·rw[if_pos c1]
   ·rw[if_neg c1,if_neg ?_]
    rcases ord with h|rfl|h <;> omega
  ·rw[if_neg hk,if_neg hk]
 ·by_cases hij:i=j
  ·subst hij
   rw[if_pos rfl]
   refine Gr fun k=>?_
   unfold qD
   rw[hm,GC,GG,Jp _ _ _ hsp]
   by_cases hk:k<z.vw
   ·rw[if_pos hk,if_neg (by omega),if_pos (by omega),show i*m+z.kw+k-(i*m+z.kw)=k by omega]
   ·rw[if_neg hk,Gg (by omega)]
  ·rw[if_neg hij]
   refine Gr fun k=>?_
   unfold qD
   rw[hm,GC,GC,GG,GG,Jp _ _ _ hsp]
   by_cases hk:k<z.vw
   ·rw[if_pos hk,if_pos hk]
    rcases ord with h|h|h
    ·rw[if_pos (by omega)]
    ·exact absurd h hij
    ·rw[if_neg (by omega),if_neg (by omega)]
   ·rw[if_neg hk,if_neg hk]
theorem s_mpU{z:ESz}{x k y:AO}{o:Oper}{v:Option AV}{h':Qa}(hok:Xe P (.mpU z x k y) o.op=true)(hE:ERel β E a.tmps)(R:Rep β h w)
  (hs:Ql E h (.mpU z x k y)=some (v,h')):X4 β h w ((execOp a.eval o).run P w) v h':=by
 cases hop:o.op <;> rw[hop]at hok <;> simp[Xe]at hok
 rename_i t x' k' y'
 obtain⟨⟨⟨k1,k2⟩,k3⟩,k4⟩:=hok
 obtain⟨kt,et,hu,hz1,hz2,hkt,hkw⟩:=VI k4
 simp only[Ql]at hs
 split at hs
 case h_2=>cases hs
 rename_i id hp
 split at hs
 case h_2=>cases hs
 rename_i cs e hg
 split at hs
 case isFalse=>cases hs
 rename_i he
 subst he
 simp only[Gd]at hs
 obtain⟨kv,hkv,ks,hks,ns,hns,yv,hyv,ys,hys,hs⟩:=hs
 split at hs
 case isFalse=>cases hs
 rename_i hnl
 simp only[Option.some.injEq,Prod.mk.injEq]at hs
 obtain⟨rfl,rfl⟩:=hs
 have r1:=QN k1 hE hp
 have r2:=Yq k2 hE hkv
 have r3:=Yq k3 hE hyv
 have hkey:a.eval k'=Qgq ns:=by
  have:=yu r2 hks
  rw[J9 hns]at this
  exact this.key
 have hkr:=yu r2 hks
 have hval:=yu r3 hys
 have hksl:ks.length=e.kw:=by rw[J9 hns,Gp];exact hnl.1
 generalize hpv:a.eval x'=pv at r1
 generalize hyv':a.eval y'=yw at r3 hval
 cases r1 with
 | mapv hL hn =>
  rename_i L
  obtain⟨es,q1,q2,q3,q4,q5⟩:=qy R hg hL hn
  have hd:=J5 (L:=L) q2 q3
  obtain⟨m1,m2⟩:=QbC q2 q3 (fun i e he=>(q4 i e he).2.1) q5
  rw[hkw]at m2
  obtain⟨n,hn1⟩:∃ n,ns=[n]:=List.length_eq_one_iff.1 (hnl.1.trans hkw)
  have hkey':a.eval k' = .int .i64 n:=by rw[hkey,hn1];rfl
  have hik:MapKept.IsKey (.int .i64) (.int .i64 n):=by simp[MapKept.IsKey]
  have hf:=qc n es.toList (Zc e cs) 0 m1 m2
  have hck:=MapKept.run_checkKey (P:=P) (w:=w) hkt hik false 9999
  have hfk:=MapKept.run_findKey (P:=P) (w:=w) hkt hf
  have hgo:=MapKept.run_getObj_map (P:=P) q1
  have hset:=fun o=>MapKept.run_setObj_map (P:=P) o q1
  have hLb:L.b<w.heap.size:=(Gv.1 q1).1
  rw[hkey']at hkr
  rcases Qd1 (cs:=cs) (z:=e) hd [n] with ⟨f1,f2⟩|⟨j,en,f1,f2,f3,f4⟩
  ·rw[f2]at hfk
   rw[hn1,f1]
   have hsz:(cs++ks++ys).length=(es.size+1)*(e.kw+e.vw):=by
    rw[GK,GK,q2,hksl,hnl.2,GZ,Nat.one_mul];omega
   have hB:∀ w':World,w'.heap=w.heap.setIfInBounds L.b (.map (es.push { key := .int .i64 n,val:=yw,born:=es.size }) (es.size+1))->BMap β w' L (cs++ks++ys) e:=fun w' hw'=>by
    refine⟨es.push { key := .int .i64 n,val:=yw,born:=es.size },by rw[hw'];simp[hLb],by simpa using hsz,q3,fun i en' hi=>?_,fun i hi=>?_⟩
    ·rcases Gt i es.size with hlt|hge
     ·rw[Array.getElem?_push,if_neg (by omega)]at hi
      have:=Qd4 (r:=ks++ys) q2 hlt
      rw[← GR]at this
      rw[this.1,this.2]
      exact q4 i en' hi
     ·have:i=es.size:=by
       have:=(Gv.1 hi).1
       simp at this;omega
      subst this
      rw[Array.getElem?_push,if_pos rfl]at hi
      cases hi
      obtain⟨l1,l2⟩:=Qb3 q2 hksl hnl.2
      rw[l1,l2]
      exact⟨rfl,hkr,hval⟩
    ·rcases Gt i es.size with hlt|hge
     ·have:=Qd4 (r:=ks++ys) q2 hlt
      rw[← GR]at this
      rw[this.1]
      exact q5 i hlt
     ·have:i=es.size:=by simp at hi;omega
      subst this
      rw[(Qb3 q2 hksl hnl.2).1]
      exact⟨ns,J9 hns⟩
   obtain⟨g1,g2⟩:=QdF R hg hL hn.1 (.map (es.push { key := .int .i64 n,val:=yw,born:=es.size }) (es.size+1)) (cs++ks++ys) fun w' hw' => .inl ⟨hz2,hB w' hw'⟩
   refine⟨β,_,g1,g2,?_⟩
   simp[execOp,hop,hpv,hkey',hyv',Instr.mapUpdate,Q4 hu,hgo,hck,hfk,hset,Result.andThen]
  ·rw[f4]at hfk
   rw[hn1,f1]
   have hk3:en.key = .int .i64 n:=by
    have h1:=List.findIdx?_eq_some_iff_findIdx_eq.1 (show (Zc e cs).findIdx? (·==[n])=some j from f1)
    have h2:(Zc e cs)[j]?=some [n]:=by
     have hjl:j<(Zc e cs).length:=h1.1
     have h3:=List.findIdx_getElem (xs:=Zc e cs) (p:=(·==[n])) (w:=by rw[h1.2];exact hjl)
     simp only[h1.2]at h3
     rw[Gc hjl]
     simpa using h3
    have h3:=congrArg (fun l=>l[j]?) m1
    simp only[Gj,G9,f2,h2,Gm,Option.some.injEq]at h3
    exact h3
   have hB:∀ w':World,w'.heap=w.heap.setIfInBounds L.b (.map (es.modify j fun e=>{ e with key := .int .i64 n,val:=yw }) es.size)->BMap β w' L (Xf cs (j*(e.kw+e.vw)+e.kw) ys) e:=fun w' hw'=>by
    refine⟨es.modify j fun e=>{ e with key := .int .i64 n,val:=yw },by rw[hw'];simp[hLb],?_,q3,fun i en' hi=>?_,fun i hi=>?_⟩
    ·have h2:(j+1)*(e.kw+e.vw)<=es.size*(e.kw+e.vw):=Gz _ f3
     have h3:(j+1)*(e.kw+e.vw)=j*(e.kw+e.vw)+(e.kw+e.vw):=by rw[GZ,Nat.one_mul]
     rw[Jo _ _ _ (by rw[q2,hnl.2];omega)];simpa using q2
    ·rw[Array.getElem?_modify]at hi
     have hil:i<es.size:=by
      split at hi
      ·rename_i e';subst e';exact f3
      ·exact(Gv.1 hi).1
     obtain⟨l1,l2⟩:=Qd3 (cs:=cs) (vs:=ys) q2 hnl.2 hil f3
     rw[l1,l2]
     split at hi
     ·rename_i e'
      subst e'
      rw[f2]at hi
      simp at hi
      subst hi
      rw[if_pos rfl]
      refine⟨(q4 j en f2).1,?_,hval⟩
      have:=(q4 j en f2).2.1
      rwa [hk3]at this
     ·rename_i e'
      rw[if_neg (Ne.symm e')]
      exact q4 i en' hi
    ·have hil:i<es.size:=by simpa using hi
     rw[(Qd3 (cs:=cs) (vs:=ys) q2 hnl.2 hil f3).1]
     exact q5 i hil
   obtain⟨g1,g2⟩:=QdF R hg hL hn.1 (.map (es.modify j fun e=>{ e with key := .int .i64 n,val:=yw }) es.size) (Xf cs (j*(e.kw+e.vw)+e.kw) ys) fun w' hw' => .inl ⟨hz2,hB w' hw'⟩
   refine⟨β,_,g1,g2,?_⟩
   simp[execOp,hop,hpv,hkey',hyv',Instr.mapUpdate,Q4 hu,hgo,hck,hfk,hset,f2,hk3,MapKept.run_keyThatStays hik,Result.andThen]
theorem s_mpR{x:AO}{o:Oper}{v:Option AV}{h':Qa}(hok:Xe P (.mpR x) o.op=true)(hE:ERel β E a.tmps)(R:Rep β h w)(hf:fresh β h h')
  (hs:Ql E h (.mpR x)=some (v,h')):X4 β h w ((execOp a.eval o).run P w) v h':=by
 cases hop:o.op <;> rw[hop]at hok <;> simp[Xe]at hok
 rename_i t x'
 obtain⟨k1,k2⟩:=hok
 obtain⟨kt,et,hu⟩:∃ kt et,P.underlying t=some (.map kt et):=by
  unfold QdQ at k2
  split at k2
  ·exact⟨_,_,by assumption⟩
  ·cases k2
 simp only[Ql]at hs
 split at hs
 case h_2=>cases hs
 rename_i id hp
 split at hs
 case h_2=>cases hs
 rename_i cs z hg
 simp only[Option.some.injEq,Prod.mk.injEq]at hs
 obtain⟨rfl,rfl⟩:=hs
 have r1:=QN k1 hE hp
 generalize hpv:a.eval x'=pv at r1
 cases r1 with
 | mapv hL hn =>
  rename_i L
  obtain⟨es,q1,q2,q3,q4,q5⟩:=qy R hg hL hn
  have hd:=J5 (L:=L) q2 q3
  rw[hd]at hf ⊢
  obtain⟨g1,g2⟩:=QdG R hf.one (.mapIter (some L.b) es.size #[] es.size) [.mapv id,.int .i64 (es.size:Nat)] ⟨2000000,none⟩ (by decide) (fun β' w' hb hw => .inr ⟨Ge _,id,L,es.size,es.size,[],rfl,hn,hb _ _ hL,by rw[hw];exact Go.heap_alloc_new w _,rfl⟩)
  refine⟨_,_,g1,g2,.pointer (some ⟨w.heap.size,0,none⟩),?_,.sc ?_⟩
  ·simp[execOp,hop,hpv,Instr.range,Q4 hu,MapKept.run_getObj_map (P:=P) q1,Result.andThen]
  ·exact SRel.itv (Q3 β h.length (⟨w.heap.size,0,0,⟨2000000,none⟩⟩:Loc)) (Ge _)
theorem s_mpN{x:AO}{o:Oper}{v:Option AV}{h':Qa}(hok:Xe P (.mpN x) o.op=true)(hE:ERel β E a.tmps)(R:Rep β h w)
  (hs:Ql E h (.mpN x)=some (v,h')):X4 β h w ((execOp a.eval o).run P w) v h':=by
 cases hop:o.op <;> rw[hop]at hok
 case call c =>
  simp only[Xe]at hok
  split at hok
  ·rename_i x' t hc ha ht
   simp only[Bool.and_eq_true]at hok
   obtain⟨k1,k2⟩:=hok
   obtain⟨kt,et,hu⟩:∃ kt et,P.underlying t=some (.map kt et):=by
    unfold QdQ at k2
    split at k2
    ·exact⟨_,_,by assumption⟩
    ·cases k2
   have ha':c.args=#[x']:=by rw[← ha]
   have ht':c.argTypes=#[t]:=by rw[← ht]
   simp only[Ql]at hs
   split at hs
   case h_2=>cases hs
   rename_i id hp
   split at hs
   case h_2=>cases hs
   rename_i cs rw' z hg
   simp only[Option.some.injEq,Prod.mk.injEq]at hs
   obtain⟨rfl,rfl⟩:=hs
   have r1:=QN k1 hE hp
   generalize hpv:a.eval x'=pv at r1
   cases r1 with
   | mapv hL hn =>
    rename_i L
    obtain⟨es,q1,q2,q3,q4,q5⟩:=qy R hg hL hn
    have hd:=J5 (L:=L) q2 q3
    rw[hd]
    refine QI R (c := .int .i64 (es.size:Nat)) ?_ (.sc (.int _ _))
    simp[execOp,hop,hc,ha',ht',hpv,resolve,invoke,builtin,Builtin.len_,Q4 hu,MapKept.run_getObj_map (P:=P) q1,Result.andThen]
    rfl
  ·cases hok
 all_goals simp[Xe]at hok
theorem s_mpT{x:AO}{o:Oper}{v:Option AV}{h':Qa}(hok:Xe P (.mpT x) o.op=true)(hE:ERel β E a.tmps)(R:Rep β h w)
  (hs:Ql E h (.mpT x)=some (v,h')):X4 β h w ((execOp a.eval o).run P w) v h':=by
 cases hop:o.op <;> rw[hop]at hok <;> simp[Xe]at hok
 rename_i x'
 simp only[Ql]at hs
 split at hs
 case h_2=>cases hs
 rename_i it hp
 split at hs
 case h_2=>cases hs
 rename_i m n seen _ _ hg
 split at hs
 case h_2=>cases hs
 rename_i i hlast
 split at hs
 case h_2=>cases hs
 rename_i cs _ z hgm
 split at hs
 case isFalse=>cases hs
 rename_i hc
 simp only[Option.some.injEq,Prod.mk.injEq]at hs
 obtain⟨rfl,rfl⟩:=hs
 have r1:=QN hok hE hp
 generalize hpv:a.eval x'=pv at r1
 cases r1 with
 | itv hL hn =>
  rename_i L
  obtain⟨m',M,n',last,sn,e1,e2,e3,e4,e5⟩:=QgB R hg hL hn
  simp only[List.cons.injEq,SV.mapv.injEq,SV.int.injEq]at e1
  obtain⟨rfl,⟨-,rfl⟩,rfl⟩:=e1
  subst e5
  ·obtain⟨es,q1,q2,q3,q4,q5⟩:=qy R hgm e3 e2
   have hd:=J5 (L:=M) q2 q3
   rw[hd]at hc
   obtain⟨c1,c2,c3⟩:=hc
   have hne:last=es.size:=by omega
   subst hne
   have hsn:sn.getLast?=some i.toNat:=by
    unfold Qjn at hlast
    rw[List.getLast?_map]at hlast
    cases hx:sn.getLast? with
    | none=>rw[hx]at hlast;cases hlast
    | some y =>
     rw[hx]at hlast
     simp only[Gm,Option.some.injEq,SV.int.injEq,true_and]at hlast
     rw[← hlast];simp
   have hback:sn.toArray.back?=some i.toNat:=by rw[← hsn];simp[List.back?_toArray]
   obtain⟨en,hen⟩:∃ en,es[i.toNat]?=some en:=⟨_,G6 c3⟩
   have hfind:es.find? (fun e=>e.born==i.toNat)=some en:=by
    rw[← Array.find?_toList,List.find?_eq_some_iff_getElem]
    refine⟨by simp[(q4 _ _ hen).1],i.toNat,by simpa using c3,?_,fun j hj=>?_⟩
    ·have:=(Gv.1 hen).2
     simpa using this
    ·have hjl:j<es.size:=by omega
     have:=(q4 j es[j] (G6 hjl)).1
     simp[this];omega
   have hgi:(getObj L.b).run P w = .ok (.mapIter (some M.b) es.size sn.toArray es.size) w:=by simp[getObj,Sem.run,e4]
   have hv:=(q4 _ _ hen).2
   refine QI R (c := .tuple #[en.key,en.val]) ?_ (.tup (.cons hv.1.av.2 (.cons hv.2.av.2 .nil)))
   simp[execOp,hop,hpv,Instr.entry,hgi,hback,MapKept.run_getObj_map (P:=P) q1,hfind,Result.andThen]
end Go.Ab
namespace Go.Ab
set_option linter.all false
variable [Base]
variable {P:Program} {β:Bt} {E:Env} {h:Qa} {w:World} {a:Act}
theorem Qbb{k:AK}{o:Oper}{v:Option AV}{h':Qa}(hok:Xe P k o.op=true)(hE:ERel β E a.tmps)(R:Rep β h w)(hf:fresh β h h')
  (hs:Ql E h k=some (v,h')):X4 β h w ((execOp a.eval o).run P w) v h':=by
 cases k with
 | mv x=>exact s_mv hok hE R hs
 | pick c x y=>exact QkA hok hE R hs
 | bin op x y=>exact s_bin hok hE R hs
 | beq neg x y=>exact s_beq hok hE R hs
 | isnil kd neg x=>exact Qh1 hok hE R hs
 | un op x=>exact s_un hok hE R hs
 | conv k x=>exact QkI hok hE R hs
 | len str x=>exact s_len hok hE R hs
 | mm mx x ys=>exact s_mm hok hE R hs
 | idxA esz x i=>exact QkG hok hE R hs
 | idxP n esz x i=>exact QkE hok hE R hs
 | idxS x i=>exact QkD hok hE R hs
 | idxG n esz agg x i=>exact QkF hok hE R hs
 | fldA off x=>exact QkH hok hE R hs
 | fld off size agg x=>exact s_fld hok hE R hs
 | ld n agg x=>exact s_ld hok hE R hs
 | st n y x=>exact s_st hok hE R hs
 | new zero=>exact s_new hok hE R hf hs
 | box x=>exact s_box hok hE R hf hs
 | bld zero parts=>exact s_bld hok hE R hs
 | bsl esz zero len parts=>exact s_bsl hok hE R hf hs
 | mk esz bytes zero l c=>exact s_mk hok hE R hf hs
 | sl esz x lo hi=>exact s_sl hok hE R hs
 | slS x lo hi=>exact s_slS hok hE R hs
 | app esz bytes zero x y=>exact s_app hok hE R hf hs
 | newT t zero=>exact QkC hok hE R hf hs
 | aeq neg n x y=>exact s_aeq hok hE R hs
 | peq neg x y=>exact s_peq hok hE R hs
 | sl1 x lo hi=>exact s_sl1 hok hE R hs
 | usd x=>exact s_usd hok hE R hs
 | ustr t x n=>exact Qky hok hE R hs
 | cvb x=>exact s_cvb hok hE R hf hs
 | cbs x=>exact s_cbs hok hE R hs
 | veq neg x y=>exact s_veq hok hE R hs
 | seq2 neg x y=>exact Qkz hok hE R hs
 | car sb x y c=>exact s_car hok hE R hs
 | cpy esz x y=>exact s_cpy hok hE R hs
 | mpM z=>exact s_mpM hok hE R hf hs
 | mpL z zero ok x k=>exact s_mpL hok hE R hs
 | mpU z x k v=>exact s_mpU hok hE R hs
 | mpR x=>exact s_mpR hok hE R hf hs
 | mpT x=>exact s_mpT hok hE R hs
 | mpN x=>exact s_mpN hok hE R hs
 | mpX x=>simp[Ql]at hs
 | bad=>simp[Ql]at hs
 | call f args=>simp[Ql]at hs
 | callv x args=>simp[Ql]at hs
 | ext x i=>exact s_ext hok hE R hs
 | mkf f caps=>exact s_mkf hok hE R hs
 | nilc x=>exact QkB hok hE R hs
theorem qL{h h':Qa}{id off:Nat}{vs:List SV}(hw:Xz h id off vs=some h'):h'.length=h.length:=by
 unfold Xz at hw
 split at hw
 ·split at hw
  ·simp at hw;subst hw;simp
  ·simp at hw
 ·simp at hw
theorem Qhw{h h':Qa}{esz:ESz}{bytes m:Nat}{s s':SV}{vs:List SV}(hs:ZG h esz bytes s m vs=some (s',h')):h.length<=h'.length:=by
 unfold ZG at hs
 split at hs
 ·split at hs
  ·simp at hs;rw[← hs.2];exact Ge _
  ·split at hs
   ·simp at hs;rw[← hs.2];simp
   ·simp at hs
 ·split at hs
  ·simp at hs;rw[← hs.2];exact Ge _
  ·split at hs
   ·split at hs
    ·split at hs
     ·split at hs
      ·split at hs
       ·split at hs
        ·simp at hs;rw[← hs.2];simp
        ·simp only[Ga,Prod.mk.injEq]at hs
         obtain⟨h1,hw,_,rfl⟩:=hs
         exact Nat.le_of_eq (qL hw).symm
       ·split at hs
        ·simp at hs;rw[← hs.2];simp
        ·simp at hs
      ·simp at hs
     ·simp at hs
    ·simp at hs
   ·simp at hs
 ·simp at hs
theorem Qet{k:AK}{v:Option AV}{h':Qa}(hs:Ql E h k=some (v,h')):h.length<=h'.length:=by
 cases k <;> simp only[Ql,Gd,Ga,Prod.mk.injEq]at hs
 case st n y x =>
  split at hs
  ·simp only[Gd]at hs
   obtain⟨u,hu,vs,hvs,hs⟩:=hs
   split at hs
   ·simp only[Ga,Prod.mk.injEq]at hs
    obtain⟨h1,hw,_,rfl⟩:=hs
    exact Nat.le_of_eq (qL hw).symm
   ·simp at hs
  ·simp at hs
 case app esz bytes zero x y =>
  obtain⟨s,hps,t',hpt,p,hsrc,r,happ,rfl,rfl⟩:=hs
  exact Qhw happ
 case new zero=>simp at hs;rw[← hs.2];simp
 case newT t zero=>simp at hs;rw[← hs.2];simp
 case mpX x=>simp at hs
 case bad=>simp at hs
 case mpM z =>
  split at hs
  ·simp only[Option.some.injEq,Prod.mk.injEq]at hs;rw[← hs.2];simp
  ·simp at hs
 case mpL z zero ok x k =>
  split at hs
  ·split at hs
   ·split at hs
    ·simp only[Gd]at hs
     obtain⟨_,_,_,_,_,_,hs⟩:=hs
     split at hs
     ·simp only[Option.some.injEq,Prod.mk.injEq]at hs;rw[← hs.2];exact Ge _
     ·simp at hs
    ·simp at hs
   ·simp at hs
  ·simp at hs
 case mpU z x k y =>
  split at hs
  ·split at hs
   ·split at hs
    ·simp only[Gd]at hs
     obtain⟨_,_,_,_,_,_,_,_,_,_,hs⟩:=hs
     split at hs
     ·simp only[Option.some.injEq,Prod.mk.injEq]at hs;rw[← hs.2,Hb];exact Ge _
     ·simp at hs
    ·simp at hs
   ·simp at hs
  ·simp at hs
 case mpR x =>
  split at hs
  ·split at hs
   ·simp only[Option.some.injEq,Prod.mk.injEq]at hs;rw[← hs.2];simp
   ·simp at hs
  ·simp at hs
 case mpT x =>
  split at hs
  ·split at hs
   ·split at hs
    ·split at hs
     ·split at hs
      ·simp only[Option.some.injEq,Prod.mk.injEq]at hs;rw[← hs.2];exact Ge _
      ·simp at hs
     ·simp at hs
    ·simp at hs
   ·simp at hs
  ·simp at hs
 case mpN x =>
  split at hs
  ·split at hs
   ·simp only[Option.some.injEq,Prod.mk.injEq]at hs;rw[← hs.2];exact Ge _
   ·simp at hs
  ·simp at hs
 case cvb x =>
  split at hs
  ·simp only[Option.some.injEq,Prod.mk.injEq]at hs;rw[← hs.2];simp
  ·simp at hs
 case cpy esz x y =>
  split at hs
  ·split at hs
   ·simp only[Gd,Ga,Prod.mk.injEq]at hs
    obtain⟨_,_,h1,hw,_,rfl⟩:=hs
    exact Nat.le_of_eq (qL hw).symm
   ·simp at hs
  ·simp at hs
 case cbs x =>
  split at hs
  ·split at hs
   ·simp only[Gd,Ga,Prod.mk.injEq]at hs
    obtain⟨_,_,_,_,_,rfl⟩:=hs;exact Ge _
   ·simp at hs
  ·simp at hs
 case usd x =>
  split at hs
  ·split at hs
   ·simp only[Option.some.injEq,Prod.mk.injEq]at hs;rw[hs.2];exact Ge _
   ·simp at hs
  ·simp only[Option.some.injEq,Prod.mk.injEq]at hs;rw[hs.2];exact Ge _
  ·simp at hs
 case ustr t x n =>
  split at hs
  ·split at hs
   ·split at hs
    ·simp only[Gd,Ga,Prod.mk.injEq]at hs
     obtain⟨_,_,_,_,_,rfl⟩:=hs;simp
    ·simp at hs
   ·simp at hs
  ·split at hs
   ·simp only[Option.some.injEq,Prod.mk.injEq]at hs;rw[hs.2];exact Ge _
   ·simp at hs
  ·simp at hs
 case aeq neg n x y =>
  split at hs
  ·split at hs
   ·simp only[Ga,Prod.mk.injEq]at hs
    obtain⟨_,_,_,rfl⟩:=hs;exact Ge _
   ·simp at hs
  ·simp at hs
 case box x =>
  obtain⟨u,hu,cs,hc,rfl,rfl⟩:=hs;simp
 case bsl esz zero len parts =>
  split at hs
  ·simp only[Gd,Ga,Prod.mk.injEq]at hs
   obtain⟨ps,hps,cs,hfill,rfl,rfl⟩:=hs;simp
  ·simp at hs
 case mk esz bytes zero l c =>
  split at hs
  ·split at hs
   ·simp at hs;rw[← hs.2];simp
   ·simp at hs
  ·simp at hs
 case call=>simp at hs
 case callv=>simp at hs
 case pick c x y =>
  split at hs
  ·split at hs
   ·simp only[Ga,Prod.mk.injEq]at hs
    obtain⟨_,_,_,rfl⟩:=hs;exact Ge _
   ·simp only[Ga,Prod.mk.injEq]at hs
    obtain⟨_,_,_,rfl⟩:=hs;exact Ge _
  ·simp at hs
 case idxS x i =>
  split at hs
  ·split at hs
   ·simp only[Ga,Prod.mk.injEq]at hs
    obtain⟨_,_,_,rfl⟩:=hs;exact Ge _
   ·simp at hs
  ·simp at hs
 case idxG n esz agg x i =>
  split at hs
  ·split at hs
   ·simp only[Gd,Ga,Prod.mk.injEq]at hs
    obtain⟨_,_,_,_,_,rfl⟩:=hs;exact Ge _
   ·simp at hs
  ·simp at hs
 case fld off size agg x =>
  split at hs
  ·simp only[Gd,Ga,Prod.mk.injEq]at hs
   obtain⟨_,_,_,_,_,rfl⟩:=hs;exact Ge _
  ·simp at hs
 case ld n agg x =>
  split at hs
  ·simp only[Gd,Ga,Prod.mk.injEq]at hs
   obtain⟨_,_,_,_,_,rfl⟩:=hs;exact Ge _
  ·simp at hs
 case fldA off x =>
  split at hs
  ·simp only[Option.some.injEq,Prod.mk.injEq]at hs;rw[hs.2];exact Ge _
  ·simp at hs
 case nilc x =>
  split at hs
  ·simp only[Option.some.injEq,Prod.mk.injEq]at hs;rw[hs.2];exact Ge _
  ·simp only[Option.some.injEq,Prod.mk.injEq]at hs;rw[hs.2];exact Ge _
  ·simp at hs
 case slS x lo hi =>
  split at hs
  ·simp only[Gd]at hs
   obtain⟨l,hl,u,hu',hs⟩:=hs
   split at hs
   ·simp only[Option.some.injEq,Prod.mk.injEq]at hs;rw[hs.2];exact Ge _
   ·simp at hs
  ·simp at hs
 all_goals apply Nat.le_of_eq
 all_goals first
  | (obtain⟨u,_,_,rfl⟩:=hs;rfl)
  | (obtain⟨u,_,v,_,_,rfl⟩:=hs;rfl)
  | (obtain⟨u,_,v,_,x,_,_,rfl⟩:=hs;rfl)
  | (obtain⟨u,_,v,_,x,_,y,_,_,rfl⟩:=hs;rfl)
  | (obtain⟨u,_,v,_,x,_,y,_,z,_,_,rfl⟩:=hs;rfl)
  | (split at hs <;> first|(simp at hs;done)|(simp at hs;rw[hs.2];done)|(simp at hs;obtain⟨_,_,_,rfl⟩:=hs;rfl)|skip)
structure CallOK(P:Program)(cf:CF):Prop where
 len:∀ f args h v h',cf f args h=some (v,h')->h.length<=h'.length
 fn:∀ f args h r,cf f args h=some r->U1 P f=true
 run:∀ f args h v h',cf f args h=some (v,h')->∀ β w vs,F2 (ARel β) args vs->Rep β h w->fresh β h h' ->
  Calls P f vs.toArray w fun e w'=>∃ β' c,e = .returned c/\ARel β' v c/\Stp β h w β' h' w'/\Rep β' h' w'
theorem yK{f:FuncId}(hf:U1 P f=true)(args:Array Value)(w:World):(callFunc f args).run P w = .ok (.enter f args) w:=by
 unfold U1 at hf
 split at hf
 ·rename_i fn hfn
  simp at hf
  obtain⟨h1,h2⟩:=hf
  simp[callFunc,hfn,h2]
  intro hb
  simp[hb]at h1
 ·simp at hf
theorem QeN{cf:CF}(CO:CallOK P cf){k:AK}{v:Option AV}{h':Qa}(hs:QX cf E h k=some (v,h')):h.length<=h'.length:=by
 unfold QX at hs
 split at hs
 ·simp only[Gd,Ga,Prod.mk.injEq]at hs
  obtain⟨vs,_,⟨r,h1⟩,hr,_,rfl⟩:=hs
  exact CO.len _ _ _ _ _ hr
 ·split at hs
  ·simp only[Gd,Ga,Prod.mk.injEq]at hs
   obtain⟨vs,_,⟨r,h1⟩,hr,_,rfl⟩:=hs
   exact CO.len _ _ _ _ _ hr
  ·simp at hs
 ·exact Qet hs
theorem Qi2{caps:List (Nat×Nat)}{vs:List Value}(h:F2 (CapR β) caps vs):F2 (ARel β) (caps.map fun p=>AV.sc (.ptr p.1 p.2)) vs:=by
 induction h with
 | nil=>exact .nil
 | cons a _ ih =>
  obtain⟨L,h1,hn,rfl⟩:=a
  exact .cons (.sc (.ptr h1 hn)) ih
theorem UP{cf:CF}(CO:CallOK P cf){k:AK}{o:Oper}{v:Option AV}{h':Qa}(hok:Xe P k o.op=true)(hE:ERel β E a.tmps)(R:Rep β h w)(hf:fresh β h h')
  (hs:QX cf E h k=some (v,h')) {K:Act->World->Prop} {Q:Exit->Act->World->Prop}
  (hK:∀ β' w' c,Stp β h w β' h' w'->Rep β' h' w'->(∀ u,v=some u->ARel β' u c)->K (a.put o.dst c) w'):o.wp P a w K Q:=by
 have call:∀(f:FuncId) (args:List AV) (vs:List Value),(execOp a.eval o).run P w = .ok (.enter f vs.toArray) w->F2 (ARel β) args vs ->
   (∃ r,cf f args h=some (r,h')/\v=some r)->o.wp P a w K Q:=by
  intro f args vs hrun hr ⟨r,hc,hv⟩
  unfold Oper.wp
  rw[hrun,Oper.upon_enter]
  refine(CO.run f args h r h' hc β w vs hr R hf).mono ?_
  rintro e w' ⟨β',c,rfl,h1,h2,h3⟩
  exact hK β' w' c h2 h3 (fun u hu=>by rw[hv]at hu;simp at hu;subst hu;exact h1)
 cases hk:k
 case call f args =>
  subst hk
  simp only[QX,Gd,Ga,Prod.mk.injEq]at hs
  obtain⟨vs,hvs,⟨r,h1⟩,hr,rfl,rfl⟩:=hs
  cases hop:o.op <;> rw[hop]at hok <;> simp only[Xe,Bool.false_eq_true]at hok
  rename_i c
  obtain⟨callee,args',argTypes⟩:=c
  split at hok
  ·rename_i g hc
   simp only at hc
   subst hc
   simp at hok
   obtain⟨⟨rfl,k2⟩,k3⟩:=hok
   have hr':=QaM hE k2 hvs
   refine call f vs _ ?_ hr' ⟨r,hr,rfl⟩
   simp[execOp,hop,resolve,Act.eval,Deferred.ofValue,invoke,yK k3]
   have:(args'.map a.eval)=(List.map a.eval args'.toList).toArray:=by
    apply Array.ext';simp
   exact this
  ·simp at hok
 case callv x args =>
  subst hk
  simp only[QX]at hs
  split at hs
  ·rename_i f caps hx
   simp only[Gd,Ga,Prod.mk.injEq]at hs
   obtain⟨vs,hvs,⟨r,h1⟩,hr,rfl,rfl⟩:=hs
   cases hop:o.op <;> rw[hop]at hok <;> simp only[Xe,Bool.false_eq_true]at hok
   rename_i c
   obtain⟨callee,args',argTypes⟩:=c
   split at hok
   ·rename_i x' hc
    simp only at hc
    subst hc
    simp at hok
    obtain⟨k1,k2⟩:=hok
    have hr':=QaM hE k2 hvs
    have r1:=QN k1 hE hx
    generalize hpv:a.eval x'=pv at r1
    cases r1 with
    | fn hcaps =>
     rename_i cvs
     have hfn:=CO.fn _ _ _ _ hr
     refine call f _ (List.map a.eval args'.toList++cvs) ?_ (hr'.append (Qi2 hcaps)) ⟨r,hr,rfl⟩
     simp[execOp,hop,resolve,hpv,Deferred.ofValue,invoke,yK hfn]
   ·simp at hok
  ·simp at hs
 all_goals
  have hs':Ql E h k=some (v,h'):=by rw[hk]at hs ⊢;exact hs
  obtain⟨β',w',h1,h2,h3⟩:=Qbb hok hE R hf hs'
  unfold Oper.wp
  cases v with
  | some u =>
   obtain⟨c,h4,h5⟩:=h3
   rw[h4,Oper.upon_value]
   exact hK β' w' c h1 h2 (fun u' hu=>by simp at hu;subst hu;exact h5)
  | none =>
   rw[h3,Oper.upon_skip]
   exact hK β' w' undef h1 h2 (fun u' hu=>by simp at hu)
