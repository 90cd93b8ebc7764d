import Derived.Test.YtofknpknogfijaaGreatDoorAb25
/- Slices of one's own: append of any slice;parts of slices;regions that draw their order. -/
namespace Go.Ab
set_option linter.unusedVariables false
def XT (s:SV) (j:Nat):Prop:=∀ o n c,s≠.slc j o n c
def Fram (h h':Qa) (s s':SV):Prop:=∀ (j:Nat) (b:Blk),h[j]?=some b→XT s j→h'[j]?=some b∧XT s' j
theorem Qgt {h0 h:Qa} {s:SV} {vs ws:List SV} {bytes:Nat} (he:Ext h0 h) (ho:Own h0 h s vs) (hb:(vs.length+ws.length)*(bytes+1)≤YV) :
    ∃ s' h',Jx h 1 bytes s ws.length ws=some (s',h')∧Own h0 h' s' (vs++ws)∧Ext h0 h'∧h.length≤h'.length∧Fram h h' s s':=by
  have hl:=he.len
  rcases ho with ⟨rfl,rfl⟩ | ⟨id,cap,cs,rfl,h1,h2,h3,h4⟩
  · by_cases hm:ws.length=0
    · have:ws=[]:=List.eq_nil_of_length_eq_zero hm
      subst this
      exact ⟨.nilS,h,rfl,.inl ⟨rfl,rfl⟩,he,Nat.le_refl _,fun j b hj hn=>⟨hj,fun o n c hc=>by cases hc⟩⟩
    · refine ⟨.slc h.length 0 ws.length none,h++[.cells ws true 1],?_,?_,he.app _,by simp,?_⟩
      · simp only [Jx]
        rw [if_neg hm,if_pos (by simpa using hb)]
      · exact .inr ⟨h.length,none,ws,by simp,hl,by simp,by simp,by simp [Qdh]⟩
      · intro j b hj hn
        have hjl:=(List.getElem?_eq_some_iff.1 hj).1
        exact ⟨Zg j b hj,fun o n c hc=>by cases hc;omega⟩
  · have hid:id < h.length:=(List.getElem?_eq_some_iff.1 h2).1
    have hlen:vs.length≤cs.length:=by
      have:=congrArg List.length h3
      simp at this
      omega
    by_cases hm:ws.length=0
    · have:ws=[]:=List.eq_nil_of_length_eq_zero hm
      subst this
      refine ⟨.slc id 0 vs.length cap,h,rfl,.inr ⟨id,cap,cs,by simp,h1,h2,by simpa using h3,by simpa using h4⟩,he,Nat.le_refl _,fun j b hj hn=>⟨hj,hn⟩⟩
    have hcut:cut cs 0 (vs.length*1)=some vs:=by
      unfold cut
      rw [if_pos (by omega)]
      simp [h3]
    have fresh:∀ (j:Nat) (b:Blk),h[j]?=some b→∀ k,XT (SV.slc h.length 0 k none) j:=by
      intro j b hj k o n c hc
      have:=(List.getElem?_eq_some_iff.1 hj).1
      cases hc;omega
    cases cap with
    | none =>
      refine ⟨.slc h.length 0 (vs.length+ws.length) none,h.set id (.dead 1)++[.cells (vs++ws) true 1],?_,?_,(he.set h1 _).app _,by simp,?_⟩
      · simp only [Jx]
        rw [if_neg hm,if_pos hb,h2]
        simp only [if_true,ESz.one_n,hcut,ESz.one_ty]
        rw [if_pos (by simp)]
      · refine .inr ⟨h.length,none,vs++ws,by simp,hl,?_,List.take_length,by simp [Qdh]⟩
        rw [List.getElem?_append_right (by simp)];simp
      · intro j b hj hn
        have hne:id≠j:=fun e=>by subst e;exact hn _ _ _ rfl
        refine ⟨Zg j b ?_,fresh j b hj _⟩
        rw [List.getElem?_set_ne hne];exact hj
    | some c =>
      obtain ⟨h5,h6⟩:=h4
      by_cases hc:c < vs.length+ws.length
      · refine ⟨.slc h.length 0 (vs.length+ws.length) none,h++[.cells (vs++ws) true 1],?_,?_,he.app _,by simp,?_⟩
        · simp only [Jx]
          rw [if_neg hm,if_pos hb,h2]
          simp only [if_true,ESz.one_n,hcut]
          rw [if_pos hc]
        · refine .inr ⟨h.length,none,vs++ws,by simp,hl,?_,List.take_length,by simp [Qdh]⟩
          rw [List.getElem?_append_right (Nat.le_refl _)];simp
        · exact fun j b hj hn=>⟨Zg j b hj,fresh j b hj _⟩
      · have hsp:Xe cs (0+vs.length*1) ws=vs++ws++cs.drop (vs.length+ws.length):=by
          unfold Xe
          simp [h3]
        refine ⟨.slc id 0 (vs.length+ws.length) (some c),h.set id (.cells (Xe cs (0+vs.length*1) ws) true 1),?_,?_,he.set h1 _,by simp,?_⟩
        · simp only [Jx]
          rw [if_neg hm,if_pos hb,h2]
          simp only [if_true,ESz.one_n,hcut]
          rw [if_neg hc]
          simp only [XB,h2]
          rw [if_pos (by omega)];rfl
        · refine .inr ⟨id,some c,Xe cs (0+vs.length*1) ws,by simp,h1,?_,?_,?_,by simp;omega⟩
          · rw [List.getElem?_set_self hid]
          · rw [hsp,show (vs++ws).length=(vs++ws).length from rfl];exact List.take_left
          · rw [hsp];simp;omega
        · intro j b hj hn
          have hne:id≠j:=fun e=>by subst e;exact hn _ _ _ rfl
          refine ⟨?_,fun o n c' e=>hn _ _ _ (by cases e;rfl)⟩
          rw [List.getElem?_set_ne hne];exact hj
theorem IsSl.keep {h h':Qa} {t:SV} {e:ESz} {n:Nat} {ws:List SV} (ht:IsSl h t e n ws) (hk:∀ (j:Nat) (b:Blk),h[j]?=some b→¬ XT t j→h'[j]?=some b):IsSl h' t e n ws:=by
  rcases ht with hs | ⟨id,off,cap,b,rfl,h1,h2⟩
  · exact .inl hs
  · exact .inr ⟨id,off,cap,b,rfl,hk id b h1 (fun hn=>hn _ _ _ rfl),h2⟩
def Apart (s t:SV):Prop:=∀ j,XT s j∨XT t j
theorem Apart.symm {s t:SV} (h:Apart s t):Apart t s:=fun j=>(h j).symm
theorem IsSl.away {h h':Qa} {s s' t:SV} {e:ESz} {n:Nat} {ws:List SV} (ht:IsSl h t e n ws) (hf:Fram h h' s s') (ha:Apart s t):IsSl h' t e n ws :=
  ht.keep fun j b hj hn=>(hf j b hj ((ha j).resolve_right hn)).1
theorem Fram.apart {h h':Qa} {s s' t:SV} {e:ESz} {n:Nat} {ws:List SV} (hf:Fram h h' s s') (ht:IsSl h t e n ws) (ha:Apart s t):Apart s' t:=by
  intro j
  rcases ht with ⟨rfl,-⟩ | ⟨id,off,cap,b,rfl,h1,-⟩
  · exact .inr fun o n c hc=>by cases hc
  · by_cases hj:j=id
    · subst hj
      rcases ha j with h2 | h2
      · exact .inl (hf j b h1 h2).2
      · exact absurd rfl (h2 _ _ _)
    · exact .inr fun o n c hc=>hj (by cases hc;rfl)
theorem IsSl.ext {h h':Qa} {t:SV} {e:ESz} {n:Nat} {ws:List SV} (ht:IsSl h t e n ws) (he:Ext h h'):IsSl h' t e n ws:=IsSl.mono ht he.get
theorem Own.weaken {h0 h1 h:Qa} {s:SV} {vs:List SV} (hs:Own h1 h s vs) (hl:h0.length≤h1.length):Own h0 h s vs:=by
  rcases hs with hs | ⟨id,cap,cs,rfl,h1,h2,h3⟩
  · exact .inl hs
  · exact .inr ⟨id,cap,cs,rfl,by omega,h2,h3⟩
theorem Own.ext {h0 h h':Qa} {s:SV} {vs:List SV} (hs:Own h0 h s vs) (he:Ext h h'):Own h0 h' s vs:=by
  rcases hs with hs | ⟨id,cap,cs,rfl,h1,h2,h3⟩
  · exact .inl hs
  · exact .inr ⟨id,cap,cs,rfl,h1,he.get _ _ h2,h3⟩
section
variable {FT:FuncId→Option AFun} {HK:FuncId→Option Xc} {E:Env} {h:Qa} {K:Env→Qa→Prop} {d:Option Nat} {r:List AOp} {x y:AO}
theorem Qhz {h0:Qa} {s t:SV} {vs ws:List SV} {bytes:Nat} {z:List SV} (he:Ext h0 h) (ho:Own h0 h s vs) (hx:evS E x=some s) (hy:evS E y=some t) (hs:Yf h 1 t=some (ws.length,ws)) (hb:(vs.length+ws.length)*(bytes+1)≤YV)
    (hw:∀ s' h',Own h0 h' s' (vs++ws)→Ext h0 h'→h.length≤h'.length→Fram h h' s s'→Qi FT HK r (Qq d (some (.sc s')) E) h' K):Qi FT HK (⟨d,.app 1 bytes z x y,none⟩::r) E h K:=by
  obtain ⟨s',h',h1,h2,h3,h4,h5⟩:=Qgt (ws:=ws) (bytes:=bytes) he ho hb
  refine Q8 (v:=some (.sc s')) (h':=h') rfl rfl ?_ (hw s' h' h2 h3 h4 h5)
  simp only [Ql,hx,hy,Option.bind_some,ESz.one_n,hs,h1]
  rfl
theorem Qek {lo hi:Option AO} {s s':SV} {n:Int} {l u:Nat} (hx:evS E x=some s) (hn:Yq false s=some n) (hl:bnd E 0 lo=some l) (hu:bnd E n.toNat hi=some u) (hs:Je l u s=some s')
    (hw:Qi FT HK r (Qq d (some (.sc s')) E) h K):Qi FT HK (⟨d,.sl1 x lo hi,none⟩::r) E h K :=
  Q8 rfl rfl (by simp only [Ql,hx,hn,hl,hu,Option.bind_some,hs];rfl) hw
variable {rd:List (AOp × Nat × Bool)}
theorem Xt (hw:Qi FT HK [] E h K):QS FT HK [] E h K:=hw
end
end Go.Ab
namespace Go.Ab
theorem Fram.trans {a b c:Qa} {s t u:SV} (h1:Fram a b s t) (h2:Fram b c t u):Fram a c s u:=fun j x hj hn =>
  let ⟨p,q⟩:=h1 j x hj hn;h2 j x p q
section
variable {FT:FuncId→Option AFun} {HK:FuncId→Option Xc} {E:Env} {h:Qa} {K:Env→Qa→Prop} {r:List AOp}
end
end Go.Ab
namespace Go.Ab
section
variable {FT:FuncId→Option AFun} {HK:FuncId→Option Xc} {E:Env} {h:Qa} {K:Env→Qa→Prop} {d:Option Nat} {r:List AOp} {x lo hi:AO}
theorem Qaw {n:Nat} {y:AO} {kd:IntKind} {m:Int} (hy:evS E y=some (.int kd m)) (h0:0≤m):bnd E n (some y)=some m.toNat:=by
  simp only [bnd,hy];rw [if_pos h0]
theorem k_to {s s':SV} {n m:Int} {kd:IntKind} (hx:evS E x=some s) (hn:Yq false s=some n) (hh:evS E hi=some (.int kd m)) (h0:0≤m) (hs:Je 0 m.toNat s=some s')
    (hw:Qi FT HK r (Qq d (some (.sc s')) E) h K):Qi FT HK (⟨d,.sl1 x none (some hi),none⟩::r) E h K :=
  Qek hx hn rfl (Qaw hh h0) hs hw
theorem Qja {s s':SV} {n m:Int} {kd:IntKind} (hx:evS E x=some s) (hn:Yq false s=some n) (hl:evS E lo=some (.int kd m)) (h0:0≤m) (hs:Je m.toNat n.toNat s=some s')
    (hw:Qi FT HK r (Qq d (some (.sc s')) E) h K):Qi FT HK (⟨d,.sl1 x (some lo) none,none⟩::r) E h K :=
  Qek hx hn (Qaw hl h0) rfl hs hw
end
end Go.Ab
namespace Go.Ab
theorem Own.lit0 (h0:Qa):Own h0 (h0++[.cells [] true 1]) (.slc h0.length 0 0 (some 0)) [] :=
  .inr ⟨h0.length,some 0,[],rfl,Nat.le_refl _,by simp,rfl,rfl,Nat.le_refl _⟩
section
variable {FT:FuncId→Option AFun} {HK:FuncId→Option Xc} {E:Env} {h:Qa} {K:Env→Qa→Prop} {d:Option Nat} {r:List AOp} {x y:AO}
end
end Go.Ab
namespace Go.Ab
theorem lit_u8 {n:Int} (w:(Lit.int .u8 n).wf=true):0≤n∧n≤255:=by
  simp [Lit.wf] at w;exact w
theorem IsInts.lit {h:Qa} {xs:List Int} {cs:List SV} {rw':Bool} {n:Nat} {c:Option Nat} (hc:cs=xs.map (.int .i64)) (hn:xs.length=n):IsInts (h++[.cells cs rw' 1]) (.slc h.length 0 n c) xs:=by
  subst hc hn
  refine .inr ⟨h.length,0,c,_,rfl,by simp,rfl,fun h0=>by rw [List.eq_nil_of_length_eq_zero h0];rfl,fun _=>⟨xs.map (.int .i64),rw',rfl,?_⟩⟩
  unfold cut
  simp only [ESz.one_n]
  rw [if_pos (by simp)]
  simp only [List.drop_zero,Option.some.injEq]
  exact List.take_of_length_le (by simp)
section
variable {FT:FuncId→Option AFun} {HK:FuncId→Option Xc} {E:Env} {h:Qa} {K:Env→Qa→Prop} {d:Option Nat} {r:List AOp} {x y:AO}
theorem XM {kd:IntKind} {m:Int} (hx:evS E x=some (.int kd m)) (hr : -9223372036854775808≤m∧m≤9223372036854775807) (hw:Qi FT HK r (Qq d (some (.sc (.int .i64 m))) E) h K):Qi FT HK (⟨d,.conv .i64 x,none⟩::r) E h K :=
  JV rfl rfl (by simp only [Ql,hx];rfl) hr hw
end
end Go.Ab


/- Structs in memory;loads by what a block holds. -/
namespace Go.Ab
set_option linter.unusedVariables false
def Blk.At (h:Qa) (id:Nat) (cs:List SV):Prop:=∃ rw' z,h[id]?=some (.cells cs rw' z)
theorem Blk.At.read {h:Qa} {id off n:Nat} {cs vs:List SV} (hb:Blk.At h id cs) (hc:cut cs off n=some vs):QX h id off n=some vs:=by
  obtain ⟨rw',z,h1⟩:=hb
  simp only [QX,h1,hc]
section
variable {FT:FuncId→Option AFun} {HK:FuncId→Option Xc} {E:Env} {h:Qa} {K:Env→Qa→Prop} {d:Option Nat} {r:List AOp} {x y:AO}
theorem YL {id off:Nat} {v:SV} {cs:List SV} (hx:evS E x=some (.ptr id off)) (hb:Blk.At h id cs) (hv:cut cs off 1=some [v])
    (hw:Qi FT HK r (Qq d (some (.sc v)) E) h K):Qi FT HK (⟨d,.ld 1 false x,none⟩::r) E h K:=Qhq rfl hx (hb.read hv) hw
theorem k_ldA {id off n:Nat} {cs vs:List SV} (hx:evS E x=some (.ptr id off)) (hb:Blk.At h id cs) (hv:cut cs off n=some vs)
    (hw:Qi FT HK r (Qq d (some (.agg vs)) E) h K):Qi FT HK (⟨d,.ld n true x,none⟩::r) E h K:=QiU rfl hx (hb.read hv) hw
theorem Xr {id off o:Nat} (hx:evS E x=some (.ptr id o)) (hw:Qi FT HK r (Qq d (some (.sc (.ptr id (o+off)))) E) h K):Qi FT HK (⟨d,.fldA off x,none⟩::r) E h K :=
  Q8 rfl rfl (by simp only [Ql,hx]) hw
end
end Go.Ab

