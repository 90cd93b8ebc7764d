/- Determinants of numbers,plain: expansion along the first row;rows and columns exchanged;rows added. -/
namespace Go.Proofs.YtofknpknogfijaaGreatDoor
set_option linter.all false
abbrev Row:=Nat→Int
def alt (f:Nat→List Nat→Int):List Nat→Int
 | []=>0
 | c::cs=>f c cs-alt (fun d ds=>f d (c::ds)) cs
def D:List Row→List Nat→Int
 | [],_=>1
 | r::rs,cs=>alt (fun c ds=>r c*D rs ds) cs
theorem Zw:∀ {cs:List Nat} {f g:Nat→List Nat→Int},(∀ c ds,c∈cs→ds.length+1=cs.length→(∀ d∈ds,d∈cs)→f c ds=g c ds)→alt f cs=alt g cs
 | [],_,_,_=>rfl
 | c::cs,f,g,h=>by
  unfold alt
  rw [h c cs (.head _) rfl (fun d hd=>.tail _ hd),Zw fun d ds hd hl hs=>h d (c::ds) (.tail _ hd) (by simp [← hl]) fun e he=>?_]
  rcases List.mem_cons.1 he with rfl | he
  ·exact .head _
  ·exact .tail _ (hs e he)
theorem Ya {cs:List Nat} {f g:Nat→List Nat→Int} (h:∀ c ds,f c ds=g c ds):alt f cs=alt g cs:=Zw fun c ds _ _ _=>h c ds
theorem Jc:∀ {cs:List Nat},alt (fun _ _=>0) cs=0
 | []=>rfl
 | c::cs=>by unfold alt;rw [Jc];rfl
theorem yL:∀ {cs:List Nat} {f g:Nat→List Nat→Int},alt (fun c ds=>f c ds+g c ds) cs=alt f cs+alt g cs
 | [],_,_=>rfl
 | c::cs,f,g=>by unfold alt;rw [yL (f:=fun d ds=>f d (c::ds)) (g:=fun d ds=>g d (c::ds))];omega
theorem ZR (k:Int):∀ {cs:List Nat} {f:Nat→List Nat→Int},alt (fun c ds=>k*f c ds) cs=k*alt f cs
 | [],_=>by simp [alt]
 | c::cs,f=>by unfold alt;rw [ZR k (f:=fun d ds=>f d (c::ds)),Int.mul_sub]
theorem QaJ {cs:List Nat} {f:Nat→List Nat→Int}:alt (fun c ds => - f c ds) cs = - alt f cs:=by
 have:=ZR (-1) (cs:=cs) (f:=f)
 simpa using this
theorem QjV {cs:List Nat} {f g:Nat→List Nat→Int}:alt (fun c ds=>f c ds-g c ds) cs=alt f cs-alt g cs:=by
 rw [show alt f cs-alt g cs=alt f cs + - alt g cs by omega,← QaJ,← yL]
 exact Ya fun c ds=>by omega
def QhT (a b:Row) (G:List Nat→Int) (cs:List Nat):Int:=alt (fun c ds=>a c*alt (fun d es=>b d*G es) ds) cs
theorem VQ (a b:Row) (G:List Nat→Int) (c:Nat) (cs:List Nat) :
  QhT a b G (c::cs)=a c*alt (fun d es=>b d*G es) cs-b c*alt (fun d es=>a d*G es) cs+QhT a b (fun es=>G (c::es)) cs:=by
 unfold QhT
 conv=>lhs;unfold alt
 have e:alt (fun d ds=>a d*alt (fun e es=>b e*G es) (c::ds)) cs=b c*alt (fun d es=>a d*G es) cs-alt (fun d ds=>a d*alt (fun e es=>b e*G (c::es)) ds) cs:=by
  rw [← ZR,← QjV]
  refine Ya fun d ds=>?_
  conv=>lhs;unfold alt
  rw [Int.mul_sub]
  congr 1
  rw [← Int.mul_assoc,← Int.mul_assoc,Int.mul_comm (a d)]
 rw [e];show _=_-_+alt (fun d ds=>a d*alt (fun e es=>b e*G (c::es)) ds) cs;omega
theorem VP (a b:Row):∀ (cs:List Nat) (G:List Nat→Int),QhT a b G cs = - QhT b a G cs
 | [],_=>rfl
 | c::cs,G=>by rw [VQ,VQ,VP a b cs];omega
theorem JC (a b:Row) (rs:List Row) (cs:List Nat):D (a::b::rs) cs = - D (b::a::rs) cs:=VP a b cs (D rs)
theorem XB (r:Row) (rs:List Row) (cs:List Nat):D (r::rs) cs=alt (fun c ds=>r c*D rs ds) cs:=rfl
theorem QaO (a b:Row):∀ (pre post:List Row) (cs:List Nat),D (pre++a::b::post) cs = - D (pre++b::a::post) cs
 | [],post,cs=>JC a b post cs
 | r::pre,post,cs=>by
  rw [List.cons_append,List.cons_append,XB,XB,← QaJ]
  exact Ya fun c ds=>by rw [QaO a b pre post ds,Int.mul_neg]
theorem Qik (a:Row):∀ (rs:List Row) (cs:List Nat),a∈rs→D (a::rs) cs=0
 | b::rs,cs,h=>by
  by_cases e:a=b
  ·subst e
   have:=JC a a rs cs
   omega
  ·have h':a∈rs:=by
    rcases List.mem_cons.1 h with h | h
    ·exact absurd h e
    ·exact h
   rw [JC,XB,Ya (g:=fun _ _=>0) fun c ds=>by rw [Qik a rs ds h',Int.mul_zero],Jc]
   rfl
theorem Qip (a b:Row) (rs:List Row) (cs:List Nat):D ((fun c=>a c+b c)::rs) cs=D (a::rs) cs+D (b::rs) cs:=by
 rw [XB,XB,XB,← yL]
 exact Ya fun c ds=>Int.add_mul _ _ _
theorem Qil (k:Int) (a:Row) (rs:List Row) (cs:List Nat):D ((fun c=>k*a c)::rs) cs=k*D (a::rs) cs:=by
 rw [XB,XB,← ZR]
 exact Ya fun c ds=>Int.mul_assoc _ _ _
theorem Qiq (a b:Row):∀ (pre post:List Row) (cs:List Nat),D (pre++(fun c=>a c+b c)::post) cs=D (pre++a::post) cs+D (pre++b::post) cs
 | [],post,cs=>Qip a b post cs
 | r::pre,post,cs=>by
  simp only [List.cons_append]
  rw [XB,XB,XB,← yL]
  exact Ya fun c ds=>by rw [Qiq a b pre post ds,Int.mul_add]
theorem Qim (k:Int) (a:Row):∀ (pre post:List Row) (cs:List Nat),D (pre++(fun c=>k*a c)::post) cs=k*D (pre++a::post) cs
 | [],post,cs=>Qil k a post cs
 | r::pre,post,cs=>by
  simp only [List.cons_append]
  rw [XB,XB,← ZR]
  exact Ya fun c ds=>by rw [Qim k a pre post ds,Int.mul_left_comm]
theorem Qin (r:Row):∀ (rs:List Row) (k:Row→Int) (cs:List Nat),D (r::rs.map fun s c=>s c+k s*r c) cs=D (r::rs) cs
 | [],_,_=>rfl
 | s::rs,k,cs=>by
  rw [List.map_cons,JC,Qip s (fun c=>k s*r c),Qil,Qik r (r::_) cs (.head _),Int.mul_zero,Int.add_zero,JC r s,XB s,XB s]
  congr 1
  exact Ya fun c ds=>by rw [Qin r rs k ds]
theorem QcN (c:Nat):∀ (rs:List Row) (cs:List Nat),rs≠[]→rs.length=cs.length+1→(∀ s∈rs,s c=0)→D rs (c::cs)=0
 | [],_,h,_,_=>absurd rfl h
 | s::rs,cs,_,hl,hz=>by
  rw [XB];unfold alt
  rw [hz s (.head _),Int.zero_mul]
  have:alt (fun d ds=>s d*D rs (c::ds)) cs=0:=by
   rw [Zw (g:=fun _ _=>0) fun d ds _ hd _=>?_,Jc]
   simp only [List.length_cons] at hl
   rw [QcN c rs ds (by intro e;rw [e,List.length_nil] at hl;omega) (by omega) fun t ht=>hz t (.tail _ ht),Int.mul_zero]
  rw [this];rfl
theorem D_tri (r:Row) (c:Nat) (rs:List Row) (cs:List Nat) (hl:rs.length=cs.length) (hz:∀ s∈rs,s c=0):D (r::rs) (c::cs)=r c*D rs cs:=by
 rw [XB];unfold alt
 have:alt (fun d ds=>r d*D rs (c::ds)) cs=0:=by
  rw [Zw (g:=fun _ _=>0) fun d ds _ hd _=>?_,Jc]
  rw [QcN c rs ds (by intro e;rw [e,List.length_nil] at hl;omega) (by omega) hz,Int.mul_zero]
 rw [this];omega
theorem QaP (x y:Nat):∀ (pre post:List Nat) (rs:List Row),rs.length=(pre++x::y::post).length→D rs (pre++x::y::post) = - D rs (pre++y::x::post):=by
 have key:∀ (rs:List Row) (pre post:List Nat),rs.length=(pre++x::y::post).length→D rs (pre++x::y::post) = - D rs (pre++y::x::post):=by
  intro rs
  induction rs with
  | nil=>intro pre post h;simp at h
  | cons r rs ih =>
   intro pre post h
   rw [XB,XB]
   have step:∀ (pre acc:List Nat) (post:List Nat),rs.length+1=(acc++(pre++x::y::post)).length→alt (fun c ds=>r c*D rs (acc++ds)) (pre++x::y::post) = - alt (fun c ds=>r c*D rs (acc++ds)) (pre++y::x::post):=by
    intro pre
    induction pre with
    | nil =>
     intro acc post hl
     simp only [List.nil_append]
     conv=>lhs;unfold alt;rhs;unfold alt
     conv=>rhs;arg 1;unfold alt;rhs;unfold alt
     have e:alt (fun d ds=>r d*D rs (acc++x::y::ds)) post = - alt (fun d ds=>r d*D rs (acc++y::x::ds)) post:=by
      rw [← QaJ]
      refine Zw fun d ds _ hd _=>?_
      rw [ih acc ds (by simp at hl ⊢;omega),Int.mul_neg]
     rw [e];omega
    | cons z pre ihp =>
     intro acc post hl
     simp only [List.cons_append]
     conv=>lhs;unfold alt
     conv=>rhs;arg 1;unfold alt
     rw [← List.append_assoc acc,← List.append_assoc acc,ih (acc++pre) post (by simp at hl ⊢;omega)]
     have e:=ihp (acc++[z]) post (by simp at hl ⊢;omega)
     simp only [List.append_assoc,List.cons_append,List.nil_append] at e ⊢
     rw [e,Int.mul_neg];omega
   have:=step pre [] post (by simpa using h)
   simpa using this
 exact fun pre post rs h=>key rs pre post h
theorem Qd0 (a b:Row):∀ (mid pre post:List Row) (cs:List Nat),D (pre++a::(mid++b::post)) cs = - D (pre++b::(mid++a::post)) cs
 | [],pre,post,cs=>QaO a b pre post cs
 | z::mid,pre,post,cs=>by
  have h1:=QaO a z pre (mid++b::post) cs
  have h2:=Qd0 a b mid (pre++[z]) post cs
  have h3:=QaO z b pre (mid++a::post) cs
  simp only [List.append_assoc,List.singleton_append] at h2
  simp only [List.cons_append]
  rw [h1,h2,h3]
  omega
theorem Qb5 (x y:Nat):∀ (mid pre post:List Nat) (rs:List Row),rs.length=(pre++x::(mid++y::post)).length→D rs (pre++x::(mid++y::post)) = - D rs (pre++y::(mid++x::post))
 | [],pre,post,rs,h=>QaP x y pre post rs h
 | z::mid,pre,post,rs,h=>by
  have h1:=QaP x z pre (mid++y::post) rs (by simp at h ⊢;omega)
  have h2:=Qb5 x y mid (pre++[z]) post rs (by simp at h ⊢;omega)
  have h3:=QaP z y pre (mid++x::post) rs (by simp at h ⊢;omega)
  simp only [List.append_assoc,List.singleton_append] at h2
  simp only [List.cons_append]
  rw [h1,h2,h3]
  omega
theorem QdX (s:Nat→Nat):∀ {cs:List Nat} {f:Nat→List Nat→Int},alt f (cs.map s)=alt (fun c ds=>f (s c) (ds.map s)) cs
 | [],_=>rfl
 | c::cs,f=>by
  simp only [List.map_cons,alt]
  rw [QdX s (f:=fun d ds=>f d (s c::ds))]
theorem Qd1 (s:Nat→Nat):∀ (rs:List Row) (cs:List Nat),D (rs.map fun r c=>r (s c)) cs=D rs (cs.map s)
 | [],cs=>rfl
 | r::rs,cs=>by
  rw [List.map_cons,XB,XB,QdX]
  exact Ya fun c ds=>by rw [Qd1 s rs ds]
theorem QaQ:∀ {rs ts:List Row} {cs:List Nat},rs.length=ts.length→(∀ (i:Nat) (r t:Row),rs[i]?=some r→ts[i]?=some t→∀ c∈cs,r c=t c)→D rs cs=D ts cs
 | [],[],_,_,_=>rfl
 | [],_::_,_,h,_=>by simp at h
 | _::_,[],_,h,_=>by simp at h
 | r::rs,t::ts,cs,hl,h=>by
  rw [XB,XB]
  refine Zw fun c ds hc _ hd=>?_
  rw [h 0 r t rfl rfl c hc,QaQ (rs:=rs) (ts:=ts) (by simpa using hl) fun i a b ha hb e he=>h (i+1) a b (by simpa using ha) (by simpa using hb) e (hd e he)]
theorem yO (a:Row):∀ (pre mid post:List Row) (cs:List Nat),D (pre++a::(mid++a::post)) cs=0
 | [],mid,post,cs=>Qik a (mid++a::post) cs (by simp)
 | r::pre,mid,post,cs=>by
  simp only [List.cons_append]
  rw [XB,Ya (g:=fun _ _=>0) fun c ds=>by rw [yO a pre mid post ds,Int.mul_zero],Jc]
def comb (b:Nat→Row) (a:Row):List Nat→Row
 | []=>fun _=>0
 | j::js=>fun c=>a j*b j c+comb b a js c
def Cg (p:Nat) (a b:Int):Prop:=(p:Int) ∣ a-b
theorem Cg.rfl {p:Nat} {a:Int}:Cg p a a:=by unfold Cg;rw [Int.sub_self];exact Int.dvd_zero _
theorem Cg.of_eq {p:Nat} {a b:Int} (h:a=b):Cg p a b:=h ▸ Cg.rfl
theorem Cg.symm {p:Nat} {a b:Int} (h:Cg p a b):Cg p b a:=by
 obtain ⟨k,h⟩:=h;exact ⟨-k,by rw [Int.mul_neg];omega⟩
theorem Cg.trans {p:Nat} {a b c:Int} (h:Cg p a b) (h2:Cg p b c):Cg p a c:=by
 obtain ⟨k,h⟩:=h;obtain ⟨l,h2⟩:=h2;exact ⟨k+l,by rw [Int.mul_add];omega⟩
theorem Cg.add {p:Nat} {a b c d:Int} (h:Cg p a b) (h2:Cg p c d):Cg p (a+c) (b+d):=by
 obtain ⟨k,h⟩:=h;obtain ⟨l,h2⟩:=h2;exact ⟨k+l,by rw [Int.mul_add];omega⟩
theorem Cg.neg {p:Nat} {a b:Int} (h:Cg p a b):Cg p (-a) (-b):=by
 obtain ⟨k,h⟩:=h;exact ⟨-k,by rw [Int.mul_neg];omega⟩
theorem Cg.sub {p:Nat} {a b c d:Int} (h:Cg p a b) (h2:Cg p c d):Cg p (a-c) (b-d):=by
 obtain ⟨k,h⟩:=h;obtain ⟨l,h2⟩:=h2;exact ⟨k-l,by rw [Int.mul_sub];omega⟩
theorem Cg.mul {p:Nat} {a b c d:Int} (h:Cg p a b) (h2:Cg p c d):Cg p (a*c) (b*d):=by
 obtain ⟨k,h⟩:=h;obtain ⟨l,h2⟩:=h2
 refine ⟨k*c+b*l,?_⟩
 have e1:a*c-b*d=(a-b)*c+b*(c-d):=by rw [Int.sub_mul,Int.mul_sub];omega
 rw [e1,h,h2,Int.mul_add,Int.mul_assoc,Int.mul_left_comm b]
theorem Cg.mod {p:Nat} {a:Int}:Cg p (a%(p:Int)) a:=⟨-(a / p),by have:=Int.emod_add_mul_ediv a p;rw [Int.mul_neg];omega⟩
theorem Cg.modN {p a:Nat}:Cg p ((a%p:Nat):Int) (a:Nat):=by rw [Int.natCast_emod];exact Cg.mod
theorem Cg.eq {p:Nat} {a b:Int} (h:Cg p a b) (hs:(a-b).natAbs < p):a=b:=by
 obtain ⟨k,h⟩:=h
 by_cases hk:k=0
 ·subst hk;omega
 ·exfalso
  have:(a-b).natAbs=p*k.natAbs:=by rw [h,Int.natAbs_mul];simp
  have h1:1≤k.natAbs:=by omega
  have:=Nat.mul_le_mul_left p h1
  omega
theorem Cg.eqN {p a b:Nat} (h:Cg p (a:Int) (b:Int)) (ha:a < p) (hb:b < p):a=b:=by
 have:=h.eq (by omega);omega
theorem QhR {p:Nat}:∀ {cs:List Nat} {f g:Nat→List Nat→Int},(∀ c ds,c∈cs→ds.length+1=cs.length→(∀ d∈ds,d∈cs)→Cg p (f c ds) (g c ds))→Cg p (alt f cs) (alt g cs)
 | [],_,_,_=>Cg.rfl
 | c::cs,f,g,h=>by
  unfold alt
  refine (h c cs (.head _) rfl fun d hd=>.tail _ hd).sub (QhR fun d ds hd hl hs=>h d (c::ds) (.tail _ hd) (by simp [← hl]) fun e he=>?_)
  rcases List.mem_cons.1 he with rfl | he
  ·exact .head _
  ·exact .tail _ (hs e he)
def RCg (p:Nat) (cs:List Nat) (a b:Row):Prop:=∀ c∈cs,Cg p (a c) (b c)
inductive RsCg (p:Nat) (cs:List Nat):List Row→List Row→Prop
 | nil:RsCg p cs [] []
 | cons {a b:Row} {az bz:List Row}:RCg p cs a b→RsCg p cs az bz→RsCg p cs (a::az) (b::bz)
theorem RsCg.sub {p:Nat} {cs ds:List Nat} (h:∀ d∈ds,d∈cs):∀ {az bz:List Row},RsCg p cs az bz→RsCg p ds az bz
 | _,_,.nil=>.nil
 | _,_,.cons h1 h2=>.cons (fun c hc=>h1 c (h c hc)) (h2.sub h)
theorem Qio {p:Nat}:∀ {az bz:List Row} {cs:List Nat},RsCg p cs az bz→Cg p (D az cs) (D bz cs)
 | _,_,_,.nil=>Cg.rfl
 | _,_,cs,.cons h1 h2=>by
  rw [XB,XB]
  exact QhR fun c ds hc hl hs=>(h1 c hc).mul (Qio (h2.sub hs))
theorem Qd2 (post:List Row):∀ (pre:List Row),∃ s:Int,∀ (b:Row) cs,D (pre++b::post) cs=s*D (b::(pre++post)) cs
 | []=>⟨1,fun b cs=>by simp⟩
 | r::pre=>by
  obtain ⟨s,h⟩:=Qd2 post pre
  refine ⟨-s,fun b cs=>?_⟩
  rw [List.cons_append,XB,Ya (g:=fun c ds=>s*(r c*D (b::(pre++post)) ds)) fun c ds=>by rw [h,Int.mul_left_comm],ZR,← XB r,JC]
  rw [Int.neg_mul,Int.mul_neg];rfl
theorem QnD (a b:Row) (pre post:List Row) (cs:List Nat):D (a::(pre++b::post)) cs = - D (b::(pre++a::post)) cs:=by
 obtain ⟨s,h⟩:=Qd2 post pre
 have f:∀ a b:Row,D (a::(pre++b::post)) cs=s*D (a::b::(pre++post)) cs:=fun a b=>by
  rw [XB,XB,← ZR]
  exact Ya fun c ds=>by rw [h,Int.mul_left_comm]
 rw [f a b,f b a,JC,Int.mul_neg]
def sbM (p a b:Nat):Nat:=if a < b then a+p-b else a-b
def adM (p a b:Nat):Nat:=if p≤a+b then a+b-p else a+b
theorem Qca {p a b:Nat} (hb:b≤p):Cg p (sbM p a b:Nat) ((a:Int)-b):=by
 unfold sbM
 split
 ·exact ⟨1,by omega⟩
 ·exact ⟨0,by omega⟩
theorem yQ {p a b:Nat} (ha:a < p):sbM p a b < p:=by unfold sbM;split <;> omega
theorem adM_cg {p a b:Nat}:Cg p (adM p a b:Nat) ((a:Int)+b):=by
 unfold adM
 split
 ·exact ⟨-1,by omega⟩
 ·exact ⟨0,by omega⟩
theorem QcK {p a b:Nat} (ha:a < p) (hb:b < p):adM p a b < p:=by unfold adM;split <;> omega
def rw_ (r:List Nat):Row:=fun c=>((r.getD c 0:Nat):Int)
def elR (p k f:Nat) (piv r:List Nat):List Nat:=r.mapIdx fun c x=>if k < c then sbM p x (f*piv.getD c 0%p) else x
def pick (k:Nat):List (List Nat)→Option (List (List Nat) × List Nat × List (List Nat))
 | []=>none
 | r::rs=>if r.getD k 0≠0 then some ([],r,rs) else (pick k rs).map fun x=>(r::x.1,x.2)
theorem Vo {k:Nat}:∀ {rs:List (List Nat)},pick k rs=none→∀ r∈rs,r.getD k 0=0
 | r::rs,h,s,hs=>by
  unfold pick at h
  split at h
  ·cases h
  ·rename_i h0
   rcases List.mem_cons.1 hs with rfl | hs
   ·exact Decidable.not_not.1 h0
   ·exact Vo (Option.map_eq_none_iff.1 h) s hs
theorem Vn {k:Nat}:∀ {rs:List (List Nat)} {a b c},pick k rs=some (a,b,c)→rs=a++b::c∧b.getD k 0≠0∧∀ r∈a,r.getD k 0=0
 | r::rs,a,b,c,h=>by
  unfold pick at h
  split at h
  ·rename_i h0
   simp only [Option.some.injEq,Prod.mk.injEq] at h
   obtain ⟨rfl,rfl,rfl⟩:=h
   exact ⟨rfl,h0,by simp⟩
  ·rename_i h0
   obtain ⟨⟨x,y,z⟩,h1,h2⟩:=Option.map_eq_some_iff.1 h
   simp only [Prod.mk.injEq] at h2
   obtain ⟨rfl,rfl,rfl⟩:=h2
   obtain ⟨e,h3,h4⟩:=Vn h1
   refine ⟨by rw [e];rfl,h3,fun s hs=>?_⟩
   rcases List.mem_cons.1 hs with rfl | hs
   ·exact Decidable.not_not.1 h0
   ·exact h4 s hs
def Yb (a:List (List Nat)) (c:List (List Nat)):List (List Nat):=match a with
 | []=>c
 | x::a=>a++x::c
def qH (p:Nat) (inv:Nat→Nat):Nat→Nat→List (List Nat)→Nat→Nat
 | 0,_,_,d=>d
 | m + 1, k, rs, d => match pick k rs with
   | none=>0
   | some (a,b,c) =>
    qH p inv m (k+1) ((Yb a c).map fun r=>elR p k (r.getD k 0*inv (b.getD k 0)%p) b r) ((if a=[] then d else sbM p 0 d)*b.getD k 0%p)
def FOK (p:Nat) (inv:Nat→Nat):Prop:=∀ a,0 < a→a < p→a*inv a%p=1
theorem Qjx {p k f:Nat} {piv r:List Nat} {c:Nat} (hk:k < c) (hc:c < r.length):(elR p k f piv r).getD c 0=sbM p (r.getD c 0) (f*piv.getD c 0%p):=by
 unfold elR
 simp only [List.getD_eq_getElem?_getD,List.getElem?_mapIdx]
 rw [List.getElem?_eq_getElem hc]
 simp [hk]
theorem VM {p:Nat} {inv:Nat→Nat} (hF:FOK p inv) (hp:1 < p) (n:Nat):∀ (m k:Nat) (rs:List (List Nat)) (d:Nat),m+k=n→rs.length=m→(∀ r∈rs,r.length=n∧∀ x∈r,x < p)→d < p →
  qH p inv m k rs d < p∧Cg p (qH p inv m k rs d:Nat) ((d:Int)*D (rs.map rw_) (List.range' k m))
 | 0,k,rs,d,hn,hl,hr,hd=>by
  have:rs=[]:=List.length_eq_zero_iff.1 hl
  subst this
  exact ⟨hd,Cg.of_eq (by simp [qH,D])⟩
 | m+1,k,rs,d,hn,hl,hr,hd=>by
  unfold qH
  split
  ·rename_i hpk
   refine ⟨by omega,Cg.of_eq ?_⟩
   have hz:=Vo hpk
   rw [List.range'_succ,QcN k (rs.map rw_) _ (by intro e;rw [List.map_eq_nil_iff] at e;rw [e] at hl;simp at hl) (by simp [hl]) fun s hs=>by
    obtain ⟨r,hr,rfl⟩:=List.mem_map.1 hs
    show ((r.getD k 0:Nat):Int)=0
    rw [hz r hr];rfl]
   simp
  ·rename_i a b c hpk
   obtain ⟨rfl,hb0,-⟩:=Vn hpk
   have hb:=hr b (by simp)
   have hbk:k < b.length:=by omega
   have hbp:b.getD k 0 < p:=by
    rw [List.getD_eq_getElem?_getD,List.getElem?_eq_getElem hbk]
    exact hb.2 _ (List.getElem_mem _)
   have hinv:=hF (b.getD k 0) (by omega) hbp
   have hos:∀ r∈Yb a c,r∈a++b::c:=by
    intro r hr
    cases a with
    | nil=>exact .tail _ hr
    | cons x a =>
     have:r∈a++x::c:=hr
     simp only [List.mem_append,List.mem_cons] at this ⊢
     rcases this with h | h | h <;> simp [h]
   have hol:(Yb a c).length=m:=by
    cases a with
    | nil=>simpa [Yb] using hl
    | cons x a=>simp [Yb] at hl ⊢;omega
   have hd':(if a=[] then d else sbM p 0 d) < p:=by
    split
    ·exact hd
    ·exact yQ (by omega)
   obtain ⟨h1,h2⟩:=VM hF hp n m (k+1) ((Yb a c).map fun r=>elR p k (r.getD k 0*inv (b.getD k 0)%p) b r) ((if a=[] then d else sbM p 0 d)*b.getD k 0%p) (by omega) (by simp [hol]) (fun r hr'=>by
    obtain ⟨s,hs,rfl⟩:=List.mem_map.1 hr'
    have:=hr s (hos s hs)
    refine ⟨by simp [elR,this.1],fun x hx=>?_⟩
    unfold elR at hx
    rw [List.mem_mapIdx] at hx
    obtain ⟨i,hi,rfl⟩:=hx
    have:=this.2 _ (List.getElem_mem hi)
    split
    ·exact yQ this
    ·exact this) (Nat.mod_lt _ (by omega))
   refine ⟨h1,h2.trans ?_⟩
   have e1:Cg p ((((if a=[] then d else sbM p 0 d)*b.getD k 0%p:Nat)):Int) (((if a=[] then d else sbM p 0 d:Nat):Int)*rw_ b k):=Cg.modN.trans (Cg.of_eq (by rw [Int.natCast_mul];rfl))
   have e2:Cg p (D (((Yb a c).map fun r=>elR p k (r.getD k 0*inv (b.getD k 0)%p) b r).map rw_) (List.range' (k+1) m))
     (D (((Yb a c).map rw_).map fun s c=>s c + -(s k*(inv (b.getD k 0):Nat))*rw_ b c) (List.range' (k+1) m)):=by
    refine Qio ?_
    have:∀ os:List (List Nat),(∀ r∈os,r∈a++b::c)→RsCg p (List.range' (k+1) m) ((os.map fun r=>elR p k (r.getD k 0*inv (b.getD k 0)%p) b r).map rw_) ((os.map rw_).map fun s c=>s c + -(s k*(inv (b.getD k 0):Nat))*rw_ b c):=by
     intro os
     induction os with
     | nil=>intro _;exact .nil
     | cons r os ih =>
      intro h
      refine .cons (fun x hx=>?_) (ih fun r hr=>h r (.tail _ hr))
      have hr1:=hr r (h r (.head _))
      rw [List.mem_range'_1] at hx
      unfold rw_
      rw [Qjx (by omega) (by omega)]
      refine (Qca (Nat.le_of_lt (Nat.mod_lt _ (by omega)))).trans ?_
      show Cg p _ (((r.getD x 0:Nat):Int) + -(((r.getD k 0:Nat):Int)*(inv (b.getD k 0):Nat))*((b.getD x 0:Nat):Int))
      rw [Int.neg_mul,← Int.sub_eq_add_neg]
      refine Cg.rfl.sub (Cg.modN.trans ?_)
      rw [Int.natCast_mul]
      refine Cg.mul (Cg.modN.trans (Cg.of_eq (by rw [Int.natCast_mul]))) Cg.rfl
    exact this _ hos
   have e3:Cg p (rw_ b k*D (((Yb a c).map rw_).map fun s c=>s c + -(s k*(inv (b.getD k 0):Nat))*rw_ b c) (List.range' (k+1) m)) (D (rw_ b::(Yb a c).map rw_) (List.range' k (m+1))):=by
    rw [← Qin (rw_ b) ((Yb a c).map rw_) (fun s => -(s k*(inv (b.getD k 0):Nat))) (List.range' k (m+1)),List.range'_succ]
    have hz:Cg p (rw_ b k*(inv (b.getD k 0):Nat)) 1:=by
     have:Cg p ((b.getD k 0*inv (b.getD k 0):Nat):Int) ((1:Nat):Int):=by rw [← hinv];exact Cg.modN.symm
     rw [Int.natCast_mul] at this
     exact this
    refine Cg.symm ((Qio (bz:=rw_ b::(((Yb a c).map rw_).map fun s c=>if c=k then 0 else s c + -(s k*(inv (b.getD k 0):Nat))*rw_ b c)) (.cons (fun _ _=>Cg.rfl) ?_)).trans ?_)
    ·generalize (Yb a c).map rw_=os
     induction os with
     | nil=>exact .nil
     | cons s os ih =>
      refine .cons (fun x hx=>?_) ih
      by_cases hxk:x=k
      ·subst hxk
       simp only [if_pos]
       have:Cg p (s x*(1 + -(rw_ b x*(inv (b.getD x 0):Nat)))) (s x*(1 + -1)):=Cg.rfl.mul (Cg.rfl.add hz.neg)
       refine (Cg.of_eq ?_).trans (this.trans (Cg.of_eq (by simp)))
       rw [Int.mul_add,Int.mul_one,Int.mul_neg,Int.neg_mul,Int.mul_assoc,Int.mul_comm (rw_ b x)]
      ·simp only [if_neg hxk];exact Cg.rfl
    ·rw [D_tri _ _ _ _ (by simp [hol]) (fun s hs=>by
      obtain ⟨t,ht,rfl⟩:=List.mem_map.1 hs
      simp)]
     refine Cg.rfl.mul (Qio ?_)
     generalize (Yb a c).map rw_=os
     induction os with
     | nil=>exact .nil
     | cons s os ih =>
      refine .cons (fun x hx=>?_) ih
      rw [List.mem_range'_1] at hx
      simp only [if_neg (show ¬ x=k by omega)];exact Cg.rfl
   have e4:Cg p (((if a=[] then d else sbM p 0 d:Nat):Int)*D (rw_ b::(Yb a c).map rw_) (List.range' k (m+1))) ((d:Int)*D ((a++b::c).map rw_) (List.range' k (m+1))):=by
    cases a with
    | nil=>rw [if_pos rfl];exact Cg.rfl
    | cons x a =>
     rw [if_neg (by simp)]
     have:D (((x::a)++b::c).map rw_) (List.range' k (m+1)) = - D (rw_ b::(Yb (x::a) c).map rw_) (List.range' k (m+1)):=by
      show D ((x::(a++b::c)).map rw_) _ = - D (rw_ b::(a++x::c).map rw_) _
      rw [List.map_cons,List.map_append,List.map_cons,List.map_append,List.map_cons]
      exact QnD _ _ _ _ _
     rw [this,Int.mul_neg,← Int.neg_mul]
     refine Cg.mul ((Qca (Nat.le_of_lt hd)).trans (Cg.of_eq (by omega))) Cg.rfl
   refine (e1.mul e2).trans (Cg.trans ?_ e4)
   rw [Int.mul_assoc]
   exact Cg.rfl.mul e3
def Pr (q:Nat):Prop:=1 < q∧∀ d,d ∣ q→d=1∨d=q
theorem QeE:∀ (m:Nat),1 < m→∃ q,Pr q∧q ∣ m:=by
 intro m
 induction m using Nat.strongRecOn with
 | _ m ih =>
  intro h
  by_cases hp:∀ d,d ∣ m→d=1∨d=m
  ·exact ⟨m,⟨h,hp⟩,Nat.dvd_refl _⟩
  ·obtain ⟨d,hd⟩:=Classical.not_forall.1 hp
   have h1:d ∣ m:=Classical.byContradiction fun h=>hd fun h'=>absurd h' h
   have h2:d≠1∧d≠m:=⟨fun e=>hd fun _=>.inl e,fun e=>hd fun _=>.inr e⟩
   have h3:=Nat.le_of_dvd (by omega) h1
   have h4:d≠0:=fun e=>by rw [e] at h1;have:=Nat.eq_zero_of_zero_dvd h1;omega
   obtain ⟨q,hq,hqd⟩:=ih d (by omega) (by omega)
   exact ⟨q,hq,Nat.dvd_trans hqd h1⟩
theorem Pr.euclid {q a b:Nat} (h:Pr q) (hd:q ∣ a*b):q ∣ a∨q ∣ b:=by
 rcases h.2 (Nat.gcd q a) (Nat.gcd_dvd_left _ _) with e | e
 ·exact .inr (Nat.Coprime.dvd_of_dvd_mul_left e hd)
 ·exact .inl (e ▸ Nat.gcd_dvd_right q a)
theorem Pr.mem {q:Nat} (h:Pr q):∀ {l:List Nat},(∀ x∈l,Pr x)→q ∣ l.foldr (·*·) 1→q∈l
 | [],_,hd=>by
  have:=Nat.le_of_dvd (by decide) (show q ∣ 1 from hd)
  have:=h.1
  omega
 | x::l,hl,hd=>by
  rcases h.euclid (show q ∣ x*l.foldr (·*·) 1 from hd) with e | e
  ·rcases (hl x (.head _)).2 q e with e | e
   ·have:=h.1;omega
   ·rw [e];exact .head _
  ·exact .tail _ (h.mem (fun y hy=>hl y (.tail _ hy)) e)
def prS (q:Nat):Bool:=decide (1 < q) && (List.range 70).all fun i=>decide (q≤i+2) || decide (q%(i+2)≠0)
theorem QlH {q:Nat} (h:prS q=true) (hs:q < 4900):Pr q:=by
 unfold prS at h
 rw [Bool.and_eq_true,decide_eq_true_iff,List.all_eq_true] at h
 obtain ⟨h1,h2⟩:=h
 refine ⟨h1,fun d hd=>?_⟩
 apply Classical.byContradiction
 intro hc
 have hd0:d≠0:=fun e=>by rw [e] at hd;have:=Nat.eq_zero_of_zero_dvd hd;omega
 obtain ⟨e,he⟩:=hd
 have hdl:=Nat.le_of_dvd (by omega) (show d ∣ q from ⟨e,he⟩)
 have key:∀ i,1 < i→i < 70→i ∣ q→i=q:=fun i h3 h4 h5=>by
  have:=h2 (i-2) (List.mem_range.2 (by omega))
  rw [show i-2+2=i by omega,Bool.or_eq_true,decide_eq_true_iff,decide_eq_true_iff] at this
  rcases this with h | h
  ·have:=Nat.le_of_dvd (by omega) h5;omega
  ·exact absurd (Nat.mod_eq_zero_of_dvd h5) h
 have hd1:1 < d:=by omega
 have he1:1 < e:=by
  rcases Nat.lt_or_ge 1 e with h | h
  ·exact h
  ·exfalso
   have:e=0∨e=1:=by omega
   rcases this with rfl | rfl <;> simp at he <;> omega
 have hde:d < 70∨e < 70:=by
  apply Classical.byContradiction
  intro h
  have:=Nat.mul_le_mul (show 70≤d by omega) (show 70≤e by omega)
  omega
 rcases hde with h | h
 ·exact hc (.inr (key d hd1 h ⟨e,he⟩))
 ·have:=key e he1 h ⟨d,by rw [Nat.mul_comm];exact he⟩
  rw [this] at he
  have:=Nat.mul_le_mul_right q (show 2≤d by omega)
  omega
theorem fitP:∀ {ys T:List Nat},ys.Nodup→(∀ y∈ys,y∈T)→ys.length≤T.length
 | [],_,_,_=>Nat.zero_le _
 | y::ys,T,hn,hs=>by
  have hy:=hs y (.head _)
  have h1:∀ z∈ys,z∈T.erase y:=fun z hz=>by
   have hne:z≠y:=fun e=>(List.nodup_cons.1 hn).1 (e ▸ hz)
   exact (List.mem_erase_of_ne hne).2 (hs z (.tail _ hz))
  have h2:=fitP (List.nodup_cons.1 hn).2 h1
  have h3:=List.length_erase_of_mem hy
  have:=List.length_pos_of_mem hy
  simp only [List.length_cons]
  omega
theorem fills {ys T:List Nat} (hn:ys.Nodup) (hs:∀ y∈ys,y∈T) (hl:T.length≤ys.length):∀ t∈T,t∈ys:=fun t ht=>by
 apply Classical.byContradiction
 intro h
 have:=fitP (ys:=t::ys) (T:=T) (List.nodup_cons.2 ⟨h,hn⟩) fun y hy=>by
  rcases List.mem_cons.1 hy with rfl | hy
  ·exact ht
  ·exact hs y hy
 simp only [List.length_cons] at this
 omega
theorem Qbb {p g a b:Nat} (ha:g ^ a%p=1%p) (hb:g ^ b%p=1%p):g ^ (a%b)%p=1%p:=by
 have hq:g ^ (b*(a / b))%p=1%p:=by rw [Nat.pow_mul,Nat.pow_mod,hb,← Nat.pow_mod,Nat.one_pow]
 have:g ^ a%p=g ^ (a%b)%p:=by
  conv=>lhs;rw [← Nat.mod_add_div a b,Nat.pow_add,Nat.mul_mod,hq,← Nat.mul_mod,Nat.mul_one]
 rw [← this,ha]
theorem Qbc {p g:Nat}:∀ (a b:Nat),g ^ a%p=1%p→g ^ b%p=1%p→g ^ Nat.gcd a b%p=1%p:=by
 intro a b
 induction a,b using Nat.gcd.induction with
 | H0 b=>intro _ h;rw [Nat.gcd_zero_left];exact h
 | H1 a b ha ih =>
  intro h1 h2
  rw [Nat.gcd_rec]
  exact ih (Qbb h2 h1) h1
theorem lucas {p g:Nat} (l:List Nat) (hp:1 < p) (hl:∀ q∈l,Pr q) (hm:l.foldr (·*·) 1=p-1) (h1:g ^ (p-1)%p=1) (hq:∀ q∈l,g ^ ((p-1) / q)%p≠1):∀ a,0 < a→a < p→a ^ (p-1)%p=1:=by
 have one:1%p=1:=Nat.mod_eq_of_lt hp
 have ord:∀ d,0 < d→d < p-1→g ^ d%p≠1:=fun d h2 h3 h4=>by
  have h5:=Qbc (p:=p) (g:=g) d (p-1) (by rw [h4,one]) (by rw [h1,one])
  have h6:Nat.gcd d (p-1) ∣ p-1:=Nat.gcd_dvd_right _ _
  have h7:Nat.gcd d (p-1)≤d:=Nat.le_of_dvd h2 (Nat.gcd_dvd_left _ _)
  have h8:0 < Nat.gcd d (p-1):=Nat.gcd_pos_of_pos_left _ h2
  generalize Nat.gcd d (p-1)=e at *
  obtain ⟨m,hm2⟩:=h6
  have h9:1 < m:=by
   rcases Nat.lt_or_ge 1 m with h | h
   ·exact h
   ·exfalso
    have:m=0∨m=1:=by omega
    rcases this with rfl | rfl <;> simp at hm2 <;> omega
  obtain ⟨q,hqp,hqm⟩:=QeE m h9
  have hin:q∈l:=hqp.mem hl (by rw [hm,hm2];exact Nat.dvd_trans hqm ⟨e,Nat.mul_comm _ _⟩)
  refine hq q hin ?_
  obtain ⟨k,rfl⟩:=hqm
  have:(p-1) / q=e*k:=by
   rw [hm2,Nat.mul_left_comm,Nat.mul_div_cancel_left _ (by have:=hqp.1;omega)]
  rw [this,Nat.pow_mul,Nat.pow_mod,h5,← Nat.pow_mod,Nat.one_pow,one]
 have unit:∀ i,i≤p-1→g ^ i%p*(g ^ (p-1-i)%p)%p=1:=fun i hi=>by
  rw [← Nat.mul_mod,← Nat.pow_add,show i+(p-1-i)=p-1 by omega,h1]
 have inj:∀ i j,i < j→j < p-1→g ^ i%p≠g ^ j%p:=fun i j h2 h3 h4=>by
  refine ord (j-i) (by omega) (by omega) ?_
  have u:=unit i (by omega)
  have:g ^ j%p=g ^ (j-i)%p*(g ^ i%p)%p:=by rw [← Nat.mul_mod,← Nat.pow_add,show j-i+i=j by omega]
  rw [h4] at u
  have e2:g ^ (j-i)%p*(g ^ i%p)%p*(g ^ (p-1-i)%p)%p=g ^ (j-i)%p:=by
   rw [Nat.mod_mul_mod,Nat.mul_assoc,Nat.mul_mod,h4,u,Nat.mul_one,Nat.mod_mod,Nat.mod_mod]
  rw [← this,u] at e2
  exact e2.symm
 intro a ha hap
 have hall:=fills (ys:=(List.range (p-1)).map fun i=>g ^ i%p) (T:=(List.range (p-1)).map (·+1)) (by
  rw [List.nodup_iff_pairwise_ne,List.pairwise_map]
  exact List.pairwise_lt_range.imp_of_mem fun {i j} hi hj hij=>inj i j hij (List.mem_range.1 hj)) (fun y hy=>by
  obtain ⟨i,hi,rfl⟩:=List.mem_map.1 hy
  have u:=unit i (by have:=List.mem_range.1 hi;omega)
  have:g ^ i%p≠0:=fun e=>by rw [e] at u;simp at u
  have:=Nat.mod_lt (g ^ i) (show 0 < p by omega)
  exact List.mem_map.2 ⟨g ^ i%p-1,List.mem_range.2 (by omega),by omega⟩) (by simp) a (List.mem_map.2 ⟨a-1,List.mem_range.2 (by omega),by omega⟩)
 obtain ⟨i,hi,rfl⟩:=List.mem_map.1 hall
 rw [← Nat.pow_mod,← Nat.pow_mul,Nat.mul_comm,Nat.pow_mul,Nat.pow_mod,h1,Nat.one_pow,one]
theorem Qbu {p:Nat} (hp:1 < p) (h:∀ a,0 < a→a < p→a ^ (p-1)%p=1):Pr p:=by
 refine ⟨hp,fun d hd=>?_⟩
 apply Classical.byContradiction
 intro hc
 have hle:=Nat.le_of_dvd (by omega) hd
 have hd0:d≠0:=fun e=>by rw [e] at hd;have:=Nat.eq_zero_of_zero_dvd hd;omega
 have h1:=h d (by omega) (by omega)
 have h2:d ∣ d ^ (p-1):=by
  obtain ⟨k,hk⟩:∃ k,p-1=k+1:=⟨p-2,by omega⟩
  rw [hk,Nat.pow_succ];exact ⟨_,Nat.mul_comm _ _⟩
 have h3:d ∣ d ^ (p-1)%p:=(Nat.dvd_mod_iff hd).2 h2
 rw [h1] at h3
 have:=Nat.le_of_dvd (by decide) h3
 omega
def sm:Nat→(Nat→Int)→Int
 | 0,_=>0
 | n+1,f=>sm n f+f n
theorem XK:∀ {n:Nat} {f g:Nat→Int},(∀ i,i < n→f i=g i)→sm n f=sm n g
 | 0,_,_,_=>rfl
 | n+1,f,g,h=>by unfold sm;rw [XK fun i hi=>h i (by omega),h n (by omega)]
theorem qU {p:Nat}:∀ {n:Nat} {f g:Nat→Int},(∀ i,i < n→Cg p (f i) (g i))→Cg p (sm n f) (sm n g)
 | 0,_,_,_=>Cg.rfl
 | n+1,f,g,h=>by unfold sm;exact (qU fun i hi=>h i (by omega)).add (h n (by omega))
theorem sm_zero:∀ {n:Nat},sm n (fun _=>0)=0
 | 0=>rfl
 | n+1=>by unfold sm;rw [sm_zero];rfl
theorem Qfx:∀ {n:Nat},sm n (fun _=>1)=n
 | 0=>rfl
 | n+1=>by unfold sm;rw [Qfx];rfl
theorem V2:∀ {n:Nat} {f g:Nat→Int},sm n (fun i=>f i+g i)=sm n f+sm n g
 | 0,_,_=>rfl
 | n+1,f,g=>by simp only [sm];rw [V2];omega
theorem Zh (k:Int):∀ {n:Nat} {f:Nat→Int},sm n (fun i=>k*f i)=k*sm n f
 | 0,_=>by simp [sm]
 | n+1,f=>by unfold sm;rw [Zh k,Int.mul_add]
theorem QiE (k:Int) {n:Nat} {f:Nat→Int}:sm n (fun i=>f i*k)=sm n f*k:=by
 rw [Int.mul_comm,← Zh];exact XK fun i _=>Int.mul_comm _ _
theorem QcZ:∀ {n m:Nat} {f:Nat→Nat→Int},sm n (fun i=>sm m fun j=>f i j)=sm m fun j=>sm n fun i=>f i j
 | 0,m,f=>by simp only [sm];exact sm_zero.symm
 | n+1,m,f=>by
  simp only [sm]
  rw [QcZ (n:=n),← V2]
theorem Qc1:∀ {n:Nat} {f:Nat→Int},sm (2*n) f=sm n (fun i=>f (2*i))+sm n fun i=>f (2*i+1)
 | 0,_=>rfl
 | n+1,f=>by
  rw [show 2*(n+1)=2*n+1+1 by omega]
  simp only [sm]
  rw [Qc1 (n:=n)]
  omega
theorem Qfz (k:Nat) (x:Int):∀ {n:Nat},k < n→sm n (fun i=>if i=k then x else 0)=x
 | n+1,h=>by
  simp only [sm]
  by_cases e:n=k
  ·subst e
   rw [if_pos rfl,XK (g:=fun _=>0) fun i hi=>if_neg (by omega),sm_zero];omega
  ·rw [if_neg e,Qfz k x (n:=n) (by omega)];omega
theorem Cg.pow {p:Nat} {a b:Int} (h:Cg p a b):∀ n:Nat,Cg p (a ^ n) (b ^ n)
 | 0=>by rw [Int.pow_zero,Int.pow_zero];exact Cg.rfl
 | n+1=>by rw [Int.pow_succ,Int.pow_succ];exact (Cg.pow h n).mul h
theorem YW:∀ n:Nat,(1:Int) ^ n=1
 | 0=>rfl
 | n+1=>by rw [Int.pow_succ,YW];rfl
theorem V1 (w:Int) (n:Nat):(w*w) ^ n=w ^ (2*n):=by
 rw [Int.pow_mul,Int.pow_succ,Int.pow_succ,Int.pow_zero,Int.one_mul]
def evs:List Nat→List Nat
 | x::_::l=>x::evs l
 | l=>l
def ods:List Nat→List Nat
 | _::y::l=>y::ods l
 | _=>[]
theorem zZ:∀ (l:List Nat) (n i:Nat),l.length=2*n→i < n→(evs l).getD i 0=l.getD (2*i) 0
 | [],n,i,h,hi=>by simp at h;omega
 | [x],n,i,h,hi=>by simp at h;omega
 | x::y::l,n,0,h,hi=>rfl
 | x::y::l,n,i+1,h,hi=>by
  have:=zZ l (n-1) i (by simp at h;omega) (by omega)
  rw [show 2*(i+1)=2*i+2 by omega]
  exact this
theorem zU:∀ (l:List Nat) (n i:Nat),l.length=2*n→i < n→(ods l).getD i 0=l.getD (2*i+1) 0
 | [],n,i,h,hi=>by simp at h;omega
 | [x],n,i,h,hi=>by simp at h;omega
 | x::y::l,n,0,h,hi=>rfl
 | x::y::l,n,i+1,h,hi=>by
  have:=zU l (n-1) i (by simp at h;omega) (by omega)
  rw [show 2*(i+1)+1=2*i+1+2 by omega]
  exact this
theorem Jv:∀ (l:List Nat) (n:Nat),l.length=2*n→(evs l).length=n
 | [],n,h=>by simp at h;simp [evs];omega
 | [x],n,h=>by simp at h;omega
 | x::y::l,n,h=>by have:=Jv l (n-1) (by simp at h;omega);simp at h;simp [evs,this];omega
theorem yh:∀ (l:List Nat) (n:Nat),l.length=2*n→(ods l).length=n
 | [],n,h=>by simp at h;simp [ods];omega
 | [x],n,h=>by simp at h;omega
 | x::y::l,n,h=>by have:=yh l (n-1) (by simp at h;omega);simp at h;simp [ods,this];omega
theorem zY:∀ (l:List Nat),∀ x∈evs l,x∈l
 | [],x,h=>h
 | [y],x,h=>h
 | y::z::l,x,h=>by
  rcases List.mem_cons.1 (show x∈y::evs l from h) with rfl | h
  ·exact .head _
  ·exact .tail _ (.tail _ (zY l x h))
theorem Qah:∀ (l:List Nat),∀ x∈ods l,x∈l
 | [],x,h=>by simp [ods] at h
 | [y],x,h=>by simp [ods] at h
 | y::z::l,x,h=>by
  rcases List.mem_cons.1 (show x∈z::ods l from h) with rfl | h
  ·exact .tail _ (.head _)
  ·exact .tail _ (.tail _ (Qah l x h))
def pwM (p w:Nat):Nat→Nat
 | 0=>1
 | n+1=>pwM p w n*w%p
theorem V5 {p w:Nat}:∀ n,Cg p (pwM p w n:Nat) ((w:Int) ^ n)
 | 0=>Cg.of_eq (by rw [Int.pow_zero];rfl)
 | n+1=>by
  unfold pwM
  rw [Int.pow_succ]
  refine Cg.modN.trans ?_
  rw [Int.natCast_mul]
  exact (V5 n).mul Cg.rfl
theorem Qch {p w:Nat} (hp:1 < p):∀ n,pwM p w n < p
 | 0=>hp
 | n+1=>Nat.mod_lt _ (by omega)
def trM (p:Nat):Nat→List Nat→Nat→List Nat
 | 0,cs,_=>cs
 | s+1,cs,w =>
  ((List.range (2 ^ s)).map fun i=>adM p ((trM p s (evs cs) (w*w%p)).getD i 0) (pwM p w i*(trM p s (ods cs) (w*w%p)).getD i 0%p)) ++
  ((List.range (2 ^ s)).map fun i=>sbM p ((trM p s (evs cs) (w*w%p)).getD i 0) (pwM p w i*(trM p s (ods cs) (w*w%p)).getD i 0%p))
theorem ZI (p:Nat):∀ (s:Nat) (cs:List Nat) (w:Nat),cs.length=2 ^ s→(trM p s cs w).length=2 ^ s
 | 0,cs,w,h=>h
 | s+1,cs,w,h=>by unfold trM;simp [Nat.pow_succ];omega
def Rt (p s w:Nat):Prop:=s=0∨Cg p ((w:Int) ^ (2 ^ (s-1))) (-1)
theorem Rt.sq {p s w:Nat} (h:Rt p (s+1) w):Rt p s (w*w%p):=by
 cases s with
 | zero=>exact .inl rfl
 | succ s =>
  refine .inr ?_
  have h:=h.resolve_left (by omega)
  refine ((Cg.modN.pow _).trans ?_)
  rw [Int.natCast_mul,V1]
  have e:2*2 ^ (s+1-1)=2 ^ (s+1+1-1):=by rw [show s+1+1-1=s+1 by omega,show s+1-1=s by omega,Nat.pow_succ];omega
  rw [e];exact h
theorem Uf {p:Nat} (hp:1 < p):∀ (s:Nat) (cs:List Nat) (w:Nat),cs.length=2 ^ s→(∀ x∈cs,x < p)→Rt p s w →
  (∀ x∈trM p s cs w,x < p)∧∀ k,k < 2 ^ s→Cg p ((trM p s cs w).getD k 0:Nat) (sm (2 ^ s) fun i=>((cs.getD i 0:Nat):Int)*(w:Int) ^ (i*k))
 | 0,cs,w,hl,hc,_=>by
  refine ⟨hc,fun k hk=>?_⟩
  have:k=0:=by omega
  subst this
  refine Cg.of_eq ?_
  simp [trM,sm]
 | s+1,cs,w,hl,hc,hr=>by
  have hl2:cs.length=2*2 ^ s:=by rw [hl,Nat.pow_succ];omega
  obtain ⟨a1,a2⟩:=Uf hp s (evs cs) (w*w%p) (Jv cs _ hl2) (fun x hx=>hc x (zY cs x hx)) hr.sq
  obtain ⟨b1,b2⟩:=Uf hp s (ods cs) (w*w%p) (yh cs _ hl2) (fun x hx=>hc x (Qah cs x hx)) hr.sq
  have la:=ZI p s (evs cs) (w*w%p) (Jv cs _ hl2)
  have lb:=ZI p s (ods cs) (w*w%p) (yh cs _ hl2)
  have ga:∀ i,i < 2 ^ s→(trM p s (evs cs) (w*w%p)).getD i 0 < p:=fun i hi=>by
   rw [List.getD_eq_getElem?_getD,List.getElem?_eq_getElem (by omega)];exact a1 _ (List.getElem_mem _)
  have hw:Cg p ((w:Int) ^ 2 ^ s) (-1):=hr.resolve_left (by omega)
  have sq:∀ n:Nat,Cg p (((w*w%p:Nat):Int) ^ n) ((w:Int) ^ (2*n)):=fun n=>by
   rw [← V1,← Int.natCast_mul];exact Cg.modN.pow n
  refine ⟨fun x hx=>?_,fun k hk=>?_⟩
  ·unfold trM at hx
   rcases List.mem_append.1 hx with h | h <;> obtain ⟨i,hi,rfl⟩:=List.mem_map.1 h
   ·exact QcK (ga i (List.mem_range.1 hi)) (Nat.mod_lt _ (by omega))
   ·exact yQ (ga i (List.mem_range.1 hi))
  ·rw [show 2 ^ (s+1)=2*2 ^ s by rw [Nat.pow_succ];omega] at hk ⊢
   rw [Qc1]
   by_cases h:k < 2 ^ s
   ·have e:(trM p (s+1) cs w).getD k 0=adM p ((trM p s (evs cs) (w*w%p)).getD k 0) (pwM p w k*(trM p s (ods cs) (w*w%p)).getD k 0%p):=by
     show (_++_:List Nat).getD k 0=_
     rw [List.getD_eq_getElem?_getD,List.getElem?_append_left (by simpa using h)]
     simp [h]
    rw [e]
    refine adM_cg.trans (Cg.add ((a2 k h).trans (qU fun i hi=>?_)) (Cg.modN.trans ?_))
    ·rw [zZ cs _ i hl2 hi]
     refine Cg.rfl.mul ((sq _).trans (Cg.of_eq ?_))
     rw [Nat.mul_assoc]
    ·rw [Int.natCast_mul]
     refine ((V5 k).mul (b2 k h)).trans ?_
     rw [← Zh]
     refine qU fun i hi=>?_
     rw [zU cs _ i hl2 hi,Int.mul_left_comm]
     refine Cg.rfl.mul ((Cg.rfl.mul (sq _)).trans (Cg.of_eq ?_))
     rw [← Int.pow_add]
     congr 1
     rw [Nat.add_mul,Nat.one_mul,Nat.mul_assoc];omega
   ·obtain ⟨m,rfl⟩:∃ m,k=2 ^ s+m:=⟨k-2 ^ s,by omega⟩
    have hm:m < 2 ^ s:=by omega
    have e:(trM p (s+1) cs w).getD (2 ^ s+m) 0=sbM p ((trM p s (evs cs) (w*w%p)).getD m 0) (pwM p w m*(trM p s (ods cs) (w*w%p)).getD m 0%p):=by
     show (_++_:List Nat).getD (2 ^ s+m) 0=_
     rw [List.getD_eq_getElem?_getD,List.getElem?_append_right (by simp)]
     simp [hm]
    rw [e]
    have w2:∀ i:Nat,Cg p ((w:Int) ^ (2*i*(2 ^ s+m))) ((w:Int) ^ (2*(i*m))):=fun i=>by
     rw [show 2*i*(2 ^ s+m)=2 ^ s*(2*i)+2*(i*m) by rw [Nat.mul_add,Nat.mul_comm (2*i) (2 ^ s),Nat.mul_assoc 2 i m],Int.pow_add,Int.pow_mul]
     refine (Cg.mul ((hw.pow (2*i)).trans (Cg.of_eq ?_)) Cg.rfl).trans (Cg.of_eq (Int.one_mul _))
     rw [Int.pow_mul]
     exact YW i
    have fin:Cg p (((trM p s (evs cs) (w*w%p)).getD m 0:Nat)-((pwM p w m*(trM p s (ods cs) (w*w%p)).getD m 0%p:Nat):Int)) ((sm (2 ^ s) fun i=>((cs.getD (2*i) 0:Nat):Int)*(w:Int) ^ (2*i*(2 ^ s+m))) - -(sm (2 ^ s) fun i=>((cs.getD (2*i+1) 0:Nat):Int)*(w:Int) ^ ((2*i+1)*(2 ^ s+m)))):=?_
    exact (Qca (Nat.le_of_lt (Nat.mod_lt _ (by omega)))).trans (fin.trans (Cg.of_eq (by omega)))
    refine Cg.sub ((a2 m hm).trans (qU fun i hi=>?_)) (Cg.modN.trans ?_)
    ·rw [zZ cs _ i hl2 hi]
     exact Cg.rfl.mul ((sq _).trans (w2 i).symm)
    ·rw [Int.natCast_mul]
     refine ((V5 m).mul (b2 m hm)).trans ?_
     rw [← Zh,show -(sm (2 ^ s) fun i=>((cs.getD (2*i+1) 0:Nat):Int)*(w:Int) ^ ((2*i+1)*(2 ^ s+m)))=sm (2 ^ s) fun i => -1*(((cs.getD (2*i+1) 0:Nat):Int)*(w:Int) ^ ((2*i+1)*(2 ^ s+m))) by rw [Zh];omega]
     refine qU fun i hi=>?_
     rw [zU cs _ i hl2 hi,Int.mul_left_comm,Int.mul_left_comm (-1)]
     refine Cg.rfl.mul ((Cg.rfl.mul (sq _)).trans ?_)
     rw [Nat.add_mul,Nat.one_mul,Int.pow_add,Int.pow_add]
     refine Cg.symm (((Cg.rfl.mul ((w2 i).mul (hw.mul Cg.rfl)))).trans (Cg.of_eq ?_))
     grind
theorem geo {x:Int}:∀ n:Nat,(x-1)*sm n (fun i=>x ^ i)=x ^ n-1
 | 0=>by simp [sm]
 | n+1=>by
  simp only [sm]
  rw [Int.mul_add,geo n,Int.pow_succ,Int.sub_mul,Int.mul_comm (x ^ n)];omega
