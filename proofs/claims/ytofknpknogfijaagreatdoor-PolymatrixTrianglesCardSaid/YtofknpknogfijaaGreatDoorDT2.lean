/- Determinants of numbers,plain: expansion along the first row;rows and columns exchanged;rows added. -/
namespace Go.Proofs.YtofknpknogfijaaGreatDoor
set_option linter.unusedVariables false
abbrev Row:=Nat→Int
def alt (f:Nat→List Nat→Int):List Nat→Int
  | []=>0
  | c::cs=>f c cs-alt (fun d ds=>f d (c::ds)) cs
def D:List Row→List Nat→Int
  | [],_=>1
  | r::rs,cs=>alt (fun c ds=>r c*D rs ds) cs
theorem Z6:∀ {cs:List Nat} {f g:Nat→List Nat→Int},(∀ c ds,c∈cs→ds.length+1=cs.length→(∀ d∈ds,d∈cs)→f c ds=g c ds)→alt f cs=alt g cs
  | [],_,_,_=>rfl
  | c::cs,f,g,h=>by
    unfold alt
    rw [h c cs (.head _) rfl (fun d hd=>.tail _ hd),Z6 fun d ds hd hl hs=>h d (c::ds) (.tail _ hd) (by simp [← hl]) fun e he=>?_]
    rcases List.mem_cons.1 he with rfl | he
    · exact .head _
    · exact .tail _ (hs e he)
theorem Y6 {cs:List Nat} {f g:Nat→List Nat→Int} (h:∀ c ds,f c ds=g c ds):alt f cs=alt g cs:=Z6 fun c ds _ _ _=>h c ds
theorem ZE:∀ {cs:List Nat},alt (fun _ _=>0) cs=0
  | []=>rfl
  | c::cs=>by unfold alt;rw [ZE];rfl
theorem zl:∀ {cs:List Nat} {f g:Nat→List Nat→Int},alt (fun c ds=>f c ds+g c ds) cs=alt f cs+alt g cs
  | [],_,_=>rfl
  | c::cs,f,g=>by unfold alt;rw [zl (f:=fun d ds=>f d (c::ds)) (g:=fun d ds=>g d (c::ds))];omega
theorem Jr (k:Int):∀ {cs:List Nat} {f:Nat→List Nat→Int},alt (fun c ds=>k*f c ds) cs=k*alt f cs
  | [],_=>by simp [alt]
  | c::cs,f=>by unfold alt;rw [Jr k (f:=fun d ds=>f d (c::ds)),Int.mul_sub]
theorem Qha {cs:List Nat} {f:Nat→List Nat→Int}:alt (fun c ds => - f c ds) cs = - alt f cs:=by
  have:=Jr (-1) (cs:=cs) (f:=f)
  simpa using this
theorem Qg9 {cs:List Nat} {f g:Nat→List Nat→Int}:alt (fun c ds=>f c ds-g c ds) cs=alt f cs-alt g cs:=by
  rw [show alt f cs-alt g cs=alt f cs + - alt g cs by omega,← Qha,← zl]
  exact Y6 fun c ds=>by omega
def Qfr (a b:Row) (G:List Nat→Int) (cs:List Nat):Int:=alt (fun c ds=>a c*alt (fun d es=>b d*G es) ds) cs
theorem UJ (a b:Row) (G:List Nat→Int) (c:Nat) (cs:List Nat) :
    Qfr a b G (c::cs)=a c*alt (fun d es=>b d*G es) cs-b c*alt (fun d es=>a d*G es) cs+Qfr a b (fun es=>G (c::es)) cs:=by
  unfold Qfr
  conv=>lhs;unfold alt
  have e:alt (fun d ds=>a d*alt (fun e es=>b e*G es) (c::ds)) cs=b c*alt (fun d es=>a d*G es) cs-alt (fun d ds=>a d*alt (fun e es=>b e*G (c::es)) ds) cs:=by
    rw [← Jr,← Qg9]
    refine Y6 fun d ds=>?_
    conv=>lhs;unfold alt
    rw [Int.mul_sub]
    congr 1
    rw [← Int.mul_assoc,← Int.mul_assoc,Int.mul_comm (a d)]
  rw [e];show _=_-_+alt (fun d ds=>a d*alt (fun e es=>b e*G (c::es)) ds) cs;omega
theorem UI (a b:Row):∀ (cs:List Nat) (G:List Nat→Int),Qfr a b G cs = - Qfr b a G cs
  | [],_=>rfl
  | c::cs,G=>by rw [UJ,UJ,UI a b cs];omega
theorem J0 (a b:Row) (rs:List Row) (cs:List Nat):D (a::b::rs) cs = - D (b::a::rs) cs:=UI a b cs (D rs)
theorem YG (r:Row) (rs:List Row) (cs:List Nat):D (r::rs) cs=alt (fun c ds=>r c*D rs ds) cs:=rfl
theorem Qih (a:Row):∀ (rs:List Row) (cs:List Nat),a∈rs→D (a::rs) cs=0
  | b::rs,cs,h=>by
    by_cases e:a=b
    · subst e
      have:=J0 a a rs cs
      omega
    · have h':a∈rs:=by
        rcases List.mem_cons.1 h with h | h
        · exact absurd h e
        · exact h
      rw [J0,YG,Y6 (g:=fun _ _=>0) fun c ds=>by rw [Qih a rs ds h',Int.mul_zero],ZE]
      rfl
theorem QkE (a b:Row) (rs:List Row) (cs:List Nat):D ((fun c=>a c+b c)::rs) cs=D (a::rs) cs+D (b::rs) cs:=by
  rw [YG,YG,YG,← zl]
  exact Y6 fun c ds=>Int.add_mul _ _ _
theorem QkD (k:Int) (a:Row) (rs:List Row) (cs:List Nat):D ((fun c=>k*a c)::rs) cs=k*D (a::rs) cs:=by
  rw [YG,YG,← Jr]
  exact Y6 fun c ds=>Int.mul_assoc _ _ _
theorem QfP (r:Row):∀ (rs:List Row) (k:Row→Int) (cs:List Nat),D (r::rs.map fun s c=>s c+k s*r c) cs=D (r::rs) cs
  | [],_,_=>rfl
  | s::rs,k,cs=>by
    rw [List.map_cons,J0,QkE s (fun c=>k s*r c),QkD,Qih r (r::_) cs (.head _),Int.mul_zero,Int.add_zero,J0 r s,YG s,YG s]
    congr 1
    exact Y6 fun c ds=>by rw [QfP r rs k ds]
theorem Qbk (c:Nat):∀ (rs:List Row) (cs:List Nat),rs≠[]→rs.length=cs.length+1→(∀ s∈rs,s c=0)→D rs (c::cs)=0
  | [],_,h,_,_=>absurd rfl h
  | s::rs,cs,_,hl,hz=>by
    rw [YG];unfold alt
    rw [hz s (.head _),Int.zero_mul]
    have:alt (fun d ds=>s d*D rs (c::ds)) cs=0:=by
      rw [Z6 (g:=fun _ _=>0) fun d ds _ hd _=>?_,ZE]
      simp only [List.length_cons] at hl
      rw [Qbk c rs ds (by intro e;rw [e,List.length_nil] at hl;omega) (by omega) fun t ht=>hz t (.tail _ ht),Int.mul_zero]
    rw [this];rfl
theorem D_tri (r:Row) (c:Nat) (rs:List Row) (cs:List Nat) (hl:rs.length=cs.length) (hz:∀ s∈rs,s c=0):D (r::rs) (c::cs)=r c*D rs cs:=by
  rw [YG];unfold alt
  have:alt (fun d ds=>r d*D rs (c::ds)) cs=0:=by
    rw [Z6 (g:=fun _ _=>0) fun d ds _ hd _=>?_,ZE]
    rw [Qbk c rs ds (by intro e;rw [e,List.length_nil] at hl;omega) (by omega) hz,Int.mul_zero]
  rw [this];omega
end Go.Proofs.YtofknpknogfijaaGreatDoor


namespace Go.Proofs.YtofknpknogfijaaGreatDoor
set_option linter.unusedVariables false
def Cg (p:Nat) (a b:Int):Prop:=(p:Int) ∣ a-b
theorem Cg.rfl {p:Nat} {a:Int}:Cg p a a:=by unfold Cg;rw [Int.sub_self];exact Int.dvd_zero _
theorem Cg.of_eq {p:Nat} {a b:Int} (h:a=b):Cg p a b:=h ▸ Cg.rfl
theorem Cg.symm {p:Nat} {a b:Int} (h:Cg p a b):Cg p b a:=by
  obtain ⟨k,h⟩:=h;exact ⟨-k,by rw [Int.mul_neg];omega⟩
theorem Cg.trans {p:Nat} {a b c:Int} (h:Cg p a b) (h2:Cg p b c):Cg p a c:=by
  obtain ⟨k,h⟩:=h;obtain ⟨l,h2⟩:=h2;exact ⟨k+l,by rw [Int.mul_add];omega⟩
theorem Cg.add {p:Nat} {a b c d:Int} (h:Cg p a b) (h2:Cg p c d):Cg p (a+c) (b+d):=by
  obtain ⟨k,h⟩:=h;obtain ⟨l,h2⟩:=h2;exact ⟨k+l,by rw [Int.mul_add];omega⟩
theorem Cg.neg {p:Nat} {a b:Int} (h:Cg p a b):Cg p (-a) (-b):=by
  obtain ⟨k,h⟩:=h;exact ⟨-k,by rw [Int.mul_neg];omega⟩
theorem Cg.sub {p:Nat} {a b c d:Int} (h:Cg p a b) (h2:Cg p c d):Cg p (a-c) (b-d):=by
  obtain ⟨k,h⟩:=h;obtain ⟨l,h2⟩:=h2;exact ⟨k-l,by rw [Int.mul_sub];omega⟩
theorem Cg.mul {p:Nat} {a b c d:Int} (h:Cg p a b) (h2:Cg p c d):Cg p (a*c) (b*d):=by
  obtain ⟨k,h⟩:=h;obtain ⟨l,h2⟩:=h2
  refine ⟨k*c+b*l,?_⟩
  have e1:a*c-b*d=(a-b)*c+b*(c-d):=by rw [Int.sub_mul,Int.mul_sub];omega
  rw [e1,h,h2,Int.mul_add,Int.mul_assoc,Int.mul_left_comm b]
theorem Cg.mod {p:Nat} {a:Int}:Cg p (a%(p:Int)) a:=⟨-(a / p),by have:=Int.emod_add_mul_ediv a p;rw [Int.mul_neg];omega⟩
theorem Cg.modN {p a:Nat}:Cg p ((a%p:Nat):Int) (a:Nat):=by rw [Int.natCast_emod];exact Cg.mod
theorem Cg.eq {p:Nat} {a b:Int} (h:Cg p a b) (hs:(a-b).natAbs < p):a=b:=by
  obtain ⟨k,h⟩:=h
  by_cases hk:k=0
  · subst hk;omega
  · exfalso
    have:(a-b).natAbs=p*k.natAbs:=by rw [h,Int.natAbs_mul];simp
    have h1:1≤k.natAbs:=by omega
    have:=Nat.mul_le_mul_left p h1
    omega
theorem Cg.eqN {p a b:Nat} (h:Cg p (a:Int) (b:Int)) (ha:a < p) (hb:b < p):a=b:=by
  have:=h.eq (by omega);omega
theorem Qfp {p:Nat}:∀ {cs:List Nat} {f g:Nat→List Nat→Int},(∀ c ds,c∈cs→ds.length+1=cs.length→(∀ d∈ds,d∈cs)→Cg p (f c ds) (g c ds))→Cg p (alt f cs) (alt g cs)
  | [],_,_,_=>Cg.rfl
  | c::cs,f,g,h=>by
    unfold alt
    refine (h c cs (.head _) rfl fun d hd=>.tail _ hd).sub (Qfp fun d ds hd hl hs=>h d (c::ds) (.tail _ hd) (by simp [← hl]) fun e he=>?_)
    rcases List.mem_cons.1 he with rfl | he
    · exact .head _
    · exact .tail _ (hs e he)
def RCg (p:Nat) (cs:List Nat) (a b:Row):Prop:=∀ c∈cs,Cg p (a c) (b c)
inductive RsCg (p:Nat) (cs:List Nat):List Row→List Row→Prop
  | nil:RsCg p cs [] []
  | cons {a b:Row} {az bz:List Row}:RCg p cs a b→RsCg p cs az bz→RsCg p cs (a::az) (b::bz)
theorem RsCg.sub {p:Nat} {cs ds:List Nat} (h:∀ d∈ds,d∈cs):∀ {az bz:List Row},RsCg p cs az bz→RsCg p ds az bz
  | _,_,.nil=>.nil
  | _,_,.cons h1 h2=>.cons (fun c hc=>h1 c (h c hc)) (h2.sub h)
theorem QfQ {p:Nat}:∀ {az bz:List Row} {cs:List Nat},RsCg p cs az bz→Cg p (D az cs) (D bz cs)
  | _,_,_,.nil=>Cg.rfl
  | _,_,cs,.cons h1 h2=>by
    rw [YG,YG]
    exact Qfp fun c ds hc hl hs=>(h1 c hc).mul (QfQ (h2.sub hs))
theorem Qcm (post:List Row):∀ (pre:List Row),∃ s:Int,∀ (b:Row) cs,D (pre++b::post) cs=s*D (b::(pre++post)) cs
  | []=>⟨1,fun b cs=>by simp⟩
  | r::pre=>by
    obtain ⟨s,h⟩:=Qcm post pre
    refine ⟨-s,fun b cs=>?_⟩
    rw [List.cons_append,YG,Y6 (g:=fun c ds=>s*(r c*D (b::(pre++post)) ds)) fun c ds=>by rw [h,Int.mul_left_comm],Jr,← YG r,J0]
    rw [Int.neg_mul,Int.mul_neg];rfl
theorem QkC (a b:Row) (pre post:List Row) (cs:List Nat):D (a::(pre++b::post)) cs = - D (b::(pre++a::post)) cs:=by
  obtain ⟨s,h⟩:=Qcm post pre
  have f:∀ a b:Row,D (a::(pre++b::post)) cs=s*D (a::b::(pre++post)) cs:=fun a b=>by
    rw [YG,YG,← Jr]
    exact Y6 fun c ds=>by rw [h,Int.mul_left_comm]
  rw [f a b,f b a,J0,Int.mul_neg]
def sbM (p a b:Nat):Nat:=if a < b then a+p-b else a-b
def adM (p a b:Nat):Nat:=if p≤a+b then a+b-p else a+b
theorem QaI {p a b:Nat} (hb:b≤p):Cg p (sbM p a b:Nat) ((a:Int)-b):=by
  unfold sbM
  split
  · exact ⟨1,by omega⟩
  · exact ⟨0,by omega⟩
theorem yk {p a b:Nat} (ha:a < p):sbM p a b < p:=by unfold sbM;split <;> omega
theorem adM_cg {p a b:Nat}:Cg p (adM p a b:Nat) ((a:Int)+b):=by
  unfold adM
  split
  · exact ⟨-1,by omega⟩
  · exact ⟨0,by omega⟩
theorem Qbg {p a b:Nat} (ha:a < p) (hb:b < p):adM p a b < p:=by unfold adM;split <;> omega
def rw_ (r:List Nat):Row:=fun c=>((r.getD c 0:Nat):Int)
def elR (p k f:Nat) (piv r:List Nat):List Nat:=r.mapIdx fun c x=>if k < c then sbM p x (f*piv.getD c 0%p) else x
def pick (k:Nat):List (List Nat)→Option (List (List Nat) × List Nat × List (List Nat))
  | []=>none
  | r::rs=>if r.getD k 0≠0 then some ([],r,rs) else (pick k rs).map fun x=>(r::x.1,x.2)
theorem Um {k:Nat}:∀ {rs:List (List Nat)},pick k rs=none→∀ r∈rs,r.getD k 0=0
  | r::rs,h,s,hs=>by
    unfold pick at h
    split at h
    · cases h
    · rename_i h0
      rcases List.mem_cons.1 hs with rfl | hs
      · exact Decidable.not_not.1 h0
      · exact Um (Option.map_eq_none_iff.1 h) s hs
theorem Ul {k:Nat}:∀ {rs:List (List Nat)} {a b c},pick k rs=some (a,b,c)→rs=a++b::c∧b.getD k 0≠0∧∀ r∈a,r.getD k 0=0
  | r::rs,a,b,c,h=>by
    unfold pick at h
    split at h
    · rename_i h0
      simp only [Option.some.injEq,Prod.mk.injEq] at h
      obtain ⟨rfl,rfl,rfl⟩:=h
      exact ⟨rfl,h0,by simp⟩
    · rename_i h0
      obtain ⟨⟨x,y,z⟩,h1,h2⟩:=Option.map_eq_some_iff.1 h
      simp only [Prod.mk.injEq] at h2
      obtain ⟨rfl,rfl,rfl⟩:=h2
      obtain ⟨e,h3,h4⟩:=Ul h1
      refine ⟨by rw [e];rfl,h3,fun s hs=>?_⟩
      rcases List.mem_cons.1 hs with rfl | hs
      · exact Decidable.not_not.1 h0
      · exact h4 s hs
def X9 (a:List (List Nat)) (c:List (List Nat)):List (List Nat):=match a with
  | []=>c
  | x::a=>a++x::c
def qr (p:Nat) (inv:Nat→Nat):Nat→Nat→List (List Nat)→Nat→Nat
  | 0,_,_,d=>d
  | m+1,k,rs,d=>match pick k rs with
    | none=>0
    | some (a,b,c) =>
      qr p inv m (k+1) ((X9 a c).map fun r=>elR p k (r.getD k 0*inv (b.getD k 0)%p) b r) ((if a=[] then d else sbM p 0 d)*b.getD k 0%p)
def FOK (p:Nat) (inv:Nat→Nat):Prop:=∀ a,0 < a→a < p→a*inv a%p=1
theorem QgP {p k f:Nat} {piv r:List Nat} {c:Nat} (hk:k < c) (hc:c < r.length):(elR p k f piv r).getD c 0=sbM p (r.getD c 0) (f*piv.getD c 0%p):=by
  unfold elR
  simp only [List.getD_eq_getElem?_getD,List.getElem?_mapIdx]
  rw [List.getElem?_eq_getElem hc]
  simp [hk]
theorem UF {p:Nat} {inv:Nat→Nat} (hF:FOK p inv) (hp:1 < p) (n:Nat):∀ (m k:Nat) (rs:List (List Nat)) (d:Nat),m+k=n→rs.length=m→(∀ r∈rs,r.length=n∧∀ x∈r,x < p)→d < p →
    qr p inv m k rs d < p∧Cg p (qr p inv m k rs d:Nat) ((d:Int)*D (rs.map rw_) (List.range' k m))
  | 0,k,rs,d,hn,hl,hr,hd=>by
    have:rs=[]:=List.length_eq_zero_iff.1 hl
    subst this
    exact ⟨hd,Cg.of_eq (by simp [qr,D])⟩
  | m+1,k,rs,d,hn,hl,hr,hd=>by
    unfold qr
    split
    · rename_i hpk
      refine ⟨by omega,Cg.of_eq ?_⟩
      have hz:=Um hpk
      rw [List.range'_succ,Qbk k (rs.map rw_) _ (by intro e;rw [List.map_eq_nil_iff] at e;rw [e] at hl;simp at hl) (by simp [hl]) fun s hs=>by
        obtain ⟨r,hr,rfl⟩:=List.mem_map.1 hs
        show ((r.getD k 0:Nat):Int)=0
        rw [hz r hr];rfl]
      simp
    · rename_i a b c hpk
      obtain ⟨rfl,hb0,-⟩:=Ul hpk
      have hb:=hr b (by simp)
      have hbk:k < b.length:=by omega
      have hbp:b.getD k 0 < p:=by
        rw [List.getD_eq_getElem?_getD,List.getElem?_eq_getElem hbk]
        exact hb.2 _ (List.getElem_mem _)
      have hinv:=hF (b.getD k 0) (by omega) hbp
      have hos:∀ r∈X9 a c,r∈a++b::c:=by
        intro r hr
        cases a with
        | nil=>exact .tail _ hr
        | cons x a =>
          have:r∈a++x::c:=hr
          simp only [List.mem_append,List.mem_cons] at this ⊢
          rcases this with h | h | h <;> simp [h]
      have hol:(X9 a c).length=m:=by
        cases a with
        | nil=>simpa [X9] using hl
        | cons x a=>simp [X9] at hl ⊢;omega
      have hd':(if a=[] then d else sbM p 0 d) < p:=by
        split
        · exact hd
        · exact yk (by omega)
      obtain ⟨h1,h2⟩:=UF hF hp n m (k+1) ((X9 a c).map fun r=>elR p k (r.getD k 0*inv (b.getD k 0)%p) b r) ((if a=[] then d else sbM p 0 d)*b.getD k 0%p) (by omega) (by simp [hol]) (fun r hr'=>by
        obtain ⟨s,hs,rfl⟩:=List.mem_map.1 hr'
        have:=hr s (hos s hs)
        refine ⟨by simp [elR,this.1],fun x hx=>?_⟩
        unfold elR at hx
        rw [List.mem_mapIdx] at hx
        obtain ⟨i,hi,rfl⟩:=hx
        have:=this.2 _ (List.getElem_mem hi)
        split
        · exact yk this
        · exact this) (Nat.mod_lt _ (by omega))
      refine ⟨h1,h2.trans ?_⟩
      have e1:Cg p ((((if a=[] then d else sbM p 0 d)*b.getD k 0%p:Nat)):Int) (((if a=[] then d else sbM p 0 d:Nat):Int)*rw_ b k):=Cg.modN.trans (Cg.of_eq (by rw [Int.natCast_mul];rfl))
      have e2:Cg p (D (((X9 a c).map fun r=>elR p k (r.getD k 0*inv (b.getD k 0)%p) b r).map rw_) (List.range' (k+1) m))
          (D (((X9 a c).map rw_).map fun s c=>s c + -(s k*(inv (b.getD k 0):Nat))*rw_ b c) (List.range' (k+1) m)):=by
        refine QfQ ?_
        have:∀ os:List (List Nat),(∀ r∈os,r∈a++b::c)→RsCg p (List.range' (k+1) m) ((os.map fun r=>elR p k (r.getD k 0*inv (b.getD k 0)%p) b r).map rw_) ((os.map rw_).map fun s c=>s c + -(s k*(inv (b.getD k 0):Nat))*rw_ b c):=by
          intro os
          induction os with
          | nil=>intro _;exact .nil
          | cons r os ih =>
            intro h
            refine .cons (fun x hx=>?_) (ih fun r hr=>h r (.tail _ hr))
            have hr1:=hr r (h r (.head _))
            rw [List.mem_range'_1] at hx
            unfold rw_
            rw [QgP (by omega) (by omega)]
            refine (QaI (Nat.le_of_lt (Nat.mod_lt _ (by omega)))).trans ?_
            show Cg p _ (((r.getD x 0:Nat):Int) + -(((r.getD k 0:Nat):Int)*(inv (b.getD k 0):Nat))*((b.getD x 0:Nat):Int))
            rw [Int.neg_mul,← Int.sub_eq_add_neg]
            refine Cg.rfl.sub (Cg.modN.trans ?_)
            rw [Int.natCast_mul]
            refine Cg.mul (Cg.modN.trans (Cg.of_eq (by rw [Int.natCast_mul]))) Cg.rfl
        exact this _ hos
      have e3:Cg p (rw_ b k*D (((X9 a c).map rw_).map fun s c=>s c + -(s k*(inv (b.getD k 0):Nat))*rw_ b c) (List.range' (k+1) m)) (D (rw_ b::(X9 a c).map rw_) (List.range' k (m+1))):=by
        rw [← QfP (rw_ b) ((X9 a c).map rw_) (fun s => -(s k*(inv (b.getD k 0):Nat))) (List.range' k (m+1)),List.range'_succ]
        have hz:Cg p (rw_ b k*(inv (b.getD k 0):Nat)) 1:=by
          have:Cg p ((b.getD k 0*inv (b.getD k 0):Nat):Int) ((1:Nat):Int):=by rw [← hinv];exact Cg.modN.symm
          rw [Int.natCast_mul] at this
          exact this
        refine Cg.symm ((QfQ (bz:=rw_ b::(((X9 a c).map rw_).map fun s c=>if c=k then 0 else s c + -(s k*(inv (b.getD k 0):Nat))*rw_ b c)) (.cons (fun _ _=>Cg.rfl) ?_)).trans ?_)
        · generalize (X9 a c).map rw_=os
          induction os with
          | nil=>exact .nil
          | cons s os ih =>
            refine .cons (fun x hx=>?_) ih
            by_cases hxk:x=k
            · subst hxk
              simp only [if_pos]
              have:Cg p (s x*(1 + -(rw_ b x*(inv (b.getD x 0):Nat)))) (s x*(1 + -1)):=Cg.rfl.mul (Cg.rfl.add hz.neg)
              refine (Cg.of_eq ?_).trans (this.trans (Cg.of_eq (by simp)))
              rw [Int.mul_add,Int.mul_one,Int.mul_neg,Int.neg_mul,Int.mul_assoc,Int.mul_comm (rw_ b x)]
            · simp only [if_neg hxk];exact Cg.rfl
        · rw [D_tri _ _ _ _ (by simp [hol]) (fun s hs=>by
            obtain ⟨t,ht,rfl⟩:=List.mem_map.1 hs
            simp)]
          refine Cg.rfl.mul (QfQ ?_)
          generalize (X9 a c).map rw_=os
          induction os with
          | nil=>exact .nil
          | cons s os ih =>
            refine .cons (fun x hx=>?_) ih
            rw [List.mem_range'_1] at hx
            simp only [if_neg (show ¬ x=k by omega)];exact Cg.rfl
      have e4:Cg p (((if a=[] then d else sbM p 0 d:Nat):Int)*D (rw_ b::(X9 a c).map rw_) (List.range' k (m+1))) ((d:Int)*D ((a++b::c).map rw_) (List.range' k (m+1))):=by
        cases a with
        | nil=>rw [if_pos rfl];exact Cg.rfl
        | cons x a =>
          rw [if_neg (by simp)]
          have:D (((x::a)++b::c).map rw_) (List.range' k (m+1)) = - D (rw_ b::(X9 (x::a) c).map rw_) (List.range' k (m+1)):=by
            show D ((x::(a++b::c)).map rw_) _ = - D (rw_ b::(a++x::c).map rw_) _
            rw [List.map_cons,List.map_append,List.map_cons,List.map_append,List.map_cons]
            exact QkC _ _ _ _ _
          rw [this,Int.mul_neg,← Int.neg_mul]
          refine Cg.mul ((QaI (Nat.le_of_lt hd)).trans (Cg.of_eq (by omega))) Cg.rfl
      refine (e1.mul e2).trans (Cg.trans ?_ e4)
      rw [Int.mul_assoc]
      exact Cg.rfl.mul e3
end Go.Proofs.YtofknpknogfijaaGreatDoor

