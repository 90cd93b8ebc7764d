/- Primes,plain: Lucas' test. -/
import Derived.Test.YtofknpknogfijaaGreatDoorDT2
import Derived.Test.YtofknpknogfijaaGreatDoorMU
namespace Go.Proofs.YtofknpknogfijaaGreatDoor
set_option linter.unusedVariables false
def Pr (q:Nat):Prop:=1 < q∧∀ d,d ∣ q→d=1∨d=q
theorem QcS:∀ (m:Nat),1 < m→∃ q,Pr q∧q ∣ m:=by
  intro m
  induction m using Nat.strongRecOn with
  | _ m ih =>
    intro h
    by_cases hp:∀ d,d ∣ m→d=1∨d=m
    · exact ⟨m,⟨h,hp⟩,Nat.dvd_refl _⟩
    · obtain ⟨d,hd⟩:=Classical.not_forall.1 hp
      have h1:d ∣ m:=Classical.byContradiction fun h=>hd fun h'=>absurd h' h
      have h2:d≠1∧d≠m:=⟨fun e=>hd fun _=>.inl e,fun e=>hd fun _=>.inr e⟩
      have h3:=Nat.le_of_dvd (by omega) h1
      have h4:d≠0:=fun e=>by rw [e] at h1;have:=Nat.eq_zero_of_zero_dvd h1;omega
      obtain ⟨q,hq,hqd⟩:=ih d (by omega) (by omega)
      exact ⟨q,hq,Nat.dvd_trans hqd h1⟩
theorem Pr.euclid {q a b:Nat} (h:Pr q) (hd:q ∣ a*b):q ∣ a∨q ∣ b:=by
  rcases h.2 (Nat.gcd q a) (Nat.gcd_dvd_left _ _) with e | e
  · exact .inr (Nat.Coprime.dvd_of_dvd_mul_left e hd)
  · exact .inl (e ▸ Nat.gcd_dvd_right q a)
theorem Pr.mem {q:Nat} (h:Pr q):∀ {l:List Nat},(∀ x∈l,Pr x)→q ∣ l.foldr (·*·) 1→q∈l
  | [],_,hd=>by
    have:=Nat.le_of_dvd (by decide) (show q ∣ 1 from hd)
    have:=h.1
    omega
  | x::l,hl,hd=>by
    rcases h.euclid (show q ∣ x*l.foldr (·*·) 1 from hd) with e | e
    · rcases (hl x (.head _)).2 q e with e | e
      · have:=h.1;omega
      · rw [e];exact .head _
    · exact .tail _ (h.mem (fun y hy=>hl y (.tail _ hy)) e)
def prS (q:Nat):Bool:=decide (1 < q) && (List.range 70).all fun i=>decide (q≤i+2) || decide (q%(i+2)≠0)
theorem QiO {q:Nat} (h:prS q=true) (hs:q < 4900):Pr q:=by
  unfold prS at h
  rw [Bool.and_eq_true,decide_eq_true_iff,List.all_eq_true] at h
  obtain ⟨h1,h2⟩:=h
  refine ⟨h1,fun d hd=>?_⟩
  apply Classical.byContradiction
  intro hc
  have hd0:d≠0:=fun e=>by rw [e] at hd;have:=Nat.eq_zero_of_zero_dvd hd;omega
  obtain ⟨e,he⟩:=hd
  have hdl:=Nat.le_of_dvd (by omega) (show d ∣ q from ⟨e,he⟩)
  have key:∀ i,1 < i→i < 70→i ∣ q→i=q:=fun i h3 h4 h5=>by
    have:=h2 (i-2) (List.mem_range.2 (by omega))
    rw [show i-2+2=i by omega,Bool.or_eq_true,decide_eq_true_iff,decide_eq_true_iff] at this
    rcases this with h | h
    · have:=Nat.le_of_dvd (by omega) h5;omega
    · exact absurd (Nat.mod_eq_zero_of_dvd h5) h
  have hd1:1 < d:=by omega
  have he1:1 < e:=by
    rcases Nat.lt_or_ge 1 e with h | h
    · exact h
    · exfalso
      have:e=0∨e=1:=by omega
      rcases this with rfl | rfl <;> simp at he <;> omega
  have hde:d < 70∨e < 70:=by
    apply Classical.byContradiction
    intro h
    have:=Nat.mul_le_mul (show 70≤d by omega) (show 70≤e by omega)
    omega
  rcases hde with h | h
  · exact hc (.inr (key d hd1 h ⟨e,he⟩))
  · have:=key e he1 h ⟨d,by rw [Nat.mul_comm];exact he⟩
    rw [this] at he
    have:=Nat.mul_le_mul_right q (show 2≤d by omega)
    omega
theorem fitP:∀ {ys T:List Nat},ys.Nodup→(∀ y∈ys,y∈T)→ys.length≤T.length
  | [],_,_,_=>Nat.zero_le _
  | y::ys,T,hn,hs=>by
    have hy:=hs y (.head _)
    have h1:∀ z∈ys,z∈T.erase y:=fun z hz=>by
      have hne:z≠y:=fun e=>(List.nodup_cons.1 hn).1 (e ▸ hz)
      exact (List.mem_erase_of_ne hne).2 (hs z (.tail _ hz))
    have h2:=fitP (List.nodup_cons.1 hn).2 h1
    have h3:=List.length_erase_of_mem hy
    have:=List.length_pos_of_mem hy
    simp only [List.length_cons]
    omega
theorem fills {ys T:List Nat} (hn:ys.Nodup) (hs:∀ y∈ys,y∈T) (hl:T.length≤ys.length):∀ t∈T,t∈ys:=fun t ht=>by
  apply Classical.byContradiction
  intro h
  have:=fitP (ys:=t::ys) (T:=T) (List.nodup_cons.2 ⟨h,hn⟩) fun y hy=>by
    rcases List.mem_cons.1 hy with rfl | hy
    · exact ht
    · exact hs y hy
  simp only [List.length_cons] at this
  omega
theorem VR {p g a b:Nat} (ha:g ^ a%p=1%p) (hb:g ^ b%p=1%p):g ^ (a%b)%p=1%p:=by
  have hq:g ^ (b*(a / b))%p=1%p:=by rw [Nat.pow_mul,Nat.pow_mod,hb,← Nat.pow_mod,Nat.one_pow]
  have:g ^ a%p=g ^ (a%b)%p:=by
    conv=>lhs;rw [← Nat.mod_add_div a b,Nat.pow_add,Nat.mul_mod,hq,← Nat.mul_mod,Nat.mul_one]
  rw [← this,ha]
theorem VS {p g:Nat}:∀ (a b:Nat),g ^ a%p=1%p→g ^ b%p=1%p→g ^ Nat.gcd a b%p=1%p:=by
  intro a b
  induction a,b using Nat.gcd.induction with
  | H0 b=>intro _ h;rw [Nat.gcd_zero_left];exact h
  | H1 a b ha ih =>
    intro h1 h2
    rw [Nat.gcd_rec]
    exact ih (VR h2 h1) h1
theorem lucas {p g:Nat} (l:List Nat) (hp:1 < p) (hl:∀ q∈l,Pr q) (hm:l.foldr (·*·) 1=p-1) (h1:g ^ (p-1)%p=1) (hq:∀ q∈l,g ^ ((p-1) / q)%p≠1):∀ a,0 < a→a < p→a ^ (p-1)%p=1:=by
  have one:1%p=1:=Nat.mod_eq_of_lt hp
  have ord:∀ d,0 < d→d < p-1→g ^ d%p≠1:=fun d h2 h3 h4=>by
    have h5:=VS (p:=p) (g:=g) d (p-1) (by rw [h4,one]) (by rw [h1,one])
    have h6:Nat.gcd d (p-1) ∣ p-1:=Nat.gcd_dvd_right _ _
    have h7:Nat.gcd d (p-1)≤d:=Nat.le_of_dvd h2 (Nat.gcd_dvd_left _ _)
    have h8:0 < Nat.gcd d (p-1):=Nat.gcd_pos_of_pos_left _ h2
    generalize Nat.gcd d (p-1)=e at *
    obtain ⟨m,hm2⟩:=h6
    have h9:1 < m:=by
      rcases Nat.lt_or_ge 1 m with h | h
      · exact h
      · exfalso
        have:m=0∨m=1:=by omega
        rcases this with rfl | rfl <;> simp at hm2 <;> omega
    obtain ⟨q,hqp,hqm⟩:=QcS m h9
    have hin:q∈l:=hqp.mem hl (by rw [hm,hm2];exact Nat.dvd_trans hqm ⟨e,Nat.mul_comm _ _⟩)
    refine hq q hin ?_
    obtain ⟨k,rfl⟩:=hqm
    have:(p-1) / q=e*k:=by
      rw [hm2,Nat.mul_left_comm,Nat.mul_div_cancel_left _ (by have:=hqp.1;omega)]
    rw [this,Nat.pow_mul,Nat.pow_mod,h5,← Nat.pow_mod,Nat.one_pow,one]
  have unit:∀ i,i≤p-1→g ^ i%p*(g ^ (p-1-i)%p)%p=1:=fun i hi=>by
    rw [← Nat.mul_mod,← Nat.pow_add,show i+(p-1-i)=p-1 by omega,h1]
  have inj:∀ i j,i < j→j < p-1→g ^ i%p≠g ^ j%p:=fun i j h2 h3 h4=>by
    refine ord (j-i) (by omega) (by omega) ?_
    have u:=unit i (by omega)
    have:g ^ j%p=g ^ (j-i)%p*(g ^ i%p)%p:=by rw [← Nat.mul_mod,← Nat.pow_add,show j-i+i=j by omega]
    rw [h4] at u
    have e2:g ^ (j-i)%p*(g ^ i%p)%p*(g ^ (p-1-i)%p)%p=g ^ (j-i)%p:=by
      rw [Nat.mod_mul_mod,Nat.mul_assoc,Nat.mul_mod,h4,u,Nat.mul_one,Nat.mod_mod,Nat.mod_mod]
    rw [← this,u] at e2
    exact e2.symm
  intro a ha hap
  have hall:=fills (ys:=(List.range (p-1)).map fun i=>g ^ i%p) (T:=(List.range (p-1)).map (·+1)) (by
      rw [List.nodup_iff_pairwise_ne,List.pairwise_map]
      exact List.pairwise_lt_range.imp_of_mem fun {i j} hi hj hij=>inj i j hij (List.mem_range.1 hj)) (fun y hy=>by
      obtain ⟨i,hi,rfl⟩:=List.mem_map.1 hy
      have u:=unit i (by have:=List.mem_range.1 hi;omega)
      have:g ^ i%p≠0:=fun e=>by rw [e] at u;simp at u
      have:=Nat.mod_lt (g ^ i) (show 0 < p by omega)
      exact List.mem_map.2 ⟨g ^ i%p-1,List.mem_range.2 (by omega),by omega⟩) (by simp) a (List.mem_map.2 ⟨a-1,List.mem_range.2 (by omega),by omega⟩)
  obtain ⟨i,hi,rfl⟩:=List.mem_map.1 hall
  rw [← Nat.pow_mod,← Nat.pow_mul,Nat.mul_comm,Nat.pow_mul,Nat.pow_mod,h1,Nat.one_pow,one]
theorem V7 {p:Nat} (hp:1 < p) (h:∀ a,0 < a→a < p→a ^ (p-1)%p=1):Pr p:=by
  refine ⟨hp,fun d hd=>?_⟩
  apply Classical.byContradiction
  intro hc
  have hle:=Nat.le_of_dvd (by omega) hd
  have hd0:d≠0:=fun e=>by rw [e] at hd;have:=Nat.eq_zero_of_zero_dvd hd;omega
  have h1:=h d (by omega) (by omega)
  have h2:d ∣ d ^ (p-1):=by
    obtain ⟨k,hk⟩:∃ k,p-1=k+1:=⟨p-2,by omega⟩
    rw [hk,Nat.pow_succ];exact ⟨_,Nat.mul_comm _ _⟩
  have h3:d ∣ d ^ (p-1)%p:=(Nat.dvd_mod_iff hd).2 h2
  rw [h1] at h3
  have:=Nat.le_of_dvd (by decide) h3
  omega
end Go.Proofs.YtofknpknogfijaaGreatDoor


namespace Go.Proofs.YtofknpknogfijaaGreatDoor
set_option linter.unusedVariables false
def sm:Nat→(Nat→Int)→Int
  | 0,_=>0
  | n+1,f=>sm n f+f n
theorem YO:∀ {n:Nat} {f g:Nat→Int},(∀ i,i < n→f i=g i)→sm n f=sm n g
  | 0,_,_,_=>rfl
  | n+1,f,g,h=>by unfold sm;rw [YO fun i hi=>h i (by omega),h n (by omega)]
theorem qA {p:Nat}:∀ {n:Nat} {f g:Nat→Int},(∀ i,i < n→Cg p (f i) (g i))→Cg p (sm n f) (sm n g)
  | 0,_,_,_=>Cg.rfl
  | n+1,f,g,h=>by unfold sm;exact (qA fun i hi=>h i (by omega)).add (h n (by omega))
theorem sm_zero:∀ {n:Nat},sm n (fun _=>0)=0
  | 0=>rfl
  | n+1=>by unfold sm;rw [sm_zero];rfl
theorem Qdz:∀ {n:Nat},sm n (fun _=>1)=n
  | 0=>rfl
  | n+1=>by unfold sm;rw [Qdz];rfl
theorem QaH:∀ {n:Nat} {f g:Nat→Int},sm n (fun i=>f i+g i)=sm n f+sm n g
  | 0,_,_=>rfl
  | n+1,f,g=>by simp only [sm];rw [QaH];omega
theorem JB (k:Int):∀ {n:Nat} {f:Nat→Int},sm n (fun i=>k*f i)=k*sm n f
  | 0,_=>by simp [sm]
  | n+1,f=>by unfold sm;rw [JB k,Int.mul_add]
theorem Qf4 (k:Int) {n:Nat} {f:Nat→Int}:sm n (fun i=>f i*k)=sm n f*k:=by
  rw [Int.mul_comm,← JB];exact YO fun i _=>Int.mul_comm _ _
theorem Qbu:∀ {n m:Nat} {f:Nat→Nat→Int},sm n (fun i=>sm m fun j=>f i j)=sm m fun j=>sm n fun i=>f i j
  | 0,m,f=>by simp only [sm];exact sm_zero.symm
  | n+1,m,f=>by
    simp only [sm]
    rw [Qbu (n:=n),← QaH]
theorem Qbw:∀ {n:Nat} {f:Nat→Int},sm (2*n) f=sm n (fun i=>f (2*i))+sm n fun i=>f (2*i+1)
  | 0,_=>rfl
  | n+1,f=>by
    rw [show 2*(n+1)=2*n+1+1 by omega]
    simp only [sm]
    rw [Qbw (n:=n)]
    omega
theorem QdA (k:Nat) (x:Int):∀ {n:Nat},k < n→sm n (fun i=>if i=k then x else 0)=x
  | n+1,h=>by
    simp only [sm]
    by_cases e:n=k
    · subst e
      rw [if_pos rfl,YO (g:=fun _=>0) fun i hi=>if_neg (by omega),sm_zero];omega
    · rw [if_neg e,QdA k x (n:=n) (by omega)];omega
theorem Cg.pow {p:Nat} {a b:Int} (h:Cg p a b):∀ n:Nat,Cg p (a ^ n) (b ^ n)
  | 0=>by rw [Int.pow_zero,Int.pow_zero];exact Cg.rfl
  | n+1=>by rw [Int.pow_succ,Int.pow_succ];exact (Cg.pow h n).mul h
theorem Y4:∀ n:Nat,(1:Int) ^ n=1
  | 0=>rfl
  | n+1=>by rw [Int.pow_succ,Y4];rfl
theorem UP (w:Int) (n:Nat):(w*w) ^ n=w ^ (2*n):=by
  rw [Int.pow_mul,Int.pow_succ,Int.pow_succ,Int.pow_zero,Int.one_mul]
def evs:List Nat→List Nat
  | x::_::l=>x::evs l
  | l=>l
def ods:List Nat→List Nat
  | _::y::l=>y::ods l
  | _=>[]
theorem zg:∀ (l:List Nat) (n i:Nat),l.length=2*n→i < n→(evs l).getD i 0=l.getD (2*i) 0
  | [],n,i,h,hi=>by simp at h;omega
  | [x],n,i,h,hi=>by simp at h;omega
  | x::y::l,n,0,h,hi=>rfl
  | x::y::l,n,i+1,h,hi=>by
    have:=zg l (n-1) i (by simp at h;omega) (by omega)
    rw [show 2*(i+1)=2*i+2 by omega]
    exact this
theorem zc:∀ (l:List Nat) (n i:Nat),l.length=2*n→i < n→(ods l).getD i 0=l.getD (2*i+1) 0
  | [],n,i,h,hi=>by simp at h;omega
  | [x],n,i,h,hi=>by simp at h;omega
  | x::y::l,n,0,h,hi=>rfl
  | x::y::l,n,i+1,h,hi=>by
    have:=zc l (n-1) i (by simp at h;omega) (by omega)
    rw [show 2*(i+1)+1=2*i+1+2 by omega]
    exact this
theorem Jo:∀ (l:List Nat) (n:Nat),l.length=2*n→(evs l).length=n
  | [],n,h=>by simp at h;simp [evs];omega
  | [x],n,h=>by simp at h;omega
  | x::y::l,n,h=>by have:=Jo l (n-1) (by simp at h;omega);simp at h;simp [evs,this];omega
theorem qN:∀ (l:List Nat) (n:Nat),l.length=2*n→(ods l).length=n
  | [],n,h=>by simp at h;simp [ods];omega
  | [x],n,h=>by simp at h;omega
  | x::y::l,n,h=>by have:=qN l (n-1) (by simp at h;omega);simp at h;simp [ods,this];omega
theorem zf:∀ (l:List Nat),∀ x∈evs l,x∈l
  | [],x,h=>h
  | [y],x,h=>h
  | y::z::l,x,h=>by
    rcases List.mem_cons.1 (show x∈y::evs l from h) with rfl | h
    · exact .head _
    · exact .tail _ (.tail _ (zf l x h))
theorem U3:∀ (l:List Nat),∀ x∈ods l,x∈l
  | [],x,h=>by simp [ods] at h
  | [y],x,h=>by simp [ods] at h
  | y::z::l,x,h=>by
    rcases List.mem_cons.1 (show x∈z::ods l from h) with rfl | h
    · exact .tail _ (.head _)
    · exact .tail _ (.tail _ (U3 l x h))
def pwM (p w:Nat):Nat→Nat
  | 0=>1
  | n+1=>pwM p w n*w%p
theorem US {p w:Nat}:∀ n,Cg p (pwM p w n:Nat) ((w:Int) ^ n)
  | 0=>Cg.of_eq (by rw [Int.pow_zero];rfl)
  | n+1=>by
    unfold pwM
    rw [Int.pow_succ]
    refine Cg.modN.trans ?_
    rw [Int.natCast_mul]
    exact (US n).mul Cg.rfl
theorem QaP {p w:Nat} (hp:1 < p):∀ n,pwM p w n < p
  | 0=>hp
  | n+1=>Nat.mod_lt _ (by omega)
def trM (p:Nat):Nat→List Nat→Nat→List Nat
  | 0,cs,_=>cs
  | s+1,cs,w =>
    ((List.range (2 ^ s)).map fun i=>adM p ((trM p s (evs cs) (w*w%p)).getD i 0) (pwM p w i*(trM p s (ods cs) (w*w%p)).getD i 0%p)) ++
    ((List.range (2 ^ s)).map fun i=>sbM p ((trM p s (evs cs) (w*w%p)).getD i 0) (pwM p w i*(trM p s (ods cs) (w*w%p)).getD i 0%p))
theorem ZI (p:Nat):∀ (s:Nat) (cs:List Nat) (w:Nat),cs.length=2 ^ s→(trM p s cs w).length=2 ^ s
  | 0,cs,w,h=>h
  | s+1,cs,w,h=>by unfold trM;simp [Nat.pow_succ];omega
def Rt (p s w:Nat):Prop:=s=0∨Cg p ((w:Int) ^ (2 ^ (s-1))) (-1)
theorem Rt.sq {p s w:Nat} (h:Rt p (s+1) w):Rt p s (w*w%p):=by
  cases s with
  | zero=>exact .inl rfl
  | succ s =>
    refine .inr ?_
    have h:=h.resolve_left (by omega)
    refine ((Cg.modN.pow _).trans ?_)
    rw [Int.natCast_mul,UP]
    have e:2*2 ^ (s+1-1)=2 ^ (s+1+1-1):=by rw [show s+1+1-1=s+1 by omega,show s+1-1=s by omega,Nat.pow_succ];omega
    rw [e];exact h
theorem zn {p:Nat} (hp:1 < p):∀ (s:Nat) (cs:List Nat) (w:Nat),cs.length=2 ^ s→(∀ x∈cs,x < p)→Rt p s w →
    (∀ x∈trM p s cs w,x < p)∧∀ k,k < 2 ^ s→Cg p ((trM p s cs w).getD k 0:Nat) (sm (2 ^ s) fun i=>((cs.getD i 0:Nat):Int)*(w:Int) ^ (i*k))
  | 0,cs,w,hl,hc,_=>by
    refine ⟨hc,fun k hk=>?_⟩
    have:k=0:=by omega
    subst this
    refine Cg.of_eq ?_
    simp [trM,sm]
  | s+1,cs,w,hl,hc,hr=>by
    have hl2:cs.length=2*2 ^ s:=by rw [hl,Nat.pow_succ];omega
    obtain ⟨a1,a2⟩:=zn hp s (evs cs) (w*w%p) (Jo cs _ hl2) (fun x hx=>hc x (zf cs x hx)) hr.sq
    obtain ⟨b1,b2⟩:=zn hp s (ods cs) (w*w%p) (qN cs _ hl2) (fun x hx=>hc x (U3 cs x hx)) hr.sq
    have la:=ZI p s (evs cs) (w*w%p) (Jo cs _ hl2)
    have lb:=ZI p s (ods cs) (w*w%p) (qN cs _ hl2)
    have ga:∀ i,i < 2 ^ s→(trM p s (evs cs) (w*w%p)).getD i 0 < p:=fun i hi=>by
      rw [List.getD_eq_getElem?_getD,List.getElem?_eq_getElem (by omega)];exact a1 _ (List.getElem_mem _)
    have hw:Cg p ((w:Int) ^ 2 ^ s) (-1):=hr.resolve_left (by omega)
    have sq:∀ n:Nat,Cg p (((w*w%p:Nat):Int) ^ n) ((w:Int) ^ (2*n)):=fun n=>by
      rw [← UP,← Int.natCast_mul];exact Cg.modN.pow n
    refine ⟨fun x hx=>?_,fun k hk=>?_⟩
    · unfold trM at hx
      rcases List.mem_append.1 hx with h | h <;> obtain ⟨i,hi,rfl⟩:=List.mem_map.1 h
      · exact Qbg (ga i (List.mem_range.1 hi)) (Nat.mod_lt _ (by omega))
      · exact yk (ga i (List.mem_range.1 hi))
    · rw [show 2 ^ (s+1)=2*2 ^ s by rw [Nat.pow_succ];omega] at hk ⊢
      rw [Qbw]
      by_cases h:k < 2 ^ s
      · have e:(trM p (s+1) cs w).getD k 0=adM p ((trM p s (evs cs) (w*w%p)).getD k 0) (pwM p w k*(trM p s (ods cs) (w*w%p)).getD k 0%p):=by
          show (_++_:List Nat).getD k 0=_
          rw [List.getD_eq_getElem?_getD,List.getElem?_append_left (by simpa using h)]
          simp [h]
        rw [e]
        refine adM_cg.trans (Cg.add ((a2 k h).trans (qA fun i hi=>?_)) (Cg.modN.trans ?_))
        · rw [zg cs _ i hl2 hi]
          refine Cg.rfl.mul ((sq _).trans (Cg.of_eq ?_))
          rw [Nat.mul_assoc]
        · rw [Int.natCast_mul]
          refine ((US k).mul (b2 k h)).trans ?_
          rw [← JB]
          refine qA fun i hi=>?_
          rw [zc cs _ i hl2 hi,Int.mul_left_comm]
          refine Cg.rfl.mul ((Cg.rfl.mul (sq _)).trans (Cg.of_eq ?_))
          rw [← Int.pow_add]
          congr 1
          rw [Nat.add_mul,Nat.one_mul,Nat.mul_assoc];omega
      · obtain ⟨m,rfl⟩:∃ m,k=2 ^ s+m:=⟨k-2 ^ s,by omega⟩
        have hm:m < 2 ^ s:=by omega
        have e:(trM p (s+1) cs w).getD (2 ^ s+m) 0=sbM p ((trM p s (evs cs) (w*w%p)).getD m 0) (pwM p w m*(trM p s (ods cs) (w*w%p)).getD m 0%p):=by
          show (_++_:List Nat).getD (2 ^ s+m) 0=_
          rw [List.getD_eq_getElem?_getD,List.getElem?_append_right (by simp)]
          simp [hm]
        rw [e]
        have w2:∀ i:Nat,Cg p ((w:Int) ^ (2*i*(2 ^ s+m))) ((w:Int) ^ (2*(i*m))):=fun i=>by
          rw [show 2*i*(2 ^ s+m)=2 ^ s*(2*i)+2*(i*m) by rw [Nat.mul_add,Nat.mul_comm (2*i) (2 ^ s),Nat.mul_assoc 2 i m],Int.pow_add,Int.pow_mul]
          refine (Cg.mul ((hw.pow (2*i)).trans (Cg.of_eq ?_)) Cg.rfl).trans (Cg.of_eq (Int.one_mul _))
          rw [Int.pow_mul]
          exact Y4 i
        have fin:Cg p (((trM p s (evs cs) (w*w%p)).getD m 0:Nat)-((pwM p w m*(trM p s (ods cs) (w*w%p)).getD m 0%p:Nat):Int)) ((sm (2 ^ s) fun i=>((cs.getD (2*i) 0:Nat):Int)*(w:Int) ^ (2*i*(2 ^ s+m))) - -(sm (2 ^ s) fun i=>((cs.getD (2*i+1) 0:Nat):Int)*(w:Int) ^ ((2*i+1)*(2 ^ s+m)))):=?_
        exact (QaI (Nat.le_of_lt (Nat.mod_lt _ (by omega)))).trans (fin.trans (Cg.of_eq (by omega)))
        refine Cg.sub ((a2 m hm).trans (qA fun i hi=>?_)) (Cg.modN.trans ?_)
        · rw [zg cs _ i hl2 hi]
          exact Cg.rfl.mul ((sq _).trans (w2 i).symm)
        · rw [Int.natCast_mul]
          refine ((US m).mul (b2 m hm)).trans ?_
          rw [← JB,show -(sm (2 ^ s) fun i=>((cs.getD (2*i+1) 0:Nat):Int)*(w:Int) ^ ((2*i+1)*(2 ^ s+m)))=sm (2 ^ s) fun i => -1*(((cs.getD (2*i+1) 0:Nat):Int)*(w:Int) ^ ((2*i+1)*(2 ^ s+m))) by rw [JB];omega]
          refine qA fun i hi=>?_
          rw [zc cs _ i hl2 hi,Int.mul_left_comm,Int.mul_left_comm (-1)]
          refine Cg.rfl.mul ((Cg.rfl.mul (sq _)).trans ?_)
          rw [Nat.add_mul,Nat.one_mul,Int.pow_add,Int.pow_add]
          refine Cg.symm (((Cg.rfl.mul ((w2 i).mul (hw.mul Cg.rfl)))).trans (Cg.of_eq ?_))
          grind
theorem geo {x:Int}:∀ n:Nat,(x-1)*sm n (fun i=>x ^ i)=x ^ n-1
  | 0=>by simp [sm]
  | n+1=>by
    simp only [sm]
    rw [Int.mul_add,geo n,Int.pow_succ,Int.sub_mul,Int.mul_comm (x ^ n)];omega
end Go.Proofs.YtofknpknogfijaaGreatDoor



namespace Go.Proofs.YtofknpknogfijaaGreatDoor
open Go.Ab
set_option linter.unusedVariables false
set_option linter.unusedSimpArgs false
set_option maxRecDepth 20000
set_option maxHeartbeats 4000000
attribute [local irreducible] Qi wA Xk Xj Qz Qo QS QV
set_option linter.unusedSectionVars false
variable [HB]
theorem Vs (h0:Qa) (p g a b:Nat) (hp:p < 9223372036854775808) (ha:a < p) (hb:b < p):∃ r h',Cal FT HKt 129 [fld p g,u a,u b] h0 r h'∧Ext h0 h'∧r=u (adM p a b):=by
  refine Cal.of (F:=a129) rfl rfl rfl ?_
  unfold adM
  by_cases hc:p≤a+b
  · rw [if_pos hc]
    have e:((a:Int)+b-p)=((a+b-p:Nat):Int):=by omega
    repeat' (first | refine Qh ?_ | refine Qb ?_ | refine Qs ?_ | refine Qf ?_ | ((refine Qg ?_);refine Qk rfl ?_) | ((refine Qe ?_);first | refine Qr rfl ?_ | refine Qv rfl rfl ?_ | refine Qy rfl rfl rfl ?_) | ((refine Qc ?_);first | (refine QR rfl ?_;intro h1 e1 c1) | refine Xr rfl ?_ | refine Q4 rfl c1 ?_ | refine YN rfl rfl (by omega) ?_ | (refine XG rfl rfl (by omega) ?_;rw [e]) | refine Qp rfl ?_ | refine XH rfl rfl (by omega) ?_))
    exact ⟨.inr rfl,e1,rfl⟩
  · rw [if_neg hc]
    have e:((a:Int)+b)=((a+b:Nat):Int):=by omega
    repeat' (first | refine Qh ?_ | refine Qb ?_ | refine Qn ?_ | refine Qs ?_ | refine Qf ?_ | ((refine Qg ?_);refine Qj rfl ?_) | ((refine Qe ?_);first | refine Qr rfl ?_ | refine Qv rfl rfl ?_ | refine Qy rfl rfl rfl ?_) | ((refine Qc ?_);first | (refine QR rfl ?_;intro h1 e1 c1) | refine Xr rfl ?_ | refine Q4 rfl c1 ?_ | (refine YN rfl rfl (by omega) ?_;rw [e]) | refine Qp rfl ?_ | refine Xv rfl rfl (by omega) ?_))
    exact ⟨.inr rfl,e1,rfl⟩
theorem zi (h0:Qa) (p g a b:Nat) (hp:p < 9223372036854775808) (ha:a < p) (hb:b≤p):∃ r h',Cal FT HKt 122 [fld p g,u a,u b] h0 r h'∧Ext h0 h'∧r=u (sbM p a b):=by
  refine Cal.of (F:=a122) rfl rfl rfl ?_
  unfold sbM
  by_cases hc:a < b
  · rw [if_pos hc]
    have e:((a:Int)+p-b)=((a+p-b:Nat):Int):=by omega
    repeat' (first | refine Qh ?_ | refine Qb ?_ | refine Qs ?_ | refine Qf ?_ | ((refine Qg ?_);refine Qk rfl ?_) | ((refine Qe ?_);first | refine Qr rfl ?_ | refine Qv rfl rfl ?_ | refine Qy rfl rfl rfl ?_ | refine QQ rfl rfl rfl rfl ?_) | ((refine Qc ?_);first | (refine QR rfl ?_;intro h1 e1 c1) | refine Xr rfl ?_ | refine Q4 rfl c1 ?_ | refine YN rfl rfl (by omega) ?_ | (refine XG rfl rfl (by omega) ?_;rw [e]) | refine Qp rfl ?_ | refine Qx rfl rfl (by omega) ?_))
    exact ⟨.inr rfl,e1,rfl⟩
  · rw [if_neg hc]
    have e:((a:Int)-b)=((a-b:Nat):Int):=by omega
    repeat' (first | refine Qh ?_ | refine Qb ?_ | refine Qn ?_ | refine Qs ?_ | refine Qf ?_ | ((refine Qg ?_);refine Qj rfl ?_) | ((refine Qe ?_);first | refine Qr rfl ?_ | refine Qy rfl rfl rfl ?_ | refine QQ rfl rfl rfl rfl ?_) | ((refine Qc ?_);first | (refine QR rfl ?_;intro h1 e1 c1) | (refine XG rfl rfl (by omega) ?_;rw [e]) | refine Qp rfl ?_ | refine QH rfl rfl (by omega) ?_))
    exact ⟨.inr rfl,e1,rfl⟩
def ofM (p:Nat) (x:Int):Nat:=if x < 0 then p-x.natAbs else x.natAbs
theorem QaR {p:Nat} {x:Int} (h:x.natAbs < p):ofM p x < p:=by unfold ofM;split <;> omega
theorem QaS {p:Nat} {x:Int} (h:x.natAbs < p):Cg p (ofM p x:Nat) x:=by
  unfold ofM
  split
  · exact ⟨1,by omega⟩
  · exact Cg.of_eq (by omega)
theorem Qa7 (h0:Qa) (p g:Nat) (x:Int) (hp:p < 9223372036854775808) (hx:x.natAbs < p):∃ r h',Cal FT HKt 99 [fld p g,.sc (.int .i64 x)] h0 r h'∧Ext h0 h'∧r=u (ofM p x):=by
  refine Cal.of (F:=a99) rfl rfl rfl ?_
  unfold ofM
  by_cases hc:x < 0
  · rw [if_pos hc]
    have e:((p:Int) - -x)=((p-x.natAbs:Nat):Int):=by omega
    repeat' (first | refine Qh ?_ | refine Qb ?_ | refine QF ?_ | refine Qs ?_ | refine Qf ?_ | ((refine Qg ?_);refine Qk rfl ?_) | ((refine Qe ?_);first | refine Qr rfl ?_ | refine Qv rfl rfl ?_ | refine Qy rfl rfl rfl ?_) | ((refine Qc ?_);first | (refine QR rfl ?_;intro h1 e1 c1) | refine Xr rfl ?_ | refine Q4 rfl c1 ?_ | refine zT rfl (by omega) ?_ | (refine XG rfl rfl (by omega) ?_;rw [e]) | refine Qp rfl ?_ | refine YZ rfl (by omega) ?_ | refine Qx rfl rfl (by omega) ?_))
    exact ⟨.inr rfl,e1,rfl⟩
  · rw [if_neg hc]
    have e:x=((x.natAbs:Nat):Int):=by omega
    generalize x.natAbs=n at *
    subst e
    repeat' (first | refine Qh ?_ | refine Qb ?_ | refine Qn ?_ | refine Qs ?_ | refine Qf ?_ | ((refine Qg ?_);refine Qj rfl ?_) | ((refine Qe ?_);first | refine Qr rfl ?_ | refine Qv rfl rfl ?_ | refine Qy rfl rfl rfl ?_) | ((refine Qc ?_);first | (refine QR rfl ?_;intro h1 e1 c1) | refine zT rfl (by omega) ?_ | refine Qp rfl ?_ | refine QH rfl rfl (by omega) ?_))
    exact ⟨.inr rfl,e1,rfl⟩
def lfM (p a:Nat):Int:=if p / 2 < a then -((p-a:Nat):Int) else (a:Nat)
theorem Qjq (h0:Qa) (p g a:Nat) (hp:p < 9223372036854775808) (ha:a < p):∃ r h',Cal FT HKt 97 [fld p g,u a] h0 r h'∧Ext h0 h'∧r=.sc (.int .i64 (lfM p a)):=by
  refine Cal.of (F:=a97) rfl rfl rfl ?_
  unfold lfM
  by_cases hc:p / 2 < a
  · rw [if_pos hc]
    have e:((p:Int)-a)=((p-a:Nat):Int):=by omega
    repeat' (first | refine Qh ?_ | refine Qb ?_ | refine QF ?_ | refine Qs ?_ | refine Qf ?_ | ((refine Qg ?_);refine Qk rfl ?_) | ((refine Qe ?_);first | refine Qr rfl ?_ | refine Qv rfl rfl ?_ | refine Qy rfl rfl rfl ?_) | ((refine Qc ?_);first | (refine QR rfl ?_;intro h1 e1 c1) | refine Xr rfl ?_ | refine Q4 rfl c1 ?_ | refine zR rfl rfl (by omega) ?_ | refine XM rfl (by omega) ?_ | (refine XG rfl rfl (by omega) ?_;rw [e]) | refine Qp rfl ?_ | refine YZ rfl (by omega) ?_ | refine XA rfl rfl (by omega) ?_))
    exact ⟨.inr rfl,e1,rfl⟩
  · rw [if_neg hc]
    repeat' (first | refine Qh ?_ | refine Qb ?_ | refine Qn ?_ | refine Qs ?_ | refine Qf ?_ | ((refine Qg ?_);refine Qj rfl ?_) | ((refine Qe ?_);first | refine Qr rfl ?_ | refine Qv rfl rfl ?_ | refine Qy rfl rfl rfl ?_) | ((refine Qc ?_);first | (refine QR rfl ?_;intro h1 e1 c1) | refine Xr rfl ?_ | refine Q4 rfl c1 ?_ | refine zR rfl rfl (by omega) ?_ | refine XM rfl (by omega) ?_ | refine Qp rfl ?_ | refine Xq rfl rfl (by omega) ?_))
    exact ⟨.inr rfl,e1,rfl⟩
def XR (p a:Nat):Nat:=YK p 64 1 a (p-2)
theorem zj (h0:Qa) (p g a:Nat) (hp:2≤p∧p < 18446744073709551616) (ha:a < 18446744073709551616):∃ r h',Cal FT HKt 121 [fld p g,u a] h0 r h'∧Ext h0 h'∧r=u (XR p a):=by
  refine Cal.of (F:=a121) rfl rfl rfl ?_
  unfold XR
  have e:((p:Int)-2)=((p-2:Nat):Int):=by omega
  have k:=fun H=>yh H p g a (p-2) ⟨by omega,hp.2⟩ ha (by omega)
  repeat' (first | refine Qh ?_ | refine Qb ?_ | refine Qs ?_ | refine Qf ?_ | ((refine Qe ?_);first | refine Qr rfl ?_ | refine Qv rfl rfl ?_) | ((refine Qc ?_);first | (refine QR rfl ?_;intro h1 e1 c1) | refine Xr rfl ?_ | refine Q4 rfl c1 ?_ | refine QN rfl c1 ?_ | (refine XG rfl rfl (by omega) ?_;rw [e]) | (refine Qm rfl (k _) ?_;rintro v h2 ⟨e2,rfl⟩) | refine Qp rfl ?_))
  exact ⟨.inr rfl,e1.trans e2,rfl⟩
end Go.Proofs.YtofknpknogfijaaGreatDoor


namespace Go.Proofs.YtofknpknogfijaaGreatDoor
set_option linter.unusedVariables false
theorem FOK.cancel {p:Nat} {inv:Nat→Nat} (hF:FOK p inv) (hp:1 < p) {y z:Int} (hy:¬ Cg p y 0) (h:Cg p (y*z) 0):Cg p z 0:=by
  have h1:0≤y%(p:Int):=Int.emod_nonneg _ (by omega)
  have h2:y%(p:Int) < p:=Int.emod_lt_of_pos _ (by omega)
  obtain ⟨a,ha⟩:∃ a:Nat,y%(p:Int)=a:=⟨(y%(p:Int)).toNat,by omega⟩
  have h3:Cg p (a:Int) y:=ha ▸ Cg.mod
  have h4:0 < a:=by
    rcases Nat.eq_zero_or_pos a with e | e
    · subst e;exact absurd h3.symm hy
    · exact e
  have h5:=hF a h4 (by omega)
  have h6:Cg p ((a:Int)*(inv a:Nat)) 1:=by
    have:Cg p ((a*inv a:Nat):Int) ((1:Nat):Int):=by rw [← h5];exact Cg.modN.symm
    rwa [Int.natCast_mul] at this
  have h7:Cg p (((inv a:Nat):Int)*(y*z)) (((inv a:Nat):Int)*0):=Cg.rfl.mul h
  rw [Int.mul_zero] at h7
  refine Cg.trans (Cg.symm ?_) h7
  refine ((Cg.of_eq (show ((inv a:Nat):Int)*(y*z)=(y*(inv a:Nat))*z by grind)).trans ((h3.symm.mul Cg.rfl).mul Cg.rfl)).trans ((h6.mul Cg.rfl).trans (Cg.of_eq (Int.one_mul z)))
theorem VB:∀ (m s:Nat),0 < m→m < 2 ^ s→∃ t v,t < s∧m=2 ^ t*(2*v+1)
  | m,0,h,h2=>by simp at h2;omega
  | m,s+1,h,h2=>by
    by_cases e:m%2=1
    · exact ⟨0,m / 2,by omega,by simp;omega⟩
    · obtain ⟨t,v,h3,h4⟩:=VB (m / 2) s (by omega) (by rw [Nat.pow_succ] at h2;omega)
      exact ⟨t+1,v,by omega,by rw [Nat.pow_succ,Nat.mul_right_comm,← h4];omega⟩
theorem Qd0:∀ v:Nat,(-1:Int) ^ (2*v+1) = -1:=fun v=>by
  rw [Int.pow_succ,Int.pow_mul]
  show (1:Int) ^ v * -1 = -1
  rw [Y4];rfl
theorem Rt.ne {p s u m:Nat} (h:Rt p s u) (hp:2 < p) (h0:0 < m) (hm:m < 2 ^ s):¬ Cg p ((u:Int) ^ m) 1:=fun hc=>by
  obtain ⟨t,v,ht,rfl⟩:=VB m s h0 hm
  have hw:=h.resolve_left (by omega)
  have h1:=hc.pow (2 ^ (s-1-t))
  rw [Y4,← Int.pow_mul,Nat.mul_right_comm,← Nat.pow_add,show t+(s-1-t)=s-1 by omega,Int.pow_mul] at h1
  have h2:=(hw.pow (2*v+1)).symm.trans h1
  rw [Qd0] at h2
  have:=h2.eq (by show 2 < p;exact hp)
  omega
theorem Rt.inv {p s u u':Nat} (h:Rt p s u) (hi:Cg p ((u:Int)*u') 1):Rt p s u':=by
  rcases h with h | h
  · exact .inl h
  refine .inr ?_
  have h1:=hi.pow (2 ^ (s-1))
  rw [Int.mul_pow,Y4] at h1
  have h2:Cg p ((u:Int) ^ 2 ^ (s-1)*(u':Int) ^ 2 ^ (s-1)) (-1*(u':Int) ^ 2 ^ (s-1)):=h.mul Cg.rfl
  have h3:=(h2.symm.trans h1).neg
  exact (Cg.of_eq (by omega)).trans h3
theorem Rt.top {p s u:Nat} (h:Rt p s u) (h1:s=0→Cg p (u:Int) 1):Cg p ((u:Int) ^ 2 ^ s) 1:=by
  rcases h with h | h
  · have:=h1 h
    subst h
    exact this.pow 1
  · by_cases h0:s=0
    · subst h0;exact (h1 rfl).pow 1
    · have e:2 ^ s=2 ^ (s-1)*2:=by rw [← Nat.pow_succ];congr 1;omega
      rw [e,Int.pow_mul]
      exact (h.pow 2).trans (Cg.of_eq (by decide))
theorem Rt.sum {p s u m:Nat} {inv:Nat→Nat} (hF:FOK p inv) (h:Rt p s u) (hp:2 < p) (h0:0 < m) (hm:m < 2 ^ s):Cg p (sm (2 ^ s) fun i=>((u:Int) ^ m) ^ i) 0:=by
  refine hF.cancel (by omega) (y:=(u:Int) ^ m-1) (fun hc=>h.ne hp h0 hm ?_) ?_
  · have:=hc.add (Cg.rfl (p:=p) (a:=1))
    exact (Cg.of_eq (by omega)).trans this
  · rw [geo,← Int.pow_mul,Nat.mul_comm,Int.pow_mul]
    have hs:s≠0:=by intro e;rw [e] at hm;simp at hm;omega
    have:=(h.top (fun e=>absurd e hs)).pow m
    rw [Y4] at this
    exact (this.sub (Cg.rfl (p:=p) (a:=1))).trans (Cg.of_eq (by omega))
theorem QgR {p s w w':Nat} {inv:Nat→Nat} (hF:FOK p inv) (hp:2 < p) (hr:Rt p s w) (hi:Cg p ((w:Int)*w') 1) (vs:List Nat) (hl:vs.length=2 ^ s) (hv:∀ x∈vs,x < p) (d:Nat→Int)
    (hd:∀ t,t < 2 ^ s→Cg p ((vs.getD t 0:Nat):Int) (sm (2 ^ s) fun j=>d j*(w:Int) ^ (j*t))) (k:Nat) (hk:k < 2 ^ s):Cg p ((trM p s vs w').getD k 0:Nat) ((2 ^ s:Nat)*d k):=by
  refine ((zn (by omega) s vs w' hl hv (hr.inv hi)).2 k hk).trans ?_
  have e1:Cg p (sm (2 ^ s) fun i=>((vs.getD i 0:Nat):Int)*(w':Int) ^ (i*k)) (sm (2 ^ s) fun i=>sm (2 ^ s) fun j=>d j*((w:Int) ^ j*(w':Int) ^ k) ^ i):=by
    refine qA fun i hi=>((hd i hi).mul Cg.rfl).trans (Cg.of_eq ?_)
    rw [← Qf4]
    refine YO fun j _=>?_
    rw [Int.mul_pow,← Int.pow_mul,← Int.pow_mul,Nat.mul_comm k i,Int.mul_assoc]
  refine e1.trans ?_
  rw [Qbu]
  refine (qA (g:=fun j=>if j=k then ((2 ^ s:Nat):Int)*d k else 0) fun j hj=>?_).trans (Cg.of_eq (QdA k _ hk))
  simp only [JB]
  have inverse:∀ n:Nat,Cg p ((w:Int) ^ n*(w':Int) ^ n) 1:=fun n=>by
    rw [← Int.mul_pow];exact (hi.pow n).trans (Cg.of_eq (Y4 n))
  split
  · rename_i e
    subst e
    rw [Int.mul_comm]
    refine Cg.mul ?_ Cg.rfl
    exact (qA (g:=fun _=>1) fun i _=>((inverse j).pow i).trans (Cg.of_eq (Y4 i))).trans (Cg.of_eq Qdz)
  · rename_i e
    suffices h:∃ u m:Nat,Rt p s u∧0 < m∧m < 2 ^ s∧Cg p ((w:Int) ^ j*(w':Int) ^ k) ((u:Int) ^ m) by
      obtain ⟨u,m,h1,h2,h3,h4⟩:=h
      refine (Cg.rfl.mul ((qA fun i _=>h4.pow i).trans (h1.sum hF hp h2 h3))).trans (Cg.of_eq (Int.mul_zero _))
    by_cases hjk:k < j
    · refine ⟨w,j-k,hr,by omega,by omega,?_⟩
      refine (Cg.of_eq ?_).trans ((Cg.rfl.mul (inverse k)).trans (Cg.of_eq (Int.mul_one _)))
      rw [← Int.mul_assoc,← Int.pow_add,show j-k+k=j by omega]
    · refine ⟨w',k-j,hr.inv hi,by omega,by omega,?_⟩
      refine (Cg.of_eq ?_).trans (((inverse j).mul Cg.rfl).trans (Cg.of_eq (Int.one_mul _)))
      rw [Int.mul_assoc,← Int.pow_add,show j+(k-j)=k by omega]
end Go.Proofs.YtofknpknogfijaaGreatDoor


namespace Go.Proofs.YtofknpknogfijaaGreatDoor
set_option linter.unusedVariables false
set_option linter.unusedSectionVars false
variable [HB]
theorem UX {p:Nat}:∀ (n r a e:Nat),e < 2 ^ n→Cg p (YK p n r a e:Nat) ((r:Int)*(a:Int) ^ e)
  | 0,r,a,e,h=>by
    have:e=0:=by omega
    subst this
    exact Cg.of_eq (by simp [YK])
  | n+1,r,a,e,h=>by
    rw [Z2]
    split
    · rename_i h0
      subst h0
      exact Cg.of_eq (by simp)
    · have h2:e / 2 < 2 ^ n:=by rw [Nat.pow_succ] at h;omega
      have h3:Cg p (((a*a%p:Nat):Int) ^ (e / 2)) ((a:Int) ^ (2*(e / 2))):=by
        rw [← UP,← Int.natCast_mul];exact Cg.modN.pow _
      refine (UX n _ _ _ h2).trans ?_
      split
      · rename_i ho
        refine ((Cg.modN.trans (Cg.of_eq (Int.natCast_mul _ _))).mul h3).trans (Cg.of_eq ?_)
        rw [Int.mul_assoc,← Int.pow_succ']
        congr 2;omega
      · rename_i ho
        refine (Cg.rfl.mul h3).trans (Cg.of_eq ?_)
        congr 2;omega
theorem Zx {p:Nat}:∀ (n r a e:Nat),r < p→YK p n r a e < p
  | 0,r,a,e,h=>h
  | n+1,r,a,e,h=>by
    rw [Z2]
    split
    · exact h
    · refine Zx n _ _ _ ?_
      split
      · exact Nat.mod_lt _ (by omega)
      · exact h
theorem zE {p:Nat} (hp:1 < p) (n a e:Nat) (h:e < 2 ^ n):YK p n 1 a e=a ^ e%p:=by
  refine Cg.eqN (p:=p) ((UX n 1 a e h).trans ?_) (Zx n 1 a e hp) (Nat.mod_lt _ (by omega))
  refine Cg.trans (Cg.of_eq ?_) Cg.modN.symm
  rw [Int.natCast_pow]
  exact Int.one_mul _
def lucB (p g:Nat) (l:List Nat):Bool:=decide (1 < p) && (l.foldr (·*·) 1 == p-1) && (YK p 64 1 g (p-1) == 1) && l.all fun q=>YK p 64 1 g ((p-1) / q) != 1
theorem zd {p g:Nat} {l:List Nat} (h:lucB p g l=true) (hs:p < 2 ^ 64) (hl:∀ q∈l,Pr q):∀ a,0 < a→a < p→a ^ (p-1)%p=1:=by
  unfold lucB at h
  simp only [Bool.and_eq_true,decide_eq_true_iff,beq_iff_eq,List.all_eq_true,bne_iff_ne] at h
  obtain ⟨⟨⟨h1,h2⟩,h3⟩,h4⟩:=h
  have lt:∀ q,(p-1) / q < 2 ^ 64:=fun q=>Nat.lt_of_le_of_lt (Nat.div_le_self _ _) (by omega)
  rw [zE h1 64 g (p-1) (by omega)] at h3
  exact lucas l h1 hl h2 h3 fun q hq=>by
    have:=h4 q hq
    rwa [zE h1 64 g _ (lt q)] at this
def Qdx (l:List Nat):Bool:=l.all fun q=>prS q && decide (q < 4900)
theorem JU {l:List Nat} (h:Qdx l=true):∀ q∈l,Pr q:=fun q hq=>by
  unfold Qdx at h
  rw [List.all_eq_true] at h
  have:=h q hq
  rw [Bool.and_eq_true,decide_eq_true_iff] at this
  exact QiO this.1 this.2
theorem QdU:Pr 61681:=V7 (by decide) (zd (g:=29) (l:=[2,2,2,2,3,5,257]) (by decide +kernel) (by decide) (JU (by decide +kernel)))
theorem zD:Pr 77158710721:=V7 (by decide) (zd (g:=41) (l:=[2,2,2,2,2,2,3,3,5,7,13,37,73,109]) (by decide +kernel) (by decide) (JU (by decide +kernel)))
def p1:Nat:=2305843009211596801
def p2:Nat:=2305843009210023937
theorem QgL:∀ a,0 < a→a < p1→a ^ (p1-1)%p1=1 :=
  zd (g:=37) (l:=61681::[2,2,2,2,2,2,2,2,2,2,2,2,2,2,2,2,2,2,2,2,2,3,5,5,11,17,31,41]) (by decide +kernel) (by decide) fun q hq=>by
    rcases List.mem_cons.1 hq with rfl | hq
    · exact QdU
    · exact JU (by decide +kernel) q hq
theorem QgK:∀ a,0 < a→a < p2→a ^ (p2-1)%p2=1 :=
  zd (g:=5) (l:=77158710721::[2,2,2,2,2,2,2,2,2,2,2,2,2,2,2,2,2,2,2,3,19]) (by decide +kernel) (by decide) fun q hq=>by
    rcases List.mem_cons.1 hq with rfl | hq
    · exact zD
    · exact JU (by decide +kernel) q hq
theorem Qeu {p:Nat} (hp:2 < p) (hs:p < 2 ^ 64) (h:∀ a,0 < a→a < p→a ^ (p-1)%p=1):FOK p (XR p):=fun a h0 h1=>by
  unfold XR
  rw [zE (by omega) 64 a (p-2) (by omega),Nat.mul_mod_mod,← Nat.pow_succ',Nat.succ_eq_add_one,show p-2+1=p-1 by omega]
  exact h a h0 h1
theorem fok1:FOK p1 (XR p1):=Qeu (by decide) (by decide) QgL
theorem fok2:FOK p2 (XR p2):=Qeu (by decide) (by decide) QgK
def r1:Nat:=1681162619342215248
def r2:Nat:=1308300859968897983
theorem Qhl {p r:Nat} (hp:1 < p) (h:YK p 64 1 r (2 ^ 16)=p-1):Rt p 17 r:=.inr (by
  have:=UX (p:=p) 64 1 r (2 ^ 16) (by decide)
  rw [h] at this
  refine Cg.trans (Cg.of_eq ?_) (this.symm.trans ⟨1,by omega⟩)
  exact (Int.one_mul _).symm)
theorem rt1:Rt p1 17 r1:=Qhl (by decide) (by decide +kernel)
theorem rt2:Rt p2 17 r2:=Qhl (by decide) (by decide +kernel)
end Go.Proofs.YtofknpknogfijaaGreatDoor



