/- Layer 15, plain law: the canonical order of the program (all -/
import Derived.Test.YtmaibfgcngmjhaaGreatZeAT
import Derived.Test.YtmaibfgcngmjhaaGreatZeAG
import Derived.Test.YtmaibfgcngmjhaaGreatZeAA
import Derived.Test.YtmaibfgcngmjhaaGreatZeAQ
import Derived.Test.YtmaibfgcngmjhaaGreatZeAS
import Derived.Test.YtmaibfgcngmjhaaGreatZeAR
set_option linter.unusedVariables false
set_option linter.unusedSimpArgs false
section
set_option maxRecDepth 100000
set_option maxHeartbeats 4000000
open Go Go.Proofs Tryz
namespace Go.Abs
theorem NC {l:Xa0}{n:Int}:mem l n=false↔n∉l:=by rw [<- mem_iff];simp
def cJ:Xa0->Xa0->Int
 | [],[]=>0
 | [],_ :: _=>-1
 | _ :: _,[]=>1
 | a :: l,b :: k=>if a<b then -1 else if b<a then 1 else cJ l k
theorem iG:∀ a:Xa0,cJ a a=0
 | []=>rfl
 | a :: l=>by simp [cJ,iG l]
theorem rB:∀ {a b:Xa0},cJ a b=0->a=b
 | [],[],_=>rfl
 | [],_ :: _,h=>by simp [cJ] at h
 | _ :: _,[],h=>by simp [cJ] at h
 | a :: l,b :: k,h=>by
  simp only [cJ] at h;split at h
  .cases h
  .split at h
   .cases h
   .rw [(bL:a=b),rB h]
theorem j8:∀ a b:Xa0,cJ b a = - cJ a b
 | [],[]=>rfl
 | [],_ :: _=>rfl
 | _ :: _,[]=>rfl
 | a :: l,b :: k=>by
  simp only [cJ];have:=j8 l k;split<;>split<;>(try split)<;>omega
theorem rA:∀ {a b c:Xa0},cJ a b<=0->cJ b c<0->cJ a c<0
 | [],[],c,_,h=>h
 | [],_ :: _,[],_,h=>by simp [cJ] at h
 | [],_ :: _,_ :: _,_,_=>by simp [cJ]
 | _ :: _,[],_,h,_=>by simp [cJ] at h
 | _ :: _,_ :: _,[],_,h=>by simp [cJ] at h
 | a :: l,b :: k,c :: j,h1,h2=>by
  simp only [cJ] at h1 h2 ⊢;have:=@rA l k j;grind
theorem y7:∀ (p a b:Xa0),cJ (p++a) (p++b)=cJ a b
 | [],a,b=>rfl
 | x :: p,a,b=>by simp [cJ,y7 p a b]
theorem QF:∀ (c l r:Xa0),0<cJ c (l.take (min c.length l.length))->0<cJ (c++r) l
 | [],l,r,h=>by simp [cJ] at h
 | a :: c,[],r,h=>by simp [cJ]
 | a :: c,b :: l,r,h=>by
  have:=QF c l r;simp only [cD,Nat.succ_min_succ,kV,cJ,eV] at h ⊢;grind
theorem Ei:∀ {a b:Xa0} (r s:Xa0),cJ a b<0->¬ a <+: b->cJ (a++r) (b++s)<0
 | [],b,r,s,_,h=>absurd (List.nil_prefix) h
 | a :: l,[],r,s,h,_=>by simp [cJ] at h
 | a :: l,b :: k,r,s,h,hp=>by
  have:=@Ei l k r s;rw [List.cons_prefix_cons] at hp;simp only [cJ,eV] at h ⊢;grind
def fV (sg:Xa0->Int->Xa0):Xa0->Xa0->Xa0
 | _,[]=>[]
 | p,k :: r=>sg p k++fV sg (p++[k]) r
theorem oV (sg:Xa0->Int->Xa0):∀ (p l r:Xa0),fV sg p (l++r)=fV sg p l++fV sg (p++l) r
 | p,[],r=>by simp [fV]
 | p,k :: l,r=>by simp [fV,oV sg (p++[k]) l r]
structure BC where
 found:Bool
 bx:Xa0
 Z:Xa0
def wN (o code:Xa0)(s:BC):BC:=if (!s.found||decide (cJ code s.Z<0))=true then ⟨true,o,code⟩ else s
def goC (c:Xa0)(s:BC):Bool:=!s.found||decide (cJ c (s.Z.take (min c.length s.Z.length))<=0)
def xB (N:Nat)(sg:Xa0->Int->Xa0):Nat->Xa0->Xa0->BC->BC
 | 0,l,c,s=>wN l c s
 | d+1,l,c,s=>(List.range N).foldl (λs (k:Nat)=>if mem l k=true then s else if goC (c++sg l k) s=true then xB N sg d (l++[(k:Int)]) (c++sg l k) s else s) s
def vX (N:Nat):Nat->Xa0->Yb
 | 0,l=>[l]
 | d+1,l=>((List.range N).filter λk:Nat=>!mem l k).flatMap λk:Nat=>vX N d (l++[(k:Int)])
theorem Ex {N:Nat}:∀ {d:Nat} {l o:Xa0},o∈vX N d l->∃ r,o=l++r
 | 0,l,o,h=>⟨[],by simpa [vX] using h⟩
 | d+1,l,o,h=>by
  simp only [vX,bM] at h;obtain ⟨k,_,h⟩:=h;obtain ⟨r,rfl⟩:=Ex h;exact ⟨(k:Int) :: r,by simp⟩
theorem Mf {α β:Type}{f:β->α->β}{s:β}:∀ {l:List α},(∀ x∈l,f s x=s)->l.foldl f s=s
 | [],_=>rfl
 | a :: l,h=>by rw [iD,h a bS];exact Mf λx hx=>h x (fg hx)
theorem Vl {sg:Xa0->Int->Xa0}{c o:Xa0}{s:BC}(a:goC c s=false)(d:∃ r,fV sg [] o=c++r):wN o (fV sg [] o) s=s:=by
 obtain ⟨r,b⟩:=d;unfold goC at a;simp only [Ci,decide_eq_false_iff_not,Bool.not_eq_false',Int.not_le] at a;have:=QF c s.Z r a.2;unfold wN;rw [b,if_neg];rw [a.1];simp;omega
theorem Th {N:Nat}{sg:Xa0->Int->Xa0}:∀ (d:Nat) (l:Xa0) (s:BC),xB N sg d l (fV sg [] l) s=(vX N d l).foldl (λs o=>wN o (fV sg [] o) s) s
 | 0,l,s=>rfl
 | d+1,l,s=>by
  simp only [xB,vX];rw [List.foldl_flatMap];generalize List.range N=ks;induction ks generalizing s with
  | nil=>rfl
  | cons k ks ih =>
   rw [iD];by_cases hm:mem l k=true
   .rw [if_pos hm,qJ (fg hm)];exact ih s
   .rw [if_neg hm,xU (fg hm),iD];have hc:fV sg [] (l++[(k:Int)])=fV sg [] l++sg l k:=by rw [oV];simp [fV]
    have a:(if goC (fV sg [] l++sg l k) s=true then xB N sg d (l++[(k:Int)]) (fV sg [] l++sg l k) s else s)=(vX N d (l++[(k:Int)])).foldl (λs o=>wN o (fV sg [] o) s) s:=by
     split
     .rw [<- hc];exact Th d _ s
     .rename_i hg;refine (Mf λo b=>Vl (c:=fV sg [] l++sg l k) (cG hg) ?_).symm;obtain ⟨r,rfl⟩:=Ex b;exact ⟨_,by rw [oV,hc]⟩
    rw [a];exact ih _
theorem CW {cd:Xa0->Xa0}:∀ (L:Yb) (s:BC),s.found=true->s.Z=cd s.bx->∃ o,L.foldl (λs o=>wN o (cd o) s) s=⟨true,o,cd o⟩/\(o=s.bx\/cJ (cd o) s.Z<0) /\
  (∀ x∈L,cJ (cd o) (cd x)<=0)/\(o=s.bx\/∃ a b,L=a++o :: b/\∀ x∈a,cJ (cd o) (cd x)<0)
 | [],s,hf,hl=>⟨s.bx,by cases s;simp_all,.inl rfl,by simp,.inl rfl⟩
 | x :: L,s,hf,hl=>by
  rw [iD];by_cases hc:cJ (cd x) s.Z<0
  .have e:wN x (cd x) s=⟨true,x,cd x⟩:=by unfold wN;rw [if_pos (fg hc)]
   obtain ⟨o,h,h2,g,f⟩:=CW L ⟨true,x,cd x⟩ rfl rfl;rw [e];refine ⟨o,h,.inr ?_,λy hy=>?_,.inr ?_⟩
   .rcases h2 with rfl|h2
    .exact hc
    .exact rA (mI h2) hc
   .rcases aP.1 hy with rfl|hy
    .rcases h2 with rfl|h2
     .rw [iG];omega
     .exact mI h2
    .exact g y hy
   .rcases f with rfl|⟨a,b,rfl,d⟩
    .exact ⟨[],L,rfl,by simp⟩
    .rcases h2 with rfl|h2
     .exact ⟨[],_,rfl,by simp⟩
     .exact ⟨x :: a,b,rfl,λy hy=>by
       rcases aP.1 hy with rfl|hy
       .exact h2
       .exact d y hy⟩
  .have e:wN x (cd x) s=s:=by unfold wN;rw [if_neg (by simp [hf,hc])]
   obtain ⟨o,h,h2,g,f⟩:=CW L s hf hl;rw [e];have i:cJ s.Z (cd x)<=0:=by have:=j8 (cd x) s.Z;omega
   refine ⟨o,h,h2,λy hy=>?_,?_⟩
   .rcases aP.1 hy with rfl|hy
    .rcases h2 with rfl|h2
     .rw [<- hl];exact i
     .have:=j8 (cd o) (cd y);have:=j8 (cd y) s.Z;by_cases c:cJ s.Z (cd y)<0
      .exact mI (rA (mI h2) c)
      .have:=rB (bL:cJ s.Z (cd y)=0);rw [<- this];exact mI h2
    .exact g y hy
   .rcases f with rfl|⟨a,b,rfl,d⟩
    .exact .inl rfl
    .rcases h2 with rfl|h2
     .exact .inl rfl
     .refine .inr ⟨x :: a,b,rfl,λy hy=>?_⟩;rcases aP.1 hy with rfl|hy
      .by_cases c:cJ s.Z (cd y)<0
       .exact rA (mI h2) c
       .have:=rB (bL:cJ s.Z (cd y)=0);rw [<- this];exact h2
      .exact d y hy
structure Best (N:Nat) (cd:Xa0->Xa0) (o:Xa0):Prop where
 mem:o∈vX N N []
 Z:∀ x∈vX N N [],cJ (cd o) (cd x)<=0
 first:∀ x∈vX N N [],cd x=cd o->cJ o x<=0
theorem J0 {N:Nat}:∀ {d:Nat} {l o:Xa0},l.Nodup->(o∈vX N d l↔∃ r,o=l++r/\r.length=d/\(∀ x∈r,0<=x/\x<N)/\o.Nodup)
 | 0,l,o,hl=>by
  simp only [vX,aX];constructor
  .rintro rfl;exact ⟨[],by simp,rfl,by simp,hl⟩
  .rintro ⟨r,rfl,h,_⟩;rw [List.length_eq_zero_iff.1 h];simp
 | d+1,l,o,hl=>by
  simp only [vX,bM,dR,bN,b7,NC];constructor
  .rintro ⟨k,⟨hk,hm⟩,ho⟩;obtain ⟨r,rfl,h1,h2,h3⟩:=(J0 (by rw [gG];simp [hl];exact λa ha e=>hm (e ▸ ha))).1 ho;exact ⟨(k:Int) :: r,by simp,by simp [h1],λx hx=>by
    rcases aP.1 hx with rfl|hx
    .omega
    .exact h2 x hx,h3⟩
  .rintro ⟨r,rfl,h1,h2,h3⟩;cases r with
   | nil=>cases h1
   | cons k r =>
    have hk:=h2 k bS;have hn:k∉l:=λhc=>by
     rw [gG] at h3;exact h3.2.2 k hc k bS rfl
    have e:((k.toNat:Nat):Int)=k:=bL;refine ⟨k.toNat,⟨bL,by rw [e];exact hn⟩,?_⟩;rw [e];refine (J0 (by rw [gG];simp [hl];exact λa ha e=>hn (e ▸ ha))).2 ⟨r,by simp,by simpa using h1,λx hx=>h2 x (fg hx),h3⟩
theorem vL {N:Nat}{o:Xa0}:o∈vX N N []↔o.length=N∧(∀ x∈o,0≤x∧x<N)∧o.Nodup:=by
 rw [J0 (by simp)];constructor
 ·rintro ⟨r,rfl,h1,h2,h3⟩;simpa using ⟨h1,h2,h3⟩
 ·rintro ⟨h1,h2,h3⟩;exact ⟨o,rfl,h1,h2,h3⟩
theorem LD (N:Nat):(List.range N).Pairwise (· < ·):=List.pairwise_lt_range
theorem QW {N:Nat}:∀ (d:Nat) (l:Xa0),(vX N d l).Pairwise λa b=>cJ a b<0
 | 0,l=>by simp [vX]
 | d+1,l=>by
  simp only [vX];rw [AI];refine ⟨λk _=>QW d _,(List.Pairwise.filter _ (LD N)).imp λ {a b} hab x hx y hy=>?_⟩;obtain ⟨r,rfl⟩:=Ex hx;obtain ⟨s,rfl⟩:=Ex hy;rw [List.append_assoc,List.append_assoc,y7];simp only [eV,cJ];rw [if_pos bL];omega
theorem Uw {N:Nat}{sg:Xa0->Int->Xa0}(f:vX N N []≠[]):∃ o,xB N sg N [] [] ⟨false,[],[]⟩=⟨true,o,fV sg [] o⟩/\Best N (fV sg []) o:=by
 have i:=Th (sg:=sg) (N:=N) N [] ⟨false,[],[]⟩;have d:=QW (N:=N) N [];have n:fV sg [] []=[]:=rfl;rw [n] at i;rw [i];cases c:vX N N [] with
 | nil=>exact absurd c f
 | cons x L =>
  rw [c] at d;obtain ⟨j,d⟩:=rI.1 d;rw [iD];have e:wN x (fV sg [] x) ⟨false,[],[]⟩=⟨true,x,fV sg [] x⟩:=rfl;rw [e];obtain ⟨o,m,h2,l,h⟩:=CW (cd:=fV sg []) L ⟨true,x,fV sg [] x⟩ rfl rfl;refine ⟨o,m,by rw [c];rcases h with rfl|⟨a,b,rfl,_⟩<;>simp,λy hy=>?_,λy hy g=>?_⟩
  .rw [c] at hy;rcases aP.1 hy with rfl|hy
   .rcases h2 with rfl|h2
    .rw [iG];omega
    .exact mI h2
   .exact l y hy
  .rw [c] at hy;rcases aP.1 hy with rfl|hz
   .rcases h2 with rfl|h2
    .rw [iG];omega
    .simp only at h2;rw [g,iG] at h2;omega
   .rcases h with rfl|⟨a,b,rfl,k⟩
    .exact mI (j y hz)
    .rcases aQ.1 hz with hy|hy
     .have:=k y hy;rw [g,iG] at this;omega
     .rcases aP.1 hy with rfl|hy
      .rw [iG];omega
      .have:=(kA.1 d).2.1;exact mI ((rI.1 this).1 y hy)
def tQ (N:Nat)(tw:Nat->Nat->Bool)(l:Xa0):Xa0:=((List.range N).filter λi:Nat=>!mem l i&&(List.range i).all λk:Nat=>mem l k||!tw k i).map λ(i:Nat)=>(i:Int)
def nM (sg:Xa0->Int->Xa0)(st:Xa0 × Yb)(o:Xa0)(k:Int):Xa0 × Yb :=
 if (decide (st.2≠[])&&decide (0<cJ (sg o k) st.1))=true then st
 else (sg o k,(if (decide (st.2≠[])&&decide (cJ (sg o k) st.1<0))=true then [] else st.2)++[o++[k]])
def Vm (N:Nat)(tw:Nat->Nat->Bool)(sg:Xa0->Int->Xa0)(os:Yb):Yb :=
 (os.foldl (λst o=>(tQ N tw o).foldl (λst k=>nM sg st o k) st) ([],[])).2
def KG (N:Nat)(tw:Nat->Nat->Bool)(sg:Xa0->Int->Xa0):Nat->Yb
 | 0=>[[]]
 | j+1=>Vm N tw sg (KG N tw sg j)
def CS (N:Nat)(tw:Nat->Nat->Bool)(os:Yb):List (Xa0 × Int):=os.flatMap λo=>(tQ N tw o).map λk=>(o,k)
theorem YG (N:Nat)(tw:Nat->Nat->Bool)(sg:Xa0->Int->Xa0)(os:Yb):Vm N tw sg os=((CS N tw os).foldl (λst p=>nM sg st p.1 p.2) ([],[])).2:=by
 unfold Vm CS;rw [List.foldl_flatMap];congr 2;funext st o;rw [List.foldl_map]
theorem BQ {sg:Xa0->Int->Xa0}:∀ (L K:List (Xa0 × Int)) (b:Xa0),K≠[]->(∀ p∈K,sg p.1 p.2=b)->∃ c,(c=b\/∃ p∈L,sg p.1 p.2=c)/\(∀ p∈L,cJ c (sg p.1 p.2)<=0)/\cJ c b<=0 /\
  L.foldl (λst p=>nM sg st p.1 p.2) (b,K.map λp=>p.1++[p.2])=(c,((K++L).filter λp=>decide (sg p.1 p.2=c)).map λp=>p.1++[p.2])
 | [],K,b,hK,hb=>⟨b,.inl rfl,by simp,by rw [iG];omega,by rw [dG,List.filter_eq_self.2 (by simpa using λa c h=>hb (a,c) h)];rfl⟩
 | x :: L,K,b,hK,hb=>by
  rw [iD];have hne:(decide ((K.map λp=>p.1++[p.2])≠[]))=true:=by simp [hK]
  by_cases k:0<cJ (sg x.1 x.2) b
  .have e:nM sg (b,K.map λp=>p.1++[p.2]) x.1 x.2=(b,K.map λp=>p.1++[p.2]):=by unfold nM;rw [if_pos (by rw [hne];simpa using k)]
   rw [e];obtain ⟨c,i,g,d,f⟩:=BQ L K b hK hb;have m:=j8 (sg x.1 x.2) b;have l:cJ c (sg x.1 x.2)<0:=rA d bL;refine ⟨c,i.imp id λ⟨p,hp,e⟩=>⟨p,cZ _ hp,e⟩,λp hp=>?_,d,?_⟩
   .rcases aP.1 hp with rfl|hp
    .exact mI l
    .exact g p hp
   .rw [f];congr 2;rw [eU,eU,qJ (by simp;intro e;rw [e,iG] at l;omega)]
  .by_cases h2:cJ (sg x.1 x.2) b<0
   .have e:nM sg (b,K.map λp=>p.1++[p.2]) x.1 x.2=(sg x.1 x.2,[x].map λp=>p.1++[p.2]):=by
     unfold nM;rw [if_neg (fg k),if_pos (by rw [hne];simpa using h2)];rfl
    rw [e];obtain ⟨c,i,g,d,f⟩:=BQ (sg:=sg) L [x] (sg x.1 x.2) bS bS;refine ⟨c,.inr (i.elim (λe=>⟨x,by simp,e.symm⟩) λ⟨p,hp,e⟩=>⟨p,cZ _ hp,e⟩),λp hp=>?_,mI (rA d h2),?_⟩
    .rcases aP.1 hp with rfl|hp
     .exact d
     .exact g p hp
    .rw [f];congr 2;have j:cJ c b<0:=rA d h2;have m:K.filter (λp=>decide (sg p.1 p.2=c))=[]:=List.filter_eq_nil_iff.2 λp hp=>by simp;intro e;rw [<- e,hb p hp,iG] at j;omega
     show List.filter _ (x :: L)=_;rw [eU,m,fT]
   .have he:sg x.1 x.2=b:=rB bL;have e:nM sg (b,K.map λp=>p.1++[p.2]) x.1 x.2=(b,(K++[x]).map λp=>p.1++[p.2]):=by
     unfold nM;rw [if_neg (fg k),if_neg (fg h2),he];simp
    rw [e];obtain ⟨c,i,g,d,f⟩:=BQ L (K++[x]) b bS (λp hp=>by
     rcases aQ.1 hp with hp|hp
     .exact hb p hp
     .rw [aX.1 hp];exact he)
    refine ⟨c,i.imp id λ⟨p,hp,e⟩=>⟨p,cZ _ hp,e⟩,λp hp=>?_,d,by rw [f];simp⟩;rcases aP.1 hp with rfl|hp
    .rw [he];exact d
    .exact g p hp
theorem WT {sg:Xa0->Int->Xa0}{L:List (Xa0 × Int)}(a:L≠[]):∃ c,(∃ p∈L,sg p.1 p.2=c)/\(∀ p∈L,cJ c (sg p.1 p.2)<=0)/\(L.foldl (λst p=>nM sg st p.1 p.2) ([],[])).2=(L.filter λp=>decide (sg p.1 p.2=c)).map λp=>p.1++[p.2]:=by
 cases L with
 | nil=>exact absurd rfl a
 | cons x L =>
  rw [iD];have e:nM sg ([],[]) x.1 x.2=(sg x.1 x.2,[x].map λp=>p.1++[p.2]):=by unfold nM;simp
  rw [e];obtain ⟨c,g,f,d,b⟩:=BQ (sg:=sg) L [x] (sg x.1 x.2) bS bS;exact ⟨c,g.elim (λe=>⟨x,by simp,e.symm⟩) λ⟨p,hp,e⟩=>⟨p,cZ _ hp,e⟩,λp hp=>by
   rcases aP.1 hp with rfl|hp
   .exact d
   .exact f p hp,by rw [b];rfl⟩
def F1 (a b x:Int):Int:=if x=a then b else if x=b then a else x
theorem Ya {a b x y:Int}(h:F1 a b x=F1 a b y):x=y:=by unfold F1 at h;grind
theorem ZS {N:Nat}{a b x:Int}(e:0<=a/\a<N)(d:0<=b/\b<N)(c:0<=x/\x<N):0<=F1 a b x/\F1 a b x<N:=by unfold F1;grind
theorem Mr {N:Nat}{sg:Xa0->Int->Xa0}{f:Int->Int}(hf:∀ (l:Xa0) (x:Int),(∀ y∈l,0<=y/\y<(N:Int))->0<=x/\x<(N:Int)->sg (l.map f) (f x)=sg l x):∀ (r p:Xa0),(∀ y∈p,0<=y/\y<(N:Int))->(∀ y∈r,0<=y/\y<(N:Int))->fV sg (p.map f) (r.map f)=fV sg p r
 | [],p,_,_=>rfl
 | k :: r,p,hp,hr=>by
  simp only [fV,gA];rw [hf p k hp (hr k bS)];have:=Mr hf r (p++[k]) (λy hy=>by
   rcases aQ.1 hy with hy|hy
   .exact hp y hy
   .rw [aX.1 hy];exact hr k bS) λy hy=>hr y (fg hy)
  rw [List.map_append] at this;rw [<- this];rfl
structure SegOk (N:Nat) (tw:Nat->Nat->Bool) (sg:Xa0->Int->Xa0):Prop where
 pf:∀ (l m:Xa0) (x y:Int),(∀ z∈l,0<=z/\z<N)->(∀ z∈m,0<=z/\z<N)->0<=x/\x<N->0<=y/\y<N->l.length=m.length->sg l x <+: sg m y->sg l x=sg m y
 tw:∀ (k i:Nat),k<i->i<N->tw k i=true->∀ (l:Xa0) (x:Int),(∀ y∈l,0<=y/\y<(N:Int))->0<=x/\x<(N:Int)->sg (l.map (F1 k i)) (F1 k i x)=sg l x
section
variable {N:Nat} {tw:Nat→Nat→Bool} {sg:Xa0→Int→Xa0} {o:Xa0}
theorem IR {l:Xa0}{x:Int}:x∈tQ N tw l↔(0<=x/\x<N)/\x∉l/\∀ k:Nat,k<x.toNat->(k:Int)∉l->tw k x.toNat=false:=by
 unfold tQ;simp only [aS,dR,bN,aR,b7,NC,cF,cX,mem_iff];constructor
 .rintro ⟨i,⟨g,a,d⟩,rfl⟩;refine ⟨bL,a,λk c b=>?_⟩;rcases d k (cG c) with h|h
  .exact absurd h b
  .simpa using h
 .rintro ⟨f,a,d⟩;have e:((x.toNat:Nat):Int)=x:=bL;refine ⟨x.toNat,⟨bL,by rw [e];exact a,λk c=>?_⟩,e⟩;by_cases h:(k:Int)∈l
  .exact .inl h
  .exact .inr (d k c h)
theorem nxtR_asc {l:Xa0}:(tQ N tw l).Pairwise (· < ·):=by
 unfold tQ;rw [kW];exact (List.Pairwise.filter _ (LD N)).imp λh=>by omega
theorem Best.next (B:Best N (fV sg []) o)(S:SegOk N tw sg){j:Nat}(n:j<o.length):o[j]∈tQ N tw (o.take j):=by
 obtain ⟨u,c,m⟩:=vL.1 B.mem;have e:o=o.take j++o[j] :: o.drop (j+1):=by rw [<- List.drop_eq_getElem_cons n,List.take_append_drop]
 have p:=c _ (aC n);generalize o[j]=i at *;have g:=m;rw [e,gG,gC] at g;refine IR.2 ⟨p,λa=>g.2.2 i a i bS rfl,λk v d=>?_⟩;cases r:tw k i.toNat with
 | false=>rfl
 | true =>
  exfalso;have A:((i.toNat:Nat):Int)=i:=bL;have l:=S.tw k i.toNat v bL r;rw [A] at l;have t:o.map (F1 k i)∈vX N N []:=by
   refine vL.2 ⟨by simp [u],λx b=>?_,?_⟩
   .obtain ⟨y,q,rfl⟩:=aS.1 b;exact ZS bL p (c y q)
   .exact kW.2 (m.imp λh a=>h (Ya a))
  have a:fV sg [] (o.map (F1 k i))=fV sg [] o:=Mr l o [] bS c;have f:=B.first _ t a;have s:(o.take j).map (F1 k i)=o.take j:=by
   conv=>rhs;rw [<- List.map_id (o.take j)]
   refine bY λx b=>?_;have z:x≠i:=λh=>g.2.2 x b i bS h;have w:x≠k:=λh=>d (h ▸ b);unfold F1;rw [if_neg w,if_neg z];rfl
  rw [e,List.map_append,s,gA,y7] at f;have:F1 k i i=k:=by unfold F1;rw [if_neg bL,if_pos rfl]
  simp only [cJ,this] at f;rw [if_neg bL,if_pos bL] at f;omega
theorem QA {l:Xa0}(k:l.Nodup)(g:∀ x∈l,0<=x/\x<(N:Int)):∃ r,l++r∈vX N N []:=by
 refine ⟨((List.range N).map λ(i:Nat)=>(i:Int)).filter λx=>!mem l x,vL.2 ?_⟩;have c:(l++((List.range N).map λ(i:Nat)=>(i:Int)).filter λx=>!mem l x).Nodup:=by
  rw [gG];refine ⟨k,List.Pairwise.filter _ (kW.2 (List.nodup_range.imp λh e=>h bL)),λa o b n e=>?_⟩;subst e;have:=(dR.1 n).2;rw [b7,NC] at this;exact this o
 have f:∀ x,x∈l++((List.range N).map λ(i:Nat)=>(i:Int)).filter (λx=>!mem l x)↔x∈(List.range N).map λ(i:Nat)=>(i:Int):=λx=>by
  rw [aQ,dR,b7,NC];constructor
  .rintro (h|h)
   .have:=g x h;exact aS.2 ⟨x.toNat,bN.2 bL,bL⟩
   .exact h.1
  .intro h;by_cases d:x∈l
   .exact .inl d
   .exact .inr ⟨h,d⟩
 have j:=(List.perm_ext_iff_of_nodup c (kW.2 (List.nodup_range.imp λh e=>h bL))).2 f;refine ⟨by rw [j.length_eq];simp,λx d=>?_,c⟩;obtain ⟨i,m,rfl⟩:=aS.1 ((f x).1 d);have:=bN.1 m;omega
theorem Wr {a b:Xa0}(h:a.length=b.length)(hp:a <+: b):a=b:=List.IsPrefix.eq_of_length hp h
structure Kept (N:Nat) (sg:Xa0->Int->Xa0) (o:Xa0) (j:Nat) (os:Yb):Prop where
 ok:∀ x∈os,x.length=j/\(∀ y∈x,0<=y/\y<(N:Int))/\x.Nodup/\fV sg [] x=fV sg [] (o.take j)
 ee:os.Pairwise λa b=>cJ a b<0
 has:o.take j∈os
theorem Kept.step (B:Best N (fV sg []) o)(S:SegOk N tw sg){j:Nat}{os:Yb}(K:Kept N sg o j os)(hj:j<N):Kept N sg o (j+1) (Vm N tw sg os):=by
 obtain ⟨hl,T,hn⟩:=vL.1 B.mem;have l:j<o.length:=bL;have d:∀ p,p∈CS N tw os↔p.1∈os/\p.2∈tQ N tw p.1:=λp=>by
  unfold CS;rw [bM];constructor
  .rintro ⟨x,m,g⟩;obtain ⟨y,hy,rfl⟩:=aS.1 g;exact ⟨m,hy⟩
  .rintro ⟨M,L⟩;exact ⟨p.1,M,aS.2 ⟨p.2,L,rfl⟩⟩
 have F:(o.take j,o[j])∈CS N tw os:=(d _).2 ⟨K.has,B.next S l⟩;have i:o.take (j+1)=o.take j++[o[j]]:=by rw [aD l]
 obtain ⟨c,⟨q,u,O⟩,t,ce⟩:=WT (sg:=sg) (List.ne_nil_of_mem F);rw [YG,ce];have s:∀ p∈CS N tw os,(p.1++[p.2]).length=j+1/\(∀ y∈p.1++[p.2],0<=y/\y<(N:Int))/\(p.1++[p.2]).Nodup:=λp g=>by
  obtain ⟨M,L⟩:=(d p).1 g;obtain ⟨C,A,Q,_⟩:=K.ok _ M;obtain ⟨Y,X,_⟩:=IR.1 L;refine ⟨by simp [C],λy hy=>?_,?_⟩
  .rcases aQ.1 hy with hy|hy
   .exact A y hy
   .rw [aX.1 hy];exact Y
  .rw [gG];exact ⟨Q,by simp,λa ha b hb e=>X (by rw [aX.1 hb] at e;rw [<- e];exact ha)⟩
 have U:sg (o.take j) o[j]=c:=by
  have h0:=t _ F;simp only at h0;by_cases k:cJ c (sg (o.take j) o[j])<0
  .exfalso;obtain ⟨W,V⟩:=(d q).1 u;obtain ⟨C,A,Q,w⟩:=K.ok _ W;obtain ⟨R,E,D⟩:=s q u;obtain ⟨r,G⟩:=QA D E;have J:=B.Z _ G;have e1:fV sg [] (q.1++[q.2]++r)=fV sg [] (o.take j)++(c++fV sg (q.1++[q.2]) r):=by
    rw [oV,oV,w,<- O];simp [fV]
   have e2:fV sg [] o=fV sg [] (o.take j)++(sg (o.take j) o[j]++fV sg (o.take (j+1)) (o.drop (j+1))):=by
    conv=>lhs;rw [<- List.take_append_drop (j+1) o,oV,i,oV]
    rw [<- i];simp [fV]
   rw [e1,e2,y7] at J;have I:¬ c <+: sg (o.take j) o[j]:=λg=>by
    rw [<- O] at g k;have H:=IR.1 V;rw [S.pf q.1 (o.take j) q.2 o[j] A (λz Z=>T z (bJ Z)) H.1 (T _ (aC l)) (by simp [C];omega) g,iG] at k;omega
   have:=Ei (fV sg (q.1++[q.2]) r) (fV sg (o.take (j+1)) (o.drop (j+1))) k I;have:=j8 (c++fV sg (q.1++[q.2]) r) (sg (o.take j) o[j]++fV sg (o.take (j+1)) (o.drop (j+1)));omega
  .exact (rB (show cJ c (sg (o.take j) o[j])=0 by omega)).symm
 refine ⟨λx m=>?_,?_,?_⟩
 .obtain ⟨p,g,rfl⟩:=aS.1 m;obtain ⟨P,v⟩:=dR.1 g;obtain ⟨R,E,D⟩:=s p P;obtain ⟨_,_,_,w⟩:=K.ok _ ((d p).1 P).1;refine ⟨R,E,D,?_⟩;have v:sg p.1 p.2=c:=by simpa using v
  rw [i,oV,oV,w];simp [fV,v,U]
 .refine kW.2 (List.Pairwise.filter _ ?_);unfold CS;rw [AI];refine ⟨λx m=>kW.2 (nxtR_asc.imp λh=>?_),K.ee.imp_of_mem λ {x y} m hy n p g q u=>?_⟩
  .show cJ (x++[_]) (x++[_])<0;rw [y7];simp [cJ,h]
  .obtain ⟨a,_,rfl⟩:=aS.1 g;obtain ⟨b,_,rfl⟩:=aS.1 u;refine Ei [a] [b] n λf=>?_;have f:x <+: y:=f;rw [Wr (by rw [(K.ok _ m).1,(K.ok _ hy).1]) f,iG] at n;omega
 .rw [i];exact aS.2 ⟨(o.take j,o[j]),dR.2 ⟨F,by simpa using U⟩,rfl⟩
theorem Je (B:Best N (fV sg []) o)(S:SegOk N tw sg):∀ j,j<=N->Kept N sg o j (KG N tw sg j)
 | 0,_=>⟨λx hx=>by rw [show x=[] by simpa [KG] using hx];simp,by simp [KG],by simp [KG]⟩
 | j+1,h=>(Je B S j bL).step B S bL
theorem U2 (B:Best N (fV sg []) o)(S:SegOk N tw sg):(KG N tw sg N).head?=some o:=by
 have K:=Je B S N (aT _);have h:=(vL.1 B.mem).1;have c:o.take N=o:=aH bL;have hh:=K.has;have d:=K.ee;rw [c] at hh;cases a:KG N tw sg N with
 | nil=>rw [a] at hh;cases hh
 | cons x L =>
  rw [a] at hh d;rcases aP.1 hh with rfl|hh
  .rfl
  .have h1:=(rI.1 d).1 o hh;obtain ⟨g,f,e,b⟩:=K.ok x (by rw [a];simp);rw [c] at b;have i:=B.first x (vL.2 ⟨g,f,e⟩) b;have:=j8 x o;omega
theorem Y8:vX N N []≠[]:=by
 obtain ⟨r,a⟩:=QA (N:=N) (l:=[]) bS bS;exact List.ne_nil_of_mem a
end
def DX (f:Int->Xa0)(x:Int)(o:Xa0):Nat->Nat
 | 0=>0
 | k+1=>if cJ (f x) (f (iA o k))<0 then DX f x o k else k+1
def Qf (f:Int->Xa0)(o:Xa0)(x:Int):Xa0:=o.take (DX f x o o.length)++x :: o.drop (DX f x o o.length)
def yP (f:Int->Xa0)(p:Int->Bool):Nat->Xa0
 | 0=>[]
 | n+1=>if p n=true then Qf f (yP f p n) n else yP f p n
def mB (f:Int->Xa0)(a b:Int):Prop:=cJ (f a) (f b)<0\/cJ (f a) (f b)=0/\a<b
theorem NL (f:Int->Xa0)(x:Int)(o:Xa0):∀ k,DX f x o k<=k
 | 0=>aT _
 | k+1=>by
  have:=NL f x o k;simp only [DX];split<;>omega
theorem TN {f:Int->Xa0}{x:Int}{o:Xa0}:∀ {k j:Nat},DX f x o k<=j->j<k->cJ (f x) (f (iA o j))<0
 | 0,j,_,h=>absurd h (De _)
 | k+1,j,h1,h2=>by
  simp only [DX] at h1;split at h1
  .rename_i h;by_cases hc:j<k
   .exact TN h1 hc
   .rw [(bL:j=k)];exact h
  .omega
theorem TM {f:Int->Xa0}{x:Int}{o:Xa0}:∀ {k:Nat},0<DX f x o k->0<=cJ (f x) (f (iA o ((DX f x o k - 1:Nat):Int)))
 | 0,h=>absurd h (j4 _)
 | k+1,h=>by
  simp only [DX] at h ⊢;split
  .rename_i hc;rw [if_pos hc] at h;exact TM h
  .rename_i hc;rw [(bL:k+1 - 1=k)];omega
theorem W2 {f:Int->Xa0}{o:Xa0}{x y:Int}:y∈Qf f o x↔y=x\/y∈o:=by
 unfold Qf;conv=>rhs;rw [<- List.take_append_drop (DX f x o o.length) o]
 simp only [aQ,aP];grind
theorem Bi {f:Int->Xa0}{a b c:Int}(e:mB f a b)(d:mB f b c):mB f a c:=by
 unfold mB at *;rcases e with e|⟨e,h⟩<;>rcases d with d|⟨d,g⟩
 .exact .inl (rA (mI e) d)
 .rw [rB d] at e;exact .inl e
 .rw [<- rB e] at d;exact .inl d
 .rw [<- rB d];exact .inr ⟨e,bL⟩
theorem YM {f:Int->Xa0}{o:Xa0}{x:Int}(i:o.Pairwise (mB f))(r:∀ y∈o,y<x):(Qf f o x).Pairwise (mB f):=by
 unfold Qf;obtain ⟨k,l⟩:=cY (DX f x o o.length);have s:k<=o.length:=l ▸ NL f x o o.length;rw [<- l];have c:∀ y∈o.take k,mB f y x:=λy g=>by
  obtain ⟨p,h,rfl⟩:=aM g;rw [bT] at h;rw [mR];have t:=TM (f:=f) (x:=x) (o:=o) (k:=o.length) bL;rw [<- l,jU bL] at t;have n:mB f o[k - 1] x:=by
   have:=j8 (f x) (f o[k - 1]);by_cases m:cJ (f o[k - 1]) (f x)<0
   .exact .inl m
   .exact .inr ⟨bL,r _ (aC _)⟩
  by_cases m:p<k - 1
  .exact Bi (cA.1 i p (k - 1) bL bL m) n
  .have e:p=k - 1:=bL;subst e;exact n
 have d:∀ y∈o.drop k,mB f x y:=λy g=>by
  obtain ⟨p,h,rfl⟩:=aM g;rw [dV] at h;rw [HD];have:=TN (f:=f) (x:=x) (o:=o) (k:=o.length) (j:=k+p) bL bL;rw [jU bL] at this;exact .inl this
 rw [kA,rI];refine ⟨i.sublist (List.take_sublist k o),⟨d,i.sublist (List.drop_sublist k o)⟩,λa q b hb=>?_⟩;rcases aP.1 hb with rfl|hb
 .exact c a q
 .exact Bi (c a q) (d b hb)
theorem BR {f:Int->Xa0}{p:Int->Bool}:∀ n,(yP f p n).Pairwise (mB f)/\∀ x,x∈yP f p n↔∃ k:Nat,k<n/\x=(k:Int)/\p k=true
 | 0=>by simp [yP]
 | n+1=>by
  obtain ⟨h1,h2⟩:=BR (f:=f) (p:=p) n;simp only [yP];split
  .rename_i h;refine ⟨YM h1 λy hy=>?_,λx=>?_⟩
   .obtain ⟨k,hk,rfl,_⟩:=(h2 y).1 hy;omega
   .rw [W2,h2];constructor
    .rintro (rfl|⟨k,hk,e⟩)
     .exact ⟨n,bL,rfl,h⟩
     .exact ⟨k,bL,e⟩
    .rintro ⟨k,hk,rfl,e⟩;by_cases hc:k<n
     .exact .inr ⟨k,hc,rfl,e⟩
     .left;rw [(bL:k=n)]
  .rename_i h;refine ⟨h1,λx=>?_⟩;rw [h2];constructor
   .rintro ⟨k,hk,e⟩;exact ⟨k,bL,e⟩
   .rintro ⟨k,hk,rfl,e⟩;by_cases hc:k<n
    .exact ⟨k,hc,rfl,e⟩
    .rw [(bL:k=n)] at e;exact absurd e h
theorem YK (g:Graph)(o:Xa0)(i:Nat):Jf g o i=Qf (λx=>[jS g x]) o i:=by
 have:∀ k,vV g (jS g i) o k=DX (λx=>[jS g x]) i o k:=λk=>by
  induction k with
  | zero=>rfl
  | succ k ih =>
   have a:cJ [jS g i] [jS g (iA o k)]<0↔jS g i<jS g (iA o k):=by
    simp only [cJ];split
    .simp [*]
    .split<;>simp [*]
   simp only [vV,DX,ih,a]
 unfold Jf Qf;rw [this];simp
theorem MD (g:Graph)(i j:Int):∀ n,qL g i j n=yP (λx=>[jS g x]) (λk=>Cg i j (eA g k)) n
 | 0=>rfl
 | n+1=>by
  simp only [qL,yP];rw [YK,MD g i j n]
theorem Qd {f:Int->Xa0}{l m:Xa0}(d:l.Pairwise (mB f))(g:m.Pairwise (mB f))(h:∀ x,x∈l↔x∈m):l=m:=by
 have c:∀ {l:Xa0},l.Pairwise (mB f)->l.Nodup:=λd=>d.imp λ {a b} h e=>by
  subst e;rcases h with h|h
  .rw [iG] at h;omega
  .omega
 refine HE (le:=mB f) (λa b _ _ j i=>?_) d g ((List.perm_ext_iff_of_nodup (c d) (c g)).2 h);have:=Bi j i;rcases this with h|h
 .rw [iG] at h;omega
 .omega
def pX (g:Graph)(pl:Xa0)(k:Int):Xa0 :=
 let a:=iA pl (eA g k).from_
 let b:=iA pl (eA g k).L
 if a<b then [b,a,0,jS g k] else if b<a then [a,b,1,jS g k] else [b,8,0,jS g k]
def r5 (g:Graph)(i j:Int):Xa0:=qL g i j g.j.length
def Ca (g:Graph)(l:Xa0)(k:Int):Xa0:=(l.flatMap λj=>r5 g j k++r5 g k j)++r5 g k k
def VC (g:Graph)(o:Xa0):Xa0:=(List.range o.length).flatMap λk=>Ca g (o.take k) (iA o k)
theorem j9 {g:Graph}{i j x:Int}:x∈r5 g i j↔(0<=x/\x<g.j.length)/\(eA g x).from_=i/\(eA g x).L=j:=by
 unfold r5;rw [Er];unfold Cg;simp only [aR,decide_eq_true_eq];constructor
 .rintro ⟨k,b,rfl,h⟩;exact ⟨bL,h⟩
 .rintro ⟨c,a⟩;have e:((x.toNat:Nat):Int)=x:=bL;exact ⟨x.toNat,bL,e.symm,by rw [e];exact a⟩
theorem JT {g:Graph}{m c:Xa0}{i j:Int}(n:∀ x,(eA g x).from_=i->(eA g x).L=j->pX g m x=c++[jS g x]):(r5 g i j).Pairwise (mB (pX g m)):=by
 have h:=(BR (f:=λx=>[jS g x]) (p:=λk=>Cg i j (eA g k)) g.j.length).1;rw [<- MD] at h;refine List.Pairwise.imp_of_mem (λ {a b} l e d=>?_) h;have l:=(j9.1 l).2;have e:=(j9.1 e).2;unfold mB at d ⊢;rw [n a l.1 l.2,n b e.1 e.2,y7];exact d
theorem YT {g:Graph}{o G:Xa0}(hn:o.Nodup)(h8:o.length<=8)(F:∀ k:Nat,k<o.length->iA G (iA o k)=(k:Int))(X:∀ x:Int,0<=x/\x<g.j.length->(eA g x).from_∈o/\(eA g x).L∈o) :
  yP (pX g G) (λ_=>true) g.j.length=VC g o:=by
 obtain ⟨T,S⟩:=BR (f:=pX g G) (p:=λ_=>true) g.j.length;have K:∀ {v:Int},v∈o->∃ k:Nat,k<o.length/\iA o k=v:=λI=>by
  obtain ⟨k,r,e⟩:=aM I;exact ⟨k,r,by rw [jU r,e]⟩
 have z:∀ {k:Nat} {x:Int},k<o.length->(x∈Ca g (o.take k) (iA o k)↔(∃ j:Nat,j<k/\(x∈r5 g (iA o j) (iA o k)\/x∈r5 g (iA o k) (iA o j)))\/x∈r5 g (iA o k) (iA o k)):=λ {k x} r=>by
  unfold Ca;rw [aQ,bM];refine or_congr ?_ Iff.rfl;constructor
  .rintro ⟨v,I,hx⟩;obtain ⟨j,E,rfl⟩:=aM I;rw [bT] at E;rw [mR,<- jU (l:=o) bL] at hx;exact ⟨j,bL,aQ.1 hx⟩
  .rintro ⟨j,E,hx⟩;refine ⟨iA o j,?_,aQ.2 hx⟩;rw [jU bL];exact uF.2 ⟨j,bL,rfl⟩
 have t:∀ {j k:Nat} {x:Int},j<k->k<o.length->(eA g x).from_=iA o j->(eA g x).L=iA o k->pX g G x=[(k:Int),j,0]++[jS g x]:=λ {j k x} N r D C=>by
  unfold pX;simp only [D,C,F j bL,F k r];rw [if_pos bL];rfl
 have s:∀ {j k:Nat} {x:Int},j<k->k<o.length->(eA g x).from_=iA o k->(eA g x).L=iA o j->pX g G x=[(k:Int),j,1]++[jS g x]:=λ {j k x} N r D C=>by
  unfold pX;simp only [D,C,F j bL,F k r];rw [if_neg bL,if_pos bL];rfl
 have w:∀ {k:Nat} {x:Int},k<o.length->(eA g x).from_=iA o k->(eA g x).L=iA o k->pX g G x=[(k:Int),8,0]++[jS g x]:=λ {k x} r D C=>by
  unfold pX;simp only [D,C,F k r];rw [if_neg bL,if_neg bL];rfl
 have A:∀ {c d:Xa0} {a b:Int},pX g G a=c++[jS g a]->pX g G b=d++[jS g b]->cJ c d<0->c.length=d.length->mB (pX g G) a b:=λ {c d a b} D C R Y=>by
  refine .inl ?_;rw [D,C];refine Ei _ _ R λU=>?_;rw [Wr Y U,iG] at R;omega
 refine Qd T ?_ λx=>?_
 .unfold VC;rw [AI];refine ⟨λk r=>?_,List.pairwise_lt_range.imp_of_mem λ {k m} r M V x hx y hy=>?_⟩
  .have r:=bN.1 r;unfold Ca;rw [kA];refine ⟨?_,JT λx D C=>w r D C,λa ha b B=>?_⟩
   .rw [AI];refine ⟨λv I=>?_,?_⟩
    .obtain ⟨j,E,rfl⟩:=aM I;rw [bT] at E;rw [mR,<- jU (l:=o) bL,kA];refine ⟨JT λx D C=>t bL r D C,JT λx D C=>s bL r D C,λa ha b B=>?_⟩;have ha:=(j9.1 ha).2;have B:=(j9.1 B).2;exact A (t (j:=j) bL r ha.1 ha.2) (s (j:=j) bL r B.1 B.2) (by simp [cJ]) rfl
    .refine cA.2 λi j W E H x hx y hy=>?_;rw [bT] at W E;rw [mR,<- jU (l:=o) bL] at hx hy;have u:∀ {i j:Nat} {p q:Int},i<j->cJ [(k:Int),i,p] [(k:Int),j,q]<0:=λ {i j p q} h=>by
      simp only [cJ];rw [if_neg bL,if_neg bL,if_pos bL];omega
     rcases aQ.1 hx with hx|hx<;>rcases aQ.1 hy with hy|hy<;>have hx:=(j9.1 hx).2<;>have hy:=(j9.1 hy).2
     .exact A (t (j:=i) bL r hx.1 hx.2) (t (j:=j) bL r hy.1 hy.2) (u H) rfl
     .exact A (t (j:=i) bL r hx.1 hx.2) (s (j:=j) bL r hy.1 hy.2) (u H) rfl
     .exact A (s (j:=i) bL r hx.1 hx.2) (t (j:=j) bL r hy.1 hy.2) (u H) rfl
     .exact A (s (j:=i) bL r hx.1 hx.2) (s (j:=j) bL r hy.1 hy.2) (u H) rfl
   .obtain ⟨v,I,ha⟩:=bM.1 ha;obtain ⟨j,E,rfl⟩:=aM I;rw [bT] at E;rw [mR,<- jU (l:=o) bL] at ha;have B:=(j9.1 B).2;have u:∀ {p:Int},cJ [(k:Int),j,p] [(k:Int),8,0]<0:=λ {p}=>by
     simp only [cJ];rw [if_neg bL,if_neg bL,if_pos bL];omega
    rcases aQ.1 ha with ha|ha<;>have ha:=(j9.1 ha).2
    .exact A (t (j:=j) bL r ha.1 ha.2) (w r B.1 B.2) u rfl
    .exact A (s (j:=j) bL r ha.1 ha.2) (w r B.1 B.2) u rfl
  .have r:=bN.1 r;have M:=bN.1 M;have J:∀ {k:Nat} {x:Int},k<o.length->x∈Ca g (o.take k) (iA o k)->∃ a b,pX g G x=[(k:Int),a,b]++[jS g x]:=λ {k x} r hx=>by
    rcases (z r).1 hx with ⟨j,E,h|h⟩|h<;>have h:=(j9.1 h).2
    .exact ⟨_,_,t E r h.1 h.2⟩
    .exact ⟨_,_,s E r h.1 h.2⟩
    .exact ⟨_,_,w r h.1 h.2⟩
   obtain ⟨a,b,e1⟩:=J r hx;obtain ⟨c,d,e2⟩:=J M hy;exact A e1 e2 (by simp only [cJ];rw [if_pos bL];omega) rfl
 .rw [S];unfold VC;simp only [bM,bN];constructor
  .rintro ⟨n,hx,rfl,_⟩;obtain ⟨f1,Z⟩:=X n bL;obtain ⟨a,ha,Q⟩:=K f1;obtain ⟨b,B,P⟩:=K Z;have L:(0:Int)<=n/\(n:Int)<g.j.length:=bL;by_cases O:a<b
   .exact ⟨b,B,(z B).2 (.inl ⟨a,O,.inl (j9.2 ⟨L,Q.symm,P.symm⟩)⟩)⟩
   .by_cases hba:b<a
    .exact ⟨a,ha,(z ha).2 (.inl ⟨b,hba,.inr (j9.2 ⟨L,Q.symm,P.symm⟩)⟩)⟩
    .have e:a=b:=bL;subst e;exact ⟨a,ha,(z ha).2 (.inr (j9.2 ⟨L,Q.symm,P.symm⟩))⟩
  .rintro ⟨k,r,hx⟩;have L:0<=x/\x<g.j.length:=by
    rcases (z r).1 hx with ⟨j,E,h|h⟩|h<;>exact (j9.1 h).1
   exact ⟨x.toNat,bL,bL,trivial⟩
def iU (l:Xa0)(a m b:Nat):Xa0:=l.take a++((l.take b).drop m++((l.take m).drop a++l.drop b))
theorem kC {l:Xa0}{a m b:Nat}(e:a<=m)(d:m<=b)(c:b<=l.length)(p:Nat) :
  iA (iU l a m b) p=if p<a then iA l p else if p<a+(b - m) then iA l ((m+(p - a):Nat):Int) else if p<b then iA l ((p - (b - m):Nat):Int) else iA l p:=by
 unfold iU iA;simp only [Int.toNat_natCast,List.getElem?_append,bT,dV,bX,bV]
 repeat' split
 all_goals first
  | rfl
  | (exfalso;omega)
  | (congr 2;omega)
  | (rename_i h _;rw [bC bL])
theorem Lw {l:Xa0}{a m b:Nat}(f:a<=m)(d:m<=b):(iU l a m b).Perm l:=by
 have c:∀ {p q:Nat},p<=q->l.take q=l.take p++(l.take q).drop p:=λ {p q} h=>by
  conv=>lhs;rw [<- List.take_append_drop p (l.take q),List.take_take,xR h]
 have e:l=l.take a++((l.take m).drop a++((l.take b).drop m++l.drop b)):=by
  rw [<- List.append_assoc,<- c f,<- List.append_assoc,<- c d,List.take_append_drop]
 unfold iU;conv=>rhs;rw [e]
 refine List.Perm.append_left _ ?_;rw [<- List.append_assoc,<- List.append_assoc];exact List.Perm.append_right _ List.perm_append_comm
def Rng (l m:Xa0)(a b:Nat):Prop:=m.Perm l/\∀ i:Nat,i<a\/b<=i->iA m i=iA l i
def Srtd (f:Int->Xa0)(l:Xa0)(a b:Nat):Prop:=∀ i j:Nat,a<=i->i<j->j<b->mB f (iA l i) (iA l j)
def VX (l:Xa0)(a m b:Nat):Prop:=∀ i j:Nat,a<=i->i<m->m<=j->j<b->iA l i<iA l j
theorem Rng.refl (l:Xa0)(a b:Nat):Rng l l a b:=⟨List.Perm.refl _,λ_ _=>rfl⟩
theorem Rng.trans {l m n:Xa0}{a b:Nat}(h:Rng l m a b)(k:Rng m n a b):Rng l n a b:=⟨k.1.trans h.1,λi hi=>by rw [k.2 i hi,h.2 i hi]⟩
theorem Rng.wide {l m:Xa0}{a b c d:Nat}(h:Rng l m a b)(h1:c<=a)(h2:b<=d):Rng l m c d:=⟨h.1,λi hi=>h.2 i bL⟩
theorem Rng.len {l m:Xa0}{a b:Nat}(h:Rng l m a b):m.length=l.length:=h.1.length_eq
theorem aa1 {l:Xa0}(c:l.Nodup){i j:Nat}(b:i<l.length)(a:j<l.length)(h:iA l i=iA l j):i=j:=by
 rw [jU b,jU a] at h;have:=cA.1 c;rcases Nat.lt_trichotomy i j with hc|hc|hc
 .exact absurd h (this i j b a hc)
 .exact hc
 .exact absurd h.symm (this j i a b hc)
theorem Rng.from {l m:Xa0}{a b:Nat}(d:l.Nodup)(h:Rng l m a b)(o:b<=l.length){i:Nat}(q:a<=i)(p:i<b):∃ j:Nat,(a<=j/\j<b)/\iA m i=iA l j:=by
 have n:=h.len;have f:iA m i∈l:=h.1.mem_iff.1 (by rw [jU bL];exact aC _);obtain ⟨j,g,e⟩:=aM f;rw [<- jU g] at e;refine ⟨j,?_,e.symm⟩;by_cases k:a<=j/\j<b
 .exact k
 .exfalso;have c:=h.2 j bL;rw [e] at c;have:=aa1 (h.1.nodup_iff.2 d) (bL:j<m.length) (bL:i<m.length) c;omega
theorem Srtd.same {f:Int->Xa0}{l m:Xa0}{a b c d:Nat}(h:Srtd f l a b)(hs:∀ i:Nat,c<=i->i<d->∃ k:Nat,k=i+a - c/\iA m i=iA l k)(hd:d - c<=b - a):Srtd f m c d:=λi j h1 h2 h3=>by
 obtain ⟨p,hp,e1⟩:=hs i h1 bL;obtain ⟨q,hq,e2⟩:=hs j bL h3;rw [e1,e2];exact h p q bL bL bL
theorem Jd {f:Int->Xa0}{a b c:Int}(h1:a=b\/mB f a b)(d:mB f b c):mB f a c:=by
 rcases h1 with rfl|h1
 .exact d
 .exact Bi h1 d
theorem Fp {f:Int->Xa0}{a b c:Int}(d:mB f a b)(h2:b=c\/mB f b c):mB f a c:=by
 rcases h2 with rfl|h2
 .exact d
 .exact Bi d h2
theorem Fo {f:Int->Xa0}{a b:Int}(h:¬ cJ (f b) (f a)<0)(c:a<b):mB f a b:=by
 have:=j8 (f a) (f b);unfold mB;by_cases d:cJ (f a) (f b)<0
 .exact .inl d
 .exact .inr ⟨bL,c⟩
theorem Srtd.le {f:Int->Xa0}{l:Xa0}{a b i j:Nat}(h:Srtd f l a b)(g:a<=i)(e:i<=j)(d:j<b):iA l i=iA l j\/mB f (iA l i) (iA l j):=by
 rcases Nat.lt_or_eq_of_le e with c|rfl
 .exact .inr (h i j g c d)
 .exact .inl rfl
section
variable {f:Int→Xa0} {l:Xa0} {a m b s e:Nat}
structure Cut (f:Int->Xa0) (l:Xa0) (a m b s e:Nat):Prop where
 nd:l.Nodup
 le:a<=s/\s<=m/\m<=e/\e<=b/\b<=l.length
 s1:Srtd f l a m
 s2:Srtd f l m b
 am:VX l a m b
 c1:a<s->e<b->¬ cJ (f (iA l e)) (f (iA l ((s - 1:Nat):Int)))<0
 c2:s<m->m<e->cJ (f (iA l ((e - 1:Nat):Int))) (f (iA l s))<0
theorem Cut.ca (C:Cut f l a m b s e){i j:Nat}(hi:(a<=i/\i<s)\/(m<=i/\i<e))(hj:(s<=j/\j<m)\/(e<=j/\j<b)):mB f (iA l i) (iA l j):=by
 obtain ⟨k,h,g,d,c⟩:=C.le;rcases hi with hi|hi<;>rcases hj with hj|hj
 .exact C.s1 i j bL bL bL
 .refine Jd (C.s1.le (j:=s - 1) hi.1 bL bL) (Fp (Fo (C.c1 bL bL) (C.am _ _ bL bL bL bL)) (C.s2.le bL hj.1 hj.2))
 .refine Jd (C.s2.le (j:=e - 1) hi.1 bL bL) (Fp (.inl (C.c2 bL bL)) (C.s1.le bL hj.1 hj.2))
 .exact C.s2 i j bL bL bL
theorem Cut.W (C:Cut f l a m b s e):Rng l (iU l s m e) a b:=by
 obtain ⟨k,d,c,j,h⟩:=C.le;refine ⟨Lw d c,λi g=>?_⟩;rw [kC d c bL]
 repeat' split
 all_goals first|rfl|(exfalso;omega)
theorem Cut.left (C:Cut f l a m b s e):Srtd f (iU l s m e) a s/\Srtd f (iU l s m e) s (s+(e - m))/\VX (iU l s m e) a s (s+(e - m)):=by
 obtain ⟨t,k,h,r,o⟩:=C.le;have at_:=kC k h (bL:e<=l.length);refine ⟨C.s1.same (λi p q=>⟨i,bL,by rw [at_,if_pos q]⟩) bL,C.s2.same (λi p q=>⟨m+(i - s),bL,by rw [at_,if_neg bL,if_pos q]⟩) bL,λi j g d n c=>?_⟩;rw [at_,if_pos d,at_,if_neg bL,if_pos c];exact C.am _ _ g bL bL bL
theorem Cut.right (C:Cut f l a m b s e):Srtd f (iU l s m e) (s+(e - m)) e/\Srtd f (iU l s m e) e b/\VX (iU l s m e) (s+(e - m)) e b:=by
 obtain ⟨q,k,h,p,o⟩:=C.le;have at_:=kC k h (bL:e<=l.length);refine ⟨λi j g d c=>?_,λi j g d c=>?_,λi j g d c n=>?_⟩
 .rw [at_,if_neg bL,if_neg bL,if_pos bL,at_,if_neg bL,if_neg bL,if_pos c];exact C.s1 _ _ bL bL bL
 .rw [at_,if_neg bL,if_neg bL,if_neg bL,at_,if_neg bL,if_neg bL,if_neg bL];exact C.s2 _ _ bL d c
 .rw [at_,if_neg bL,if_neg bL,if_pos d,at_,if_neg bL,if_neg bL,if_neg bL];exact C.am _ _ bL bL bL bL
theorem Cut.done (C:Cut f l a m b s e){k n:Xa0}(g:Rng (iU l s m e) k a (s+(e - m)))(A:Srtd f k a (s+(e - m)))(d:Rng k n (s+(e - m)) b)(z:Srtd f n (s+(e - m)) b):Rng l n a b/\Srtd f n a b:=by
 obtain ⟨O,G,F,N,M⟩:=C.le;have at_:=kC G F (bL:e<=l.length);have t:=C.W;have I:=t.trans (g.wide (aT _) bL);have H:=I.trans (d.wide bL (aT _));refine ⟨H,λi j w v u=>?_⟩;have x:(iU l s m e).Nodup:=t.1.nodup_iff.2 C.nd;have y:k.Nodup:=g.1.nodup_iff.2 x;have K:=t.len;have J:=g.len;by_cases B:j<s+(e - m)
 .rw [d.2 i bL,d.2 j bL];exact A i j w v B
 .by_cases hi:s+(e - m)<=i
  .exact z i j hi v u
  .obtain ⟨p,r,E⟩:=g.from x bL w (bL:i<s+(e - m));obtain ⟨q,L,D⟩:=d.from y bL (bL:s+(e - m)<=j) u;rw [d.2 i bL,E,D,g.2 q bL,at_,at_];have o:¬ q<s:=bL;rw [if_neg o,if_neg (bL:¬ q<s+(e - m))];by_cases h:p<s
   .rw [if_pos h];by_cases c:q<e
    .rw [if_pos c];exact C.ca (.inl ⟨r.1,h⟩) (.inl bL)
    .rw [if_neg c];exact C.ca (.inl ⟨r.1,h⟩) (.inr bL)
   .rw [if_neg h,if_pos r.2];by_cases c:q<e
    .rw [if_pos c];exact C.ca (.inr bL) (.inl bL)
    .rw [if_neg c];exact C.ca (.inr bL) (.inr bL)
theorem Cut.flat (C:Cut f l a m b s e)(d:a=s\/m=e)(c:Srtd f (iU l s m e) (s+(e - m)) b):Rng l (iU l s m e) a b/\Srtd f (iU l s m e) a b:=by
 obtain ⟨o,n,k,j,i⟩:=C.le;refine C.done (Rng.refl _ _ _) ?_ (Rng.refl _ _ _) c;obtain ⟨h,g,_⟩:=C.left;rcases d with rfl|rfl
 .exact g
 .rw [nU,p7];exact h
end
theorem Bd (t:Types)(p:Pattern)(h:Host)(a:Bool):(eO t p h a).1.length<=5000:=by
 unfold eO;split
 .simp
 .split
  .simp
  .split
   .simp
   .exact dA (List.length_filterMap_le _ _) (J1 _ _ _ _)
theorem Y7 (t:Types)(b:t.ok)(r:Rule)(f:r.ok)(h:Host)(m:Mat){v:Stp26}{e:Int}(a:v=pE t r h m)(g:e=nT t r h m):Pua 75 [t.d,r.d,h.d,m.d] (.tup [.agg v.c,dI e]):=by
 subst a g;exact Gg t b r f h m
theorem Fd (t:Types)(q:t.ok)(r:Rule)(A:r.ok)(h:Host):Pua 74 [t.d,r.d,h.d] (.tup [.list ((iS t r h).1.map Mat.c),dI (iS t r h).2]):=by
 refine Tz.pK ⟨λt=>t==11||t==13,λr=>match r with|11=>[(0,11),(1,11),(2,11),(5,11),(6,11),(7,11)]|_=>[]⟩ func74 rfl (λQ x=>?_);have Y:=wa @Host.d.eq_1 @Host.c.eq_1;refine wv (h:=aB (Gf t q r A h) wl ?_);refine dD (λE=>?_) λE=>?_
 .have hS:iS t r h=([],fU t r h):=by unfold iS;rw [if_pos E]
  exact wv (h:=x _ _ (eD hS))
 .refine wv (h:=aB (KC t q r.left h r.inj) wl ?_);refine dD (λD=>?_) λD=>?_
  .have hS:iS t r h=([],(eO t r.left h r.inj).2):=by unfold iS;rw [if_neg bL,if_pos D]
   exact wv (h:=x _ _ (eD hS))
  .have hS:iS t r h=((eO t r.left h r.inj).1.filter λm=>decide (iT t r h m=0),0):=by unfold iS;rw [if_neg bL,if_neg bL]
   have z:=Bd t r.left h r.inj;obtain ⟨L,C⟩:=cY ((eO t r.left h r.inj).1);rw [<- C] at hS z;have w:∀ m,nT t r h m=iT t r h m:=λm=>by unfold nT;rw [if_neg bL]
   have Y:=wa Y (Eq.symm C);refine wv (h:=bA (λi e H=>∃ g:List Mat,(e 3=.adr t.c/\e 4=.adr r.c/\e 5=.adr h.c/\e 9=.list (L.map Mat.c)/\e 11=.own 0 g.length/\e 12=dI i)/\(H.get 0=some ⟨78,3,g.map Mat.c,false⟩)/\(0<H.next)/\(i<=L.length)/\(g=(L.take i).filter λm=>decide (iT t r h m=0))/\(g.length<=i)) (λi=>L.length - i) 0 ⟨([]),wg,wn,wn,wi,(by rfl),(by simp)⟩ λK n i e H u=>?_);obtain ⟨g,I,p,k,J,f,G⟩:=u;have Y:=xa2 Y I p (bU k);refine jH (λo=>?_) λo=>?_
   .obtain ⟨v,F⟩:=cY (pE t r h L[i]);obtain ⟨e,B⟩:=cY (nT t r h L[i]);obtain ⟨b,a⟩:∃ y,y=g++[L[i]].filter λm=>decide (iT t r h m=0):=⟨_,rfl⟩;have l:iT t r h L[i]=e:=by rw [B,w]
    have Y:=xa2 Y o (aA o) @Mat.c.eq_1;refine wp (h:=aJ ((by have s:=Y7 t q r A h L[i] F B;simp only [Stp26.c,Rule.c,Mat.c,Host.c,eV,fT] at s;unfold Mat.d Mat.c dLI at s;exact s)) wl ?_);refine jH (λj=>?_) λj=>?_
    .have hm3:b=g++[L[i]]:=by rw [a,xU (by rw [l];simpa using j)];rfl
     have Y:=wa Y hm3;exact wp (h:=wx n (i+1) ⟨b,wg,wn,wn,wj,(by rw [aD o,eU,<- f,a]),(by rw [hm3];first|(simp;omega)|omega)⟩)
    .have hm3:b=g:=by rw [a,qJ (by rw [l];simpa using j)];simp
     have Y:=wa Y hm3;exact wp (h:=wx n (i+1) ⟨b,wg,wn,wn,wj,(by rw [aD o,eU,<- f,a]),(by rw [hm3];first|(simp;omega)|omega)⟩)
   .rw [aH bL] at f;exact wv (h:=x _ _ (by simp [go_sem,Y,hS,<- f]))
theorem Wa (l:List Stp26):D.T (l.map Stp26.c)=true:=dL _ Stp26.U l
attribute [go_sem] Wa
theorem Od (t:Types)(r:Rule)(h:Host):(iS t r h).1.length<=5000:=by
 unfold iS;split
 .simp
 .split
  .simp
  .exact dA (iC _ _) (Bd _ _ _ _)
def scnC (t:Types)(h:Host)(inj:Bool):Xa2:=[.list (t.i.map NodeTy.c),.list (t.j.map EdgeTy.c),dLI h.o.i,.list (h.o.j.map Edge.c),.list (h.values.map cL),.bool inj]
def V8 (n i:Nat):List Bool:=List.replicate i true++List.replicate (n - i) false
theorem X6 {n i:Nat}(h:i<=n):(V8 n i).length=n:=by simp [V8];omega
theorem X5 {n i:Nat}(h:i<n):(V8 n i).set i true=V8 n (i+1):=by
 unfold V8;rw [lI _ _ bS,sH,nU,show n - i=(n - (i+1))+1 by omega,mU,nW,Ch,List.append_assoc];rfl
theorem y5 (n:Nat)(m:n<=1000)(at_ a:Xa0)(p:∀ x∈at_,0<=x/\x<n)(u:at_.length<=a.length):Pua 399 [dI n,dLI at_,dLI a] (dLI (A9 n at_ a)):=by
 refine Tz.pK ⟨λt=>t==12,λ_=>[]⟩ func399 rfl (λQ o=>?_);have Y:=trivial;refine wv (h:=mT (CQ (-1) n m) wl ?_);refine wv (h:=?_);repeat first|intro _|refine ⟨fY,?_⟩
 refine bA (λk e H=>(e 0=dI n/\e 1=dLI at_/\e 2=dLI a/\e 7=.own 0 n/\e 13=dLI at_/\e 14=dI at_.length/\e 15=dI k)/\(H.get 0=some ⟨3,1,(PL at_ a n k).map cI,false⟩)/\(0<H.next)/\(k<=at_.length)/\((PL at_ a n k).length=n)) (λk=>at_.length - k) 0 ⟨wg,(by simp [go_sem,Y,PL,cI]),wn,wi,(by exact DJ _ _ _ _)⟩ λv l k e H b=>?_;obtain ⟨q,f,c,r,g⟩:=b;have Y:=xa3 Y q f (bU c) g;refine dD (λd=>?_) λd=>?_
 .have hki:k<a.length:=bL;have s:=p _ (aC d);have j:at_[k]?.getD 0=at_[k]:=by rw [aA d];rfl
  have b:a[k]?.getD 0=a[k]:=by rw [aA hki];rfl
  have i:at_[k].toNat<(PL at_ a n k).length:=bL;have Y:=xa3 Y d (aA d) (aA hki) (aA i);refine wv (h:=?_);repeat first|intro _|refine ⟨fY,?_⟩
  exact wx l (k+1) ⟨wg,(by simp [go_sem,Y,IO,c8,j,b,cI]),wn,wj,(by exact DJ _ _ _ _)⟩
 .have hP:A9 n at_ a=PL at_ a n k:=by unfold A9 PL;rw [(bL:k=at_.length)]
  exact wv (h:=o _ _ (by simp [go_sem,Y,hP,dLI]))
theorem Ng (t:Types)(C:Bool)(p:Pattern)(h:Host)(m:Part)(U:SOk p h m)(vs:Xa0)(hl:vs.length<=p.vars.toNat)(hs:∀ v∈vs,-2000000<=v/\v<=2000000) :
  Pua 401 [.agg (scnC t h C),p.d,m.d,dLI vs] (.tup [dLI (eY p h m vs).1,.bool (decide ((eY p h m vs).2=0))]):=by
 have hv:=U.vars;have h0:=OS hv.1 hl hs;have J:M3 p vs=(J7 vs p.vars.toNat,NI vs.length p.vars.toNat):=by unfold M3;rw [NH _ _ hl];rfl
 have a4:(p.vars - (vs.length:Int)).toNat=p.vars.toNat - vs.length:=bL;have a3:vs.length+(p.vars.toNat - vs.length)=p.vars.toNat:=bL;have b0:(vs.map cI++List.replicate (p.vars.toNat - vs.length) [D.int .i64 0])=(J7 vs p.vars.toNat).map cI:=by simp [J7,cI]
 refine Tp em (λQ hQ=>ACalls.b0 1 (Tz.cK ⟨λt=>t==22||t==11||t==14||t==20,λr=>match r with|1=>[(1,2),(1,3),(1,5)]|_=>[]⟩ func401 rfl ?_));have Y:=xa6 a4 a3 @Pattern.d.eq_1 @Pattern.c.eq_1 @scnC.eq_1 @Part.d.eq_1 @Part.c.eq_1 @Term.c.eq_1;refine wv (h:=?_);repeat first|intro _|refine ⟨fY,?_⟩
 refine s4 0 (jC vs bL) em rfl (by first|omega|simp [go_sem]) (by simp [gP,jQ,pJ,BD]) (by first|trivial|(simp [go_sem];done)|simp [go_sem,chk]) ?_;refine wv (h:=?_);repeat first|intro _|refine ⟨fY,?_⟩
 refine bA (λi e H=>(e 4=.adr (scnC t h C)/\e 5=.adr p.c/\e 6=.adr m.c/\e 3=dLI vs/\e 10=.own 0 p.vars.toNat/\e 11=.own 10 p.vars.toNat/\e 33=dI vs.length/\e 34=dI i)/\(H.get 0=some ⟨3,1,(J7 vs p.vars.toNat).map cI,false⟩)/\(0<H.next)/\(H.get 10=some ⟨4,1,(V8 p.vars.toNat i).map cB,false⟩)/\(10<H.next)/\(i<=vs.length)) (λi=>vs.length - i) 0 ⟨wg,(fe b0),wn,(by simp [go_sem,V8,cB]),wn,wi⟩ λI0 b9 i e H b3=>?_;obtain ⟨E0,a8,a2,Z,M,hi⟩:=b3;have Y:=xa4 Y E0 a8 (bU a2) Z (bU M);refine dD (λh4=>?_) λh4=>?_
 .have hTl:=X6 (n:=p.vars.toNat) (i:=i) bL;have b5:i<(V8 p.vars.toNat i).length:=bL;have b4:((V8 p.vars.toNat i).map cB).set i [.bool true]=(V8 p.vars.toNat (i+1)).map cB:=by rw [<- X5 bL,c8];rfl
  have Y:=xa3 Y h4 hTl (aA b5) b4;refine wv (h:=?_);repeat first|intro _|refine ⟨fY,?_⟩
  exact wx b9 (i+1) ⟨wg,wn,wn,cl,wn,wj⟩
 .have hie:i=vs.length:=bL;have b6:V8 p.vars.toNat i=NI vs.length p.vars.toNat:=by rw [hie,NH _ _ hl];rfl
  have Y:=wa Y b6;refine wv (h:=?_);repeat first|intro _|refine ⟨fY,?_⟩
  refine bA (λi e H=>∃ l:Xa0 × List Bool,(e 4=.adr (scnC t h C)/\e 5=.adr p.c/\e 6=.adr m.c/\e 3=dLI vs/\e 10=.own 0 p.vars.toNat/\e 11=.own 10 p.vars.toNat/\e 42=.list (p.q.map Slot.c)/\e 43=dI p.q.length/\e 44=dI i)/\(H.get 0=some ⟨3,1,l.1.map cI,false⟩)/\(0<H.next)/\(H.get 10=some ⟨4,1,l.2.map cB,false⟩)/\(10<H.next)/\(i<=p.q.length)/\(StOk p.vars.toNat l)/\(kB h m (M3 p vs) (p.q.take i)=some l)) (λi=>p.q.length - i) 0 ⟨((J7 vs p.vars.toNat,NI vs.length p.vars.toNat)),wg,cl,wn,cl,wn,wi,(by rw [<- J];exact h0),(by rw [J];rfl)⟩ λI2 G i e H b2=>?_;obtain ⟨l,E2,a7,a1,X,L,hi,s,O⟩:=b2;have Y:=xa4 Y E2 a7 (bU a1) X (bU L);refine dD (λI=>?_) λI=>?_
  .obtain ⟨x,hx⟩:=cY (p.q[i]);have E:x∈p.q:=hx ▸ aC I;have hn:=U.node x E;have u:x.node.toNat<m.i.length:=bL;have hk:=U.bn _ (aC u);have A:(m.i[x.node.toNat]).toNat<h.values.length:=bL;have ha:=U.Q x E;rw [aA u,aF,aA A,aF] at ha;have F:x.Q.toNat<(h.values[(m.i[x.node.toNat]).toNat]).length:=bL;have hV:mN h m x=h.values[(m.i[x.node.toNat]).toNat][x.Q.toNat]:=by unfold mN;rw [aA u,aF,aA A,aF,aA F];rfl
   have hb:=U.bt E;have S:=U.E x E;have z:=s.l1;have P:=s.l2;have c1:=S.1;have c2:=S.2;have o:=v6 I O;rw [<- hx] at o;obtain ⟨q,f⟩:∃ y,y=mY h m l x:=⟨_,rfl⟩;have j:StOk p.vars.toNat q:=f ▸ AU s hb S;rw [<- f] at o;have g:¬ 0<=x.E.var->q=l:=λhn=>by rw [f];unfold mY lZ;rw [if_neg (fg hn)]
   have K:0<=x.E.var->x.E.var.toNat<l.2.length:=λhn=>by omega
   obtain ⟨kb,a5⟩:=cY (l.2[x.E.var.toNat]?.getD false);have R:0<=x.E.var\/(¬ 0<=x.E.var/\l.2[x.E.var.toNat]?=none)\/(¬ 0<=x.E.var/\l.2[x.E.var.toNat]?=some kb):=by
    by_cases N:0<=x.E.var
    .exact .inl N
    .right
     cases ho:l.2[x.E.var.toNat]? with
     | none=>exact .inl ⟨N,rfl⟩
     | some b=>rw [ho] at a5;exact .inr ⟨N,by rw [a5];rfl⟩
   rcases R with hc|hc|hc
   .have Y:=xa3 Y I (aA I) (Eq.symm hx) (xb0 (aA u) (aA A) (aA F) (Eq.symm hV) @Slot.c.eq_1 @cL.eq_1 z P @lH @cB.eq_1 hc ((aA (K hc))));refine wv (h:=?_);repeat first|intro _|refine ⟨fY,?_⟩
    refine wq (λW=>?_) λW=>?_
    .have hF:lZ l x=true:=by simp only [lZ,aR,decide_eq_true_eq,b7];exact ⟨hc,by simpa [aA (K hc)] using W⟩
     unfold mY at f;rw [if_pos hF] at f;have a9:x.E.var.toNat<l.1.length:=bL;have e1:q.1.map cI=(l.1.map cI).set x.E.var.toNat (cI (mN h m x - x.E.add)):=by rw [f,c8]
     have e2:q.2.map cB=(l.2.map cB).set x.E.var.toNat (cB true):=by rw [f,c8]
     have c0:D.T ((l.1.map cI).set x.E.var.toNat [D.int .i64 (mN h m x - x.E.add)])=true:=by have:=sD q.1;rw [e1] at this;exact this
     have Y:=xa5 Y e1 e2 @dLI.eq_1 @cI.eq_1 (aA a9) c0;refine wv (h:=?_);repeat first|intro _|refine ⟨fY,?_⟩
     refine eF (oL x.E q.1 (by rw [j.l1];exact S) j.aE) wr wl rfl ?_;refine wv (h:=?_);repeat first|intro _|refine ⟨fY,?_⟩
     refine wq (λa=>?_) λa=>?_
     .have hR:=eR (o.2 (by first|simpa using a|simpa [g hc.1] using a|simpa [f] using a));exact wv (h:=hQ _ _ (eD hR))
     .have hstep:=o.1 (by first|simpa using a|simpa [g hc.1] using a|simpa [f] using a);refine wv (h:=?_);repeat first|intro _|refine ⟨fY,?_⟩
      exact wx G (i+1) ⟨q,wg,cl,wn,cl,wn,wj,(by exact j),(by exact hstep)⟩
    .have hF:¬ lZ l x=true:=by simp only [lZ,aR,decide_eq_true_eq,b7];rintro ⟨_,hk⟩;simp [aA (K hc)] at hk;simp [hk] at W
     unfold mY at f;rw [if_neg hF] at f;have Y:=wa Y f;refine wv (h:=eF (oL x.E q.1 (by rw [j.l1];exact S) j.aE) wr wl rfl ?_);refine wv (h:=?_);repeat first|intro _|refine ⟨fY,?_⟩
     refine wq (λa=>?_) λa=>?_
     .have hR:=eR (o.2 (by first|simpa using a|simpa [g hc.1] using a|simpa [f] using a));exact wv (h:=hQ _ _ (eD hR))
     .have hstep:=o.1 (by first|simpa using a|simpa [g hc.1] using a|simpa [f] using a);refine wv (h:=?_);repeat first|intro _|refine ⟨fY,?_⟩
      exact wx G (i+1) ⟨q,wg,cl,wn,cl,wn,wj,(by exact j),(by exact hstep)⟩
   .have Y:=xa4 Y I (aA I) (Eq.symm hx) (aA u) (xb0 (aA A) (aA F) (Eq.symm hV) @Slot.c.eq_1 @cL.eq_1 z P @lH @cB.eq_1 hc.1 hc.2 (g hc.1));refine wv (h:=?_);repeat first|intro _|refine ⟨fY,?_⟩
    refine eF (oL x.E q.1 (by rw [j.l1];exact S) j.aE) wr wl rfl ?_;refine wv (h:=?_);repeat first|intro _|refine ⟨fY,?_⟩
    refine wq (λa=>?_) λa=>?_
    .have hR:=eR (o.2 (by first|simpa using a|simpa [g hc.1] using a|simpa [f] using a));exact wv (h:=hQ _ _ (eD hR))
    .have hstep:=o.1 (by first|simpa using a|simpa [g hc.1] using a|simpa [f] using a);refine wv (h:=?_);repeat first|intro _|refine ⟨fY,?_⟩
     exact wx G (i+1) ⟨q,wg,cl,wn,cl,wn,wj,(by exact j),(by exact hstep)⟩
   .have Y:=xa4 Y I (aA I) (Eq.symm hx) (aA u) (xb0 (aA A) (aA F) (Eq.symm hV) @Slot.c.eq_1 @cL.eq_1 z P @lH @cB.eq_1 hc.1 hc.2 (g hc.1));refine wv (h:=?_);repeat first|intro _|refine ⟨fY,?_⟩
    refine eF (oL x.E q.1 (by rw [j.l1];exact S) j.aE) wr wl rfl ?_;refine wv (h:=?_);repeat first|intro _|refine ⟨fY,?_⟩
    refine wq (λa=>?_) λa=>?_
    .have hR:=eR (o.2 (by first|simpa using a|simpa [g hc.1] using a|simpa [f] using a));exact wv (h:=hQ _ _ (eD hR))
    .have hstep:=o.1 (by first|simpa using a|simpa [g hc.1] using a|simpa [f] using a);refine wv (h:=?_);repeat first|intro _|refine ⟨fY,?_⟩
     exact wx G (i+1) ⟨q,wg,cl,wn,cl,wn,wj,(by exact j),(by exact hstep)⟩
  .rw [aH bL] at O;have T:=qO O;have z:=s.l1;have Y:=wa Y z;refine wv (h:=?_);repeat first|intro _|refine ⟨fY,?_⟩
   refine bA (λk e H=>(e 4=.adr (scnC t h C)/\e 5=.adr p.c/\e 6=.adr m.c/\e 3=dLI vs/\e 10=.own 0 p.vars.toNat/\e 102=.list (p.R.map Test.c)/\e 103=dI p.R.length/\e 104=dI k)/\(H.get 0=some ⟨3,1,l.1.map cI,false⟩)/\(0<H.next)/\(k<=p.R.length)/\((p.R.take k).all (λx=>B9 x l.1)=true)) (λk=>p.R.length - k) 0 ⟨wg,wn,wn,wi,(by rfl)⟩ λI4 b8 k e H b1=>?_;obtain ⟨E4,a6,a0,hk,B⟩:=b1;have Y:=xa2 Y E4 a6 (bU a0);refine dD (λw=>?_) λw=>?_
   .have hX:=U.ck _ (aC w);have Y:=xa2 Y w (aA w) @Test.c.eq_1;refine wv (h:=?_);repeat first|intro _|refine ⟨fY,?_⟩
    refine eF (y3 p.R[k] l.1 (by rw [s.l1];exact hX) s.aE) wr wl rfl ?_;refine wv (h:=?_);repeat first|intro _|refine ⟨fY,?_⟩
    refine wq (λV=>?_) λV=>?_
    .have hR:eY p h m vs=([],16):=by
      rw [T,if_neg];intro ha;rw [cF] at ha;have:=ha _ (aC w);simp [this] at V
     exact wv (h:=hQ _ _ (eD hR))
    .refine wv (h:=?_);repeat first|intro _|refine ⟨fY,?_⟩
     exact wx b8 (k+1) ⟨wg,wn,wn,wj,(by rw [aD w,pC,B];simp;simpa using V)⟩
   .rw [aH bL] at B;rw [if_pos B] at T;exact wv (h:=hQ _ _ (by simp [go_sem,Y,T,dLI]))
theorem E7 (t:Types)(L:t.ok)(p:Pattern)(c:Cond)(w:ExOk t p c.map c.u)(h:Host)(M:HostOk t h)(m:Mat)(z:MatOk t p h m)(b:Bool) :
  Pua 393 [.agg (scnC t h b),.agg c.c,m.d] (.tup [.list ((AD t c.map c.u h m b).1.map Mat.c),dI (AD t c.map c.u h m b).2]):=by
 obtain ⟨⟨S,R⟩,E,D⟩:=w.bn;have l:=bW w.pq.gg;have O:=z.de.len;have N:=z.de.bO;refine Tz.pK ⟨λt=>t==8||t==9||t==12||t==14,λr=>match r with|2=>[(0,21),(1,21),(2,21),(3,21),(4,21),(5,21),(6,21),(7,21),(8,21),(9,21),(10,21),(11,21),(12,21),(13,21),(14,21),(15,21),(16,21),(17,21),(18,21),(19,21)]|_=>[]⟩ func393 rfl (λQ I=>?_);obtain ⟨X,A⟩:=cY (o9 t c.u.o h.o (qT c.map c.u m.m) b);have G:∀ x∈X.1,MOk t c.u.o h.o x:=λx K=>Jy (A ▸ K);have T:X.1.length<=5000:=A ▸ TW _ _ _ _ _;have B:m.vars.length<=c.u.vars.toNat:=by have:=z.vl;have:=w.pv;have:=w.p0;omega
 have j:AD t c.map c.u h m b=if X.2≠0 then ([],X.2) else (uJ c.u h m.vars X.1,0):=by unfold AD;rw [<- A]
 have Y:=xa2 @Cond.F @scnC.eq_1 @Mat.d.eq_1 @Mat.c.eq_1;refine wp (h:=aJ (y5 c.u.o.i.length bL c.map.i m.m.i E bL) wl ?_);refine wp (h:=aJ (y5 c.u.o.j.length bL c.map.j m.m.j D bL) wl ?_);refine wp (h:=aB ((by have l:=Kp t L c.u.o h.o (qT c.map c.u m.m) b;rw [<- A] at l;unfold qT Types.d Types.c Graph.d Graph.c Part.d Part.c dLI at l;exact l)) wl ?_);refine jH (λJ=>?_) λJ=>?_
 .rw [if_pos J] at j;exact wv (h:=I _ _ (eD j))
 .rw [if_neg bL] at j;refine wp (h:=bA (λi e H=>∃ k:List Mat,(e 3=.adr (scnC t h b)/\e 4=.adr c.c/\e 5=.adr m.c/\e 57=.list (X.1.map Part.c)/\e 58=dI X.1.length/\e 12=.own 24 k.length/\e 59=dI i)/\(H.get 24=some ⟨78,3,k.map Mat.c,false⟩)/\(24<H.next)/\(i<=X.1.length)/\(k=uJ c.u h m.vars (X.1.take i))/\(k.length<=i)) (λi=>X.1.length - i) 0 ⟨([]),wg,wn,wn,wi,(by rfl),(by simp)⟩ λW u i e H F=>?_);obtain ⟨k,U,q,n,V,g,P⟩:=F;have Y:=xa2 Y U q (bU n);refine dD (λs=>?_) λs=>?_
  .obtain ⟨v,C⟩:=cY (eY c.u h X.1[i] m.vars);obtain ⟨f,a⟩:∃ y,y=k++if v.2=0 then [(⟨X.1[i],v.1⟩:Mat)] else []:=⟨_,rfl⟩
   have Y:=xa3 Y s (aA s) @Part.c.eq_1 @Pattern.c.eq_1;refine wp (h:=aB ((by have l:=Ng t b c.u h X.1[i] (Yi w.pq M (G _ (aC s))) m.vars B z.vs;rw [<- C] at l;unfold scnC Pattern.d Pattern.c Part.d Part.c dLI at l;exact l)) wl ?_);refine jH (λo=>?_) λo=>?_
   .have hm3:f=k++[⟨X.1[i],v.1⟩]:=by rw [a,if_pos (cG o)]
    have Y:=wa Y hm3;exact wp (h:=wx u (i+1) ⟨f,wg,wn,wn,wj,(by rw [aD s,nX,<- g,<- C];exact a),(by rw [a];split<;>simp<;>omega)⟩)
   .have hm3:f=k:=by rw [a,if_neg (cG o),dG]
    have Y:=wa Y hm3;exact wp (h:=wx u (i+1) ⟨f,wg,wn,wn,wj,(by rw [aD s,nX,<- g,<- C];exact a),(by rw [a];split<;>simp<;>omega)⟩)
  .rw [aH bL] at g;exact wv (h:=I _ _ (by simp [go_sem,Y,j,<- g]))
end Go.Abs
end
