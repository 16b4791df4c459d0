/- Layer 22: conditions, continued. · Layer 22: conditions over -/
import Derived.Test.YtpdanmkcpjdmjaaGreatZkAF
import Derived.Test.YtpdanmkcpjdmjaaGreatZkAA
import Derived.Test.YtpdanmkcpjdmjaaGreatZkAI
import Derived.Test.YtpdanmkcpjdmjaaGreatZkAH
set_option linter.unusedVariables false
set_option linter.unusedSimpArgs false
section
set_option maxRecDepth 100000
set_option maxHeartbeats 4000000
open Go Go.Proofs Tryz
namespace Go.Abs
mutual
def Cond.size:Cond->Nat
 | .mk _ l _ _=>1+Cond.aa l
def Cond.aa:List Cond->Nat
 | []=>0
 | c :: l=>c.size+Cond.aa l
end
mutual
def Cond.bJ:Cond->Nat
 | .mk k l _ _=>Cond.aE l+(if k=5 then 1 else 0)
def Cond.aE:List Cond->Nat
 | []=>0
 | c :: l=>max c.bJ (Cond.aE l)
end
theorem Hv (l:List Cond)(c:Cond):Cond.aa (l++[c])=Cond.aa l+c.size:=by
 induction l with
 | nil=>simp [Cond.aa]
 | cons a l ih=>simp [Cond.aa,ih];omega
theorem LO (l:List Cond)(c:Cond):Cond.aE (l++[c])=max (Cond.aE l) c.bJ:=by
 induction l with
 | nil=>simp [Cond.aE]
 | cons a l ih=>simp only [dE,Cond.aE,ih];omega
theorem x9 (c:Cond):c.size=1+Cond.aa c.s:=by cases c;simp [Cond.size,Cond.s]
theorem V8 (c:Cond):c.bJ=Cond.aE c.s+(if c.E=5 then 1 else 0):=by cases c;rw [Cond.bJ];rfl
@[go_sem] theorem Zv:Cond.aa []=0:=by simp [Cond.aa]
@[go_sem] theorem acF:Cond.aE []=0:=by simp [Cond.aE]
theorem CJ {l:List Cond}{c:Cond}(h:c∈l):c.size<=Cond.aa l:=by
 induction l with
 | nil=>cases h
 | cons a l ih =>
  rcases aV.1 h with h1|h1
  .subst h1;simp only [Cond.aa];omega
  .have:=ih h1;simp only [Cond.aa];omega
theorem Hu (l:List Cond)(i:Nat):Cond.aa (l.take i)<=Cond.aa l:=by
 induction l generalizing i with
 | nil=>simp
 | cons a l ih=>cases i with
  | zero=>simp [Cond.aa]
  | succ i=>have:=ih i;simp only [uP,Cond.aa];omega
mutual
theorem RI:∀ c:Cond,c.bJ<=c.size
 | .mk k l m p=>by have:=A4 l;simp only [Cond.bJ,Cond.size];split<;>omega
theorem A4:∀ l:List Cond,Cond.aE l<=Cond.aa l
 | []=>by simp [Cond.aE]
 | c :: l=>by have:=RI c;have:=A4 l;simp only [Cond.aE,Cond.aa];omega
end
theorem Kg (a b:Nat):(if (a:Int)<(b:Int) then (b:Int) else (a:Int))=((max a b:Nat):Int):=by split<;>omega
theorem DO:∀ c:Cond,c.size<=1000000->Pua 302 [.agg c.c] (.tup [dI c.size,dI c.bJ]):=by
 refine kS λc A J=>?_;have f:=x9 c;have g:=V8 c;have D:=A4 c.s;refine Tz.pK ⟨λt=>t==7,λ_=>[]⟩ func302 rfl (λQ y=>?_);try simp [go_sem,seval,Cond.A]
 repeat first|intro _|refine ⟨iD,?_⟩
 obtain ⟨w,m⟩:∃ w:Nat->eF->AHeap->Prop,∀ (i:Nat) (e:eF) (H:AHeap),w i e H↔((e 1=.adr c.c)/\(e 11=.list (c.s.map Cond.c))/\(e 12=dI c.s.length)/\(e 4=dI ((1+Cond.aa (c.s.take i):Nat):Int))/\(e 5=dI (Cond.aE (c.s.take i):Nat))/\(e 13=dI i)/\(i<=c.s.length)):=⟨λi e H=>_,λ_ _ _=>Iff.rfl⟩;refine FJ w (λi=>c.s.length - i) (0) ((m _ _ _).2 ⟨?_,?_,?_,?_,?_,?_,(by first|assumption|omega|(simp [go_sem,Cond.A];done)|(simp_all;done))⟩) ?_;iterate 6 (first|omega|(simp [go_sem,seval,Cond.A]<;>omega))
 intro i e H r;obtain ⟨p,l,k,d,b,j,I⟩:=(m _ _ _).1 r;have o:=xa2 p l k j;try simp [go_sem,seval,o]
 refine bC (λh=>?_) (λh=>?_)
 .try simp [go_sem] at h
  have C:=CJ (aC h);have F:=RI c.s[i];have q:=aE h;have s:=Hv (c.s.take i) c.s[i];have u:=LO (c.s.take i) c.s[i];have B:=Hu c.s (i+1);have x:Cond.aa (c.s.take (i+1))=Cond.aa (c.s.take i)+c.s[i].size:=by rw [q,s]
  have z:Cond.aE (c.s.take (i+1))=max (Cond.aE (c.s.take i)) c.s[i].bJ:=by rw [q,u]
  have E:=A4 (c.s.take i);try simp [go_sem,seval,Cond.A,o,h]
  repeat first|intro _|refine ⟨iD,?_⟩
  refine aB ((by have:=A _ (aC h) aD;rwa [Cond.A] at this)) ((by first|rfl|(simp [go_sem];done))) ?_;try simp [go_sem,seval,o,d,b]
  repeat first|intro _|refine ⟨iD,?_⟩
  refine mI (i+1) aD ((m _ _ _).2 ⟨?_,?_,?_,?_,?_,?_,(by first|assumption|omega|(simp [go_sem,Cond.A,o,d,b,h,x,z,Kg];done)|(simp_all<;>omega))⟩)<;>first|omega|(simp [go_sem,seval,Cond.A,o,x,z]<;>omega)
 .try simp [go_sem] at h
  have G:c.s.take i=c.s:=aG h;rw [G] at d b;try simp [go_sem,seval,Cond.A,o]
  refine bC (λn=>?_) (λn=>?_)
  .try simp [go_sem] at n
   try simp [go_sem,seval,d,b]
   repeat first|intro _|refine ⟨iD,?_⟩
   exact y _ _ (by first|(left;(simp [go_sem,f,g,n]);done)|(right;(simp [go_sem,f,g,n]);done))
  .try simp [go_sem] at n
   try simp [go_sem,seval,d,b]
   exact y _ _ (by first|(left;(simp [go_sem,f,g,n]);done)|(right;(simp [go_sem,f,g,n]);done))
def tT (c:Cond):Int:=if NJ c=false then 1 else if 12<c.size\/3<c.bJ then 3 else 0
theorem Gw (c:Cond)(e:c.ok)(d:c.size<=1000000):Pua 238 [.agg c.c] (dI (tT c)):=by
 refine Tz.p0 func238 rfl λQ b _=>?_;have Y:=@Cond.A;refine wo (h:=aB ((by have:=AK c e;rwa [Cond.A] at this)) wl ?_);refine d8 (λa=>?_) λa=>?_
 .exact wv (h:=b _ _ (by simp [go_sem,tT,a]))
 .refine wv (h:=aB ((by have:=DO c d;rwa [Cond.A] at this)) wl ?_);refine d8 (λf=>?_) λf=>?_
  .exact wv (h:=b _ _ (by simp [go_sem,tT,a];omega))
  .exact wv (h:=b _ _ (by simp [go_sem,tT,a];omega))
def oO (t:Types)(q:Pattern)(outer:Int):Int :=
 if cX t q≠9 then cX t q
 else if ((List.range q.vars.toNat).all λ(v:Nat)=>decide ((v:Int)<outer)||jW q v)=true then 0 else 9
theorem FN {t:Types}{q:Pattern}{a:Int}(h:cX t q=9)(c:0<=a)(b:∀ v:Int,a<=v->v<q.vars->jW q v=true):oO t q a=0:=by
 unfold oO;grind
theorem FP {t:Types}{q:Pattern}{a:Int}(h:cX t q=9)(f:0<=a){v:Int}(e:a<=v)(d:v<q.vars)(c:jW q v=false):oO t q a=9:=by
 unfold oO;rw [if_neg aD,if_neg];intro b;rw [c9] at b;have:=b v.toNat (by simp;omega);grind
theorem LL {f:Nat->Int}{m:Int}(h0:(0:Int)≠m)(h:∀ j,f j≠m):∀ n k,bU f k n≠m
 | 0,k=>h0
 | n+1,k=>by unfold bU;split;exact h k;exact LL h0 h n (k+1)
theorem Ch {f:Nat->Int}{nm:Nat->ByteArray}{last:ByteArray × Int}{m:Int}(h0:last.2≠m)(h:∀ j,f j≠m):∀ n k,(eY f nm last k n).2≠m
 | 0,k=>h0
 | n+1,k=>by unfold eY;split;exact h k;exact Ch h0 h n (k+1)
theorem Lp:∀ (r l:List ByteArray),n5 l r≠9
 | [],l=>by simp [n5]
 | s :: r,l=>by
  unfold n5;split
  .decide
  .split
   .decide
   .exact Lp r _
theorem T7 (l:List ByteArray):oN l≠9:=by grind [oN, Lp]
theorem Kv (x:Attr)(l:List Attr):dQ x l≠9:=by
 have:=T7 x.ad;unfold dQ;grind
theorem VA (t:Types)(i:Nat):iG t i≠9:=by
 unfold iG;split
 .decide
 .repeat' split
  all_goals first|decide|skip
  refine LL (by decide) (λj=>?_) _ _;split
  .exact Kv _ _
  .decide
theorem V5 (t:Types)(i:Nat):j8 t i≠9:=by grind [j8]
theorem KG (t:Types):(cW t).2≠9:=by
 unfold cW;split
 .decide
 .split
  .decide
  .exact Ch (Ch (by decide) (V5 t) _ _) (VA t) _ _
theorem Cm (s:Slot)(v:Int):Pua 343 [.agg s.c,.adr [dI v]] (.bool (decide (s.x.N=v))):=by
 refine Tz.p0 func343 rfl λQ a Y=>?_;exact wv (h:=a _ _ wy)
theorem ID (xs:List Slot)(g:FuncId)(b:UN)(p:Slot->Bool)(v:D.L b=true)(u:∀ x∈xs,Pure prog g (.agg x.c :: b) (.bool (p x))) :
  Pua 339 [.list (xs.map Slot.c),.fn g b] (dI (ED xs p)):=by
 refine aU (Tz.c0 func339 rfl ?_);simp [go_sem,seval,dI];intro n;refine fT (ι:=Nat) (λi e H=>H=.an/\i<=xs.length/\e 0=.list (xs.map Slot.c)/\e 1=.fn g b/\e 7=dI xs.length/\e 8=dI i/\(∀ j x,j<i->xs[j]?=some x->p x=false)) (λi=>xs.length - i) 0 (by simp [go_sem,seval,dI]) ?_;intro i e H ⟨w,y,r,q,o,m,l⟩;subst w;simp [go_sem,seval,o,m,dI];refine f9 (λd=>?_) (λt=>?_)
 .have hgx:=u xs[i] (aC d);simp [go_sem,seval,r,q,m,dI,d,Slot.c] at hgx ⊢;refine aB hgx (by simp [go_sem,v]) ?_;simp [go_sem,seval];refine bC (λh=>?_) (λh=>?_)
  .simp [go_sem,seval];rw [q6 l d h]
  .simp [go_sem,seval,r,q,o,m,dI];refine ⟨dL aD aD,i+1,aD,aD,aD,λj x s k=>?_⟩;rcases cH j i with hj'|hj'
   .exact l j x hj' k
   .have:j=i:=aD;subst this;rw [aA d] at k;cases k;exact h
 .simp [go_sem,seval];rw [q7 λj x s=>l j x aD]
theorem vQ (xs:List Slot)(g:FuncId)(a:UN)(p:Slot->Bool)(d:D.L a=true)(e:D.P (.list (xs.map Slot.c))=true)(f:∀ x∈xs,Pure prog g (.agg x.c :: a) (.bool (p x))) :
  Pua 298 [.list (xs.map Slot.c),.fn g a] (.bool (xs.any p)):=by
 refine aU (Tz.c0 func298 rfl ?_);simp [go_sem,seval];refine aB (ID xs g a p d f) (by simp only [D.L,e,gW];simp [D.P,d]) ?_;simp [go_sem,seval,dI,uA]
theorem kX {t : Types} {q : Pattern} (h : cX t q = 9 \/ cX t q = 0) : 0 <= q.vars /\ q.vars <= 12 := by
  have b := KG t;unfold cX at h;by_cases d : (cW t).2 = 0
  · rw [if_neg aD] at h
    by_cases c : graphF q.j = 0
    · rw [if_neg aD] at h
      split at h
      · omega
      · split at h
        · omega
        · rename_i h3; simp [inF] at h3; omega
    · rw [if_pos c] at h
      have h3 : graphF q.j ≠ 9 := by unfold graphF; repeat' split
                                     all_goals decide
      omega
  · grind
theorem DN (t:Types)(z:t.ok)(q:Pattern)(a:Int)(x:0<=a):Pua 303 [t.d,q.d,dI a] (dI (oO t q a)):=by
 refine Tz.pK ⟨λt=>t==8,λ_=>[]⟩ func303 rfl (λQ n=>?_);have Y:=trivial;refine wv (h:=aB (oI t z q) wl ?_);refine dK (λg=>?_) λg=>?_
 .exact wv (h:=n _ _ (by simp [go_sem,oO,g]))
 .have l:=kX (.inl g);refine wv (h:=aY (λv e H=>∃ i:Nat,(e 4=.adr q.c/\e 7=dI 9/\e 8=.ptr i 1 0 0)/\(H.get i=some ⟨3,1,[[dI (a+v)]],false⟩)/\(i<H.next)/\(∀ u:Int,a<=u->u<a+v->jW q u=true)) (λv=>(q.vars - a).toNat - v) 0 ⟨0,wg,wn,wn,(by intro u j l;omega)⟩ λC o v e H m=>?_);obtain ⟨i,B,f,b,w⟩:=m;have Y:=xa2 Y B f (bL b);refine dK (λr=>?_) λr=>?_
  .have hOv:(q.l.any λs=>decide (s.x.N=a+v))=jW q (a+v):=rfl;have Y:=xa1 Y r hOv;refine wo (h:=vS ((vQ q.l 343 [.adr [dI (a+v)]] (λs=>decide (s.x.N=a+v)) (by simp [go_sem]) (by simp [go_sem]) (λs _=>Cm s (a+v)))) wr wl rfl ?_);refine d8 (λp=>?_) λp=>?_
   .exact wv (h:=n _ _ (by rw [FP g x (v:=a+v) aD r (eQ p)];simp [go_sem]))
   .have ho':∀ u:Int,a<=u->u<a+((v+1:Nat):Int)->jW q u=true:=λu j l=>by
     by_cases A:u<a+v
     .exact w u j A
     .rw [(aD:u=a+v)];simpa using p
    exact wo (h:=wx o (v+1) ⟨H.next,wg,wn,wn,(ho')⟩)
  .exact wv (h:=n _ _ (by rw [FN g x λu j l=>w u j aD];simp [go_sem]))
def jY (t:Types)(p:Pattern)(m:Part)(q:Pattern):Int :=
 if q.vars<p.vars then 20
 else if oO t q p.vars≠0 then oO t q p.vars
 else if eD p.j q.j m≠0 then eD p.j q.j m
 else if Ca p.j q.j m=false then 1 else 0
mutual
def sC (t:Types):Pattern->Cond->Int
 | p,.mk k l m q=>if (if k=5 then jY t p m q else 0)≠0 then (if k=5 then jY t p m q else 0) else VR t (if k=5 then q else p) l
def VR (t:Types):Pattern->List Cond->Int
 | _,[]=>0
 | p,c :: l=>if sC t p c≠0 then sC t p c else VR t p l
end
theorem Xi (t:Types)(p:Pattern)(l:List Cond):VR t p l=gK (sC t p) l:=by
 induction l with
 | nil=>simp [VR,gK]
 | cons a l ih=>simp only [VR,gK,ih]
theorem GV (t:Types)(p:Pattern)(c:Cond):sC t p c=if (if c.E=5 then jY t p c.map c.o else 0)≠0 then (if c.E=5 then jY t p c.map c.o else 0) else gK (sC t (if c.E=5 then c.o else p)) c.s:=by
 cases c;simp only [sC,Xi];rfl
theorem FO {t:Types}{q:Pattern}{o:Int}(h:oO t q o=0):0<=q.vars/\q.vars<=12:=by
 unfold oO at h;split at h
 .exact kX (.inr h)
 .rename_i h1;exact kX (t:=t) (.inl aD)
theorem EQ (t:Types)(M:t.ok):∀ (c:Cond) (p:Pattern),0<=p.vars->p.vars<=12->Pua 239 [t.d,p.d,.agg c.c] (dI (sC t p c)):=by
 refine kS λc G p y E=>?_;have j:=GV t p c;refine Tz.pK ⟨λt=>t==4||t==7||t==11,λ_=>[]⟩ func239 rfl (λQ l=>?_);have Y:=@Cond.A;refine dK (λB=>?_) λB=>?_
 .rw [if_pos B,if_pos B] at j;refine dK (λJ=>?_) λJ=>?_
  .exact wv (h:=l _ _ (by simp [go_sem,j,jY,J]))
  .refine wv (h:=aB (DN t M c.o p.vars y) wl ?_);refine dK (λv=>?_) λv=>?_
   .exact wv (h:=l _ _ (by simp [go_sem,j,jY,v];omega))
   .refine wv (h:=aB (p5 p.j c.o.j c.map) wl ?_);refine dK (λA=>?_) λA=>?_
    .exact wv (h:=l _ _ (by simp [go_sem,j,jY,v,A];omega))
    .have hm:=kZ A;have O:=bR hm.1;refine wv (h:=?_);repeat first|intro _|refine ⟨iD,?_⟩
     refine aB (tY p.j c.o.j c.map aD aD) wl ?_;refine wv (h:=?_);repeat first|intro _|refine ⟨iD,?_⟩
     refine wq (λu=>?_) λu=>?_
     .exact wv (h:=l _ _ (by simp [go_sem,j,jY,v,A,u];omega))
     .have hE0:jY t p c.map c.o=0:=by simp [jY,v,A,u];omega
      rw [hE0,if_neg aD] at j;obtain ⟨w,g⟩:=fD (c.o);have I:=FO v;have n:0<=w.vars:=by rw [g];exact I.1
      have m:w.vars<=12:=by rw [g];exact I.2
      have r:sC t p c=gK (sC t w) c.s:=by rw [j,g]
      refine wv (h:=?_);repeat first|intro _|refine ⟨iD,?_⟩
      refine aY (λi e H=>(e 3=.adr t.c/\e 5=.adr c.c/\e 51=.list (c.s.map Cond.c)/\e 52=dI c.s.length/\e 4=.ptr 0 1 0 0/\e 53=dI i)/\(H.get 0=some ⟨55,5,[w.c],false⟩)/\(0<H.next)/\(i<=c.s.length)/\(gK (sC t w) (c.s.drop i)=sC t p c)) (λi=>c.s.length - i) 0 ⟨wg,(by simp [go_sem,g]),wn,wi,(r.symm)⟩ λP q i e H o=>?_;obtain ⟨F,f,b,N,z⟩:=o;have Y:=xa2 Y F f (bL b);refine dK (λa=>?_) λa=>?_
      .have hst:=z;rw [lC _ a] at hst;have Y:=wa Y a;refine wv (h:=?_);repeat first|intro _|refine ⟨iD,?_⟩
       refine aB ((by have:=G _ (aC a) w n m;rwa [Cond.A] at this)) wl ?_;refine wv (h:=?_);repeat first|intro _|refine ⟨iD,?_⟩
       refine wq (λs=>?_) λs=>?_
       .rw [if_pos aD] at hst;exact wv (h:=l _ _ (by simp [go_sem,hst]))
       .rw [if_neg aD] at hst;refine wv (h:=?_);repeat first|intro _|refine ⟨iD,?_⟩
        exact wx q (i+1) ⟨wg,(by simp [go_sem,Y]),wn,wj,(hst)⟩
      .exact wv (h:=l _ _ (by rw [<- z,mK _ aD];simp [go_sem]))
 .rw [if_neg B,if_neg aD,if_neg B] at j;obtain ⟨w,g⟩:=fD (p);have n:0<=w.vars:=by rw [g];exact y
  have m:w.vars<=12:=by rw [g];exact E
  have r:sC t p c=gK (sC t w) c.s:=by rw [j,g]
  refine wv (h:=?_);repeat first|intro _|refine ⟨iD,?_⟩
  refine aY (λi e H=>(e 3=.adr t.c/\e 5=.adr c.c/\e 51=.list (c.s.map Cond.c)/\e 52=dI c.s.length/\e 4=.ptr 0 1 0 0/\e 53=dI i)/\(H.get 0=some ⟨55,5,[w.c],false⟩)/\(0<H.next)/\(i<=c.s.length)/\(gK (sC t w) (c.s.drop i)=sC t p c)) (λi=>c.s.length - i) 0 ⟨wg,(by simp [go_sem,g]),wn,wi,(r.symm)⟩ λP q i e H o=>?_;obtain ⟨F,f,b,N,z⟩:=o;have Y:=xa2 Y F f (bL b);refine dK (λa=>?_) λa=>?_
  .have hst:=z;rw [lC _ a] at hst;have Y:=wa Y a;refine wv (h:=?_);repeat first|intro _|refine ⟨iD,?_⟩
   refine aB ((by have:=G _ (aC a) w n m;rwa [Cond.A] at this)) wl ?_;refine wv (h:=?_);repeat first|intro _|refine ⟨iD,?_⟩
   refine wq (λs=>?_) λs=>?_
   .rw [if_pos aD] at hst;exact wv (h:=l _ _ (by simp [go_sem,hst]))
   .rw [if_neg aD] at hst;refine wv (h:=?_);repeat first|intro _|refine ⟨iD,?_⟩
    exact wx q (i+1) ⟨wg,(by simp [go_sem,Y]),wn,wj,(hst)⟩
  .exact wv (h:=l _ _ (by rw [<- z,mK _ aD];simp [go_sem]))
def condF (t:Types)(p:Pattern)(c:Cond):Int :=
 if cX t p≠0 then cX t p else if tT c≠0 then tT c else sC t p c
theorem zG (t:Types)(f:t.ok)(p:Pattern)(c:Cond)(i:c.ok)(g:c.size<=1000000):Pua 155 [t.d,p.d,.agg c.c] (dI (condF t p c)):=by
 refine Tz.p0 func155 rfl λQ b _=>?_;have Y:=@Cond.A;refine wv (h:=aB (oI t f p) wl ?_);refine dK (λa=>?_) λa=>?_
 .have Y:=xa1 Y a @condF.eq_1;exact wv (h:=b _ _ wy)
 .have hv:=kX (.inr a);refine wv (h:=aB ((by have:=Gw c i g;rwa [Cond.A] at this)) wl ?_);refine dK (λe=>?_) λe=>?_
  .have Y:=xa2 Y a e @condF.eq_1;exact wv (h:=b _ _ wy)
  .refine wv (h:=aB ((by have:=EQ t f c p hv.1 hv.2;rwa [Cond.A] at this)) wl ?_);have Y:=xa2 Y a e @condF.eq_1;exact wv (h:=b _ _ wy)
theorem y8 (a b:Graph)(m:Part):Pua 26 [a.d,b.d,m.d] (.bool (Ca a b m)):=by
 refine Tz.p0 func26 rfl λQ e Y=>?_;refine wo (h:=aB (r8 a b m) wl ?_);refine wo (h:=aK (λc=>pP m.h) (λc=>wl) ?_);refine wo (h:=aK (λc=>pP m.i) (λc=>wl) ?_);exact wo (h:=e _ _ (by simp [go_sem,Ca,qI]))
theorem MC (c:Cond)(a:c.bD):Pua 319 [.agg c.c] (.bool (bareB c)):=by
 obtain ⟨j,i,g,f,e,d⟩:=a;refine Tz.p0 func319 rfl λQ b _=>?_;have Y:=@Cond.A;exact wo (h:=b _ _ (by simp [go_sem,bareB];rw [aS];simp;omega))
theorem OB (c:Cond)(m:c.bD):Pua 261 [.agg c.c] (.bool (sX c)):=by
 have a:∀ e:Int,e=c.E->Pua 319 [.agg [dI e,.list (c.s.map Cond.c),dLI c.map.h,dLI c.map.i,dLI c.o.j.h,.list (c.o.j.i.map Edge.c),.list (c.o.l.map Slot.c),dI c.o.vars,.list (c.o.G.map Test.c)]] (.bool (bareB c)):=by
  intro e f;have:=MC c m;rwa [Cond.A,<- f] at this
 refine Tz.p0 func261 rfl λQ d _=>?_;have Y:=@Cond.A;refine dK (λl=>?_) λl=>?_
 .have Y:=wa Y l;refine wo (h:=aK (λb=>(a _ aD)) (λb=>wl) ?_);exact wo (h:=d _ _ (by simp [go_sem,sX,Y]))
 .have Y:=wa Y l;refine dK (λk=>?_) λk=>?_
  .have Y:=wa Y k;refine wo (h:=aK (λb=>(a _ aD)) (λb=>wl) ?_);exact wo (h:=d _ _ (by simp [go_sem,sX,Y]))
  .have Y:=wa Y k;refine dK (λj=>?_) λj=>?_
   .have Y:=wa Y j;refine wo (h:=aK (λb=>(a _ aD)) (λb=>wl) ?_);exact wo (h:=d _ _ (by simp [go_sem,sX,Y];rw [aS];simp;omega))
   .have Y:=wa Y j;refine dK (λi=>?_) λi=>?_
    .have Y:=wa Y i;refine wo (h:=aK (λb=>(a _ aD)) (λb=>wl) ?_);exact wo (h:=d _ _ (by simp [go_sem,sX,Y];rw [aS];simp;omega))
    .have Y:=wa Y i;refine dK (λg=>?_) λg=>?_
     .have Y:=wa Y g;exact wo (h:=d _ _ (by simp [go_sem,sX,Y];rw [aS];simp))
     .have Y:=wa Y g;exact wv (h:=d _ _ (by simp [go_sem,sX,Y]))
theorem HQ:∀ c:Cond,c.ok->Pua 183 [.agg c.c] (.bool (NJ c)):=by
 refine kS λc p s=>?_;obtain ⟨q,r⟩:=(sI c).1 s;have g:=vX c;refine Tz.p0 func183 rfl λQ j _=>?_;have Y:=@Cond.A;refine wo (h:=aB ((by have:=OB c q;rwa [Cond.A] at this)) wl ?_);refine d8 (λd=>?_) λd=>?_
 .exact wv (h:=j _ _ (.inl (by simp [go_sem,g,d])))
 .refine wv (h:=aY (λi e H=>(e 1=.adr c.c/\e 3=dI i)/\(i<=c.s.length)/\(((c.s.take i).any λk=>!NJ k)=false)) (λi=>c.s.length - i) 0 ⟨wg,wi,(by rfl)⟩ λv l i e H f=>?_);obtain ⟨t,u,o⟩:=f;have Y:=wa Y t;refine wv (h:=?_);repeat first|intro _|refine ⟨iD,?_⟩
  refine wq (λb=>?_) λb=>?_
  .have Y:=wa Y b;refine wo (h:=aB ((by have:=p _ (aC b) (r _ (aC b));rwa [Cond.A] at this)) wl ?_);refine d8 (λm=>?_) λm=>?_
   .refine wv (h:=?_);have a:c.s.all NJ=false:=by rw [bQ];intro h;rw [c9] at h;have:=h _ (aC b);rw [m] at this;cases this
    exact j _ _ (.inl (by simp only [go_sem,g,d,a,Bool.and_false]))
   .exact wo (h:=wx l (i+1) ⟨wg,wj,(by rw [dU _ _ _ b,o];simp [m])⟩)
  .refine wv (h:=?_);have n:=oJ o b;have a:c.s.all NJ=true:=by simp at n ⊢;exact n
   exact j _ _ (.inl (by simp only [go_sem,g,d,a,Bool.and_true]))
theorem J6:∀ c:Cond,c.size<=1000000->Pua 184 [.agg c.c] (.tup [dI c.size,dI c.bJ]):=by
 refine kS λc x F=>?_;have f:=x9 c;have g:=V8 c;have A:=A4 c.s;refine Tz.p0 func184 rfl λQ v _=>?_;try simp [go_sem,seval,Cond.A]
 obtain ⟨t,j⟩:∃ t:Nat->eF->AHeap->Prop,∀ (i:Nat) (e:eF) (H:AHeap),t i e H↔((e 1=.adr c.c)/\(e 4=dI ((1+Cond.aa (c.s.take i):Nat):Int))/\(e 5=dI (Cond.aE (c.s.take i):Nat))/\(e 6=dI i)/\(i<=c.s.length)):=⟨λi e H=>_,λ_ _ _=>Iff.rfl⟩;refine FJ t (λi=>c.s.length - i) (0) ((j _ _ _).2 ⟨?_,?_,?_,?_,(by first|assumption|omega|(simp [go_sem,Cond.A];done)|(simp_all;done))⟩) ?_;iterate 4 (first|omega|(simp [go_sem,seval,Cond.A]<;>omega))
 intro i e H p;obtain ⟨n,d,b,m,E⟩:=(j _ _ _).1 p;have l:=xa0 n m;try simp [go_sem,seval,Cond.A,l]
 repeat first|intro _|refine ⟨iD,?_⟩
 refine bC (λh=>?_) (λh=>?_)
 .try simp [go_sem] at h
  have z:=CJ (aC h);have C:=RI c.s[i];have o:=aE h;have q:=Hv (c.s.take i) c.s[i];have r:=LO (c.s.take i) c.s[i];have y:=Hu c.s (i+1);have u:Cond.aa (c.s.take (i+1))=Cond.aa (c.s.take i)+c.s[i].size:=by rw [o,q]
  have w:Cond.aE (c.s.take (i+1))=max (Cond.aE (c.s.take i)) c.s[i].bJ:=by rw [o,r]
  have B:=A4 (c.s.take i);try simp [go_sem,seval,Cond.A,l,h]
  repeat first|intro _|refine ⟨iD,?_⟩
  refine aB ((by have:=x _ (aC h) aD;rwa [Cond.A] at this)) ((by first|rfl|(simp [go_sem];done))) ?_;try simp [go_sem,seval,l,d,b]
  repeat first|intro _|refine ⟨iD,?_⟩
  refine mI (i+1) aD ((j _ _ _).2 ⟨?_,?_,?_,?_,(by first|assumption|omega|(simp [go_sem,Cond.A,l,d,b,h,u,w,Kg];done)|(simp_all<;>omega))⟩)<;>first|omega|(simp [go_sem,seval,Cond.A,l,u,w]<;>omega)
 .try simp [go_sem] at h
  have D:c.s.take i=c.s:=aG h;rw [D] at d b;try simp [go_sem,seval,Cond.A,l]
  refine bC (λk=>?_) (λk=>?_)
  .try simp [go_sem] at k
   try simp [go_sem,seval,d,b]
   repeat first|intro _|refine ⟨iD,?_⟩
   exact v _ _ (by first|(left;(simp [go_sem,f,g,k]);done)|(right;(simp [go_sem,f,g,k]);done))
  .try simp [go_sem] at k
   try simp [go_sem,seval,d,b]
   exact v _ _ (by first|(left;(simp [go_sem,f,g,k]);done)|(right;(simp [go_sem,f,g,k]);done))
theorem OE (c:Cond)(e:c.ok)(d:c.size<=1000000):Pua 130 [.agg c.c] (dI (tT c)):=by
 refine Tz.p0 func130 rfl λQ b _=>?_;have Y:=@Cond.A;refine wo (h:=aB ((by have:=HQ c e;rwa [Cond.A] at this)) wl ?_);refine d8 (λa=>?_) λa=>?_
 .exact wv (h:=b _ _ (by simp [go_sem,tT,a]))
 .refine wv (h:=aB ((by have:=J6 c d;rwa [Cond.A] at this)) wl ?_);refine d8 (λf=>?_) λf=>?_
  .exact wv (h:=b _ _ (by simp [go_sem,tT,a];omega))
  .exact wv (h:=b _ _ (by simp [go_sem,tT,a];omega))
theorem MD (p:Pattern)(v:Int):Pua 262 [p.d,dI v] (.bool (jW p v)):=by
 refine Tz.p0 func262 rfl λQ l Y=>?_;refine wv (h:=aY (λi e H=>(e 2=.adr p.c/\e 1=dI v/\e 5=dI i)/\(i<=p.l.length)/\(((p.l.take i).any λs=>decide (s.x.N=v))=false)) (λi=>p.l.length - i) 0 ⟨wg,wi,(by rfl)⟩ λo g i e H b=>?_);obtain ⟨m,n,k⟩:=b;have Y:=wa Y m;refine wv (h:=?_);repeat first|intro _|refine ⟨iD,?_⟩
 refine wq (λa=>?_) λa=>?_
 .have Y:=wa Y a;refine d8 (λj=>?_) λj=>?_
  .refine wv (h:=?_);have f:jW p v=true:=bD.2 ⟨_,aC a,by simpa using j⟩;exact l _ _ (.inl (by simp only [go_sem,f]))
  .exact wo (h:=wx g (i+1) ⟨wg,wj,(by rw [dU _ _ _ a,k];simpa using j)⟩)
 .refine wv (h:=?_);have f:jW p v=false:=oJ k a;exact l _ _ (.inl (by simp only [go_sem,f]))
def vJ (t:Types)(o:Int)(q:Pattern):Int:=if q.vars<o then 20 else oO t q o
theorem OC (t:Types)(x:t.ok)(o:Int)(r:0<=o)(q:Pattern):Pua 185 [t.d,dI o,q.d] (dI (vJ t o q)):=by
 refine Tz.p0 func185 rfl λQ f Y=>?_;refine dK (λp=>?_) λp=>?_
 .exact wv (h:=f _ _ (by simp [go_sem,vJ,p]))
 .refine wv (h:=aB (u3 t x q) wl ?_);refine dK (λa=>?_) λa=>?_
  .exact wv (h:=f _ _ (by simp [go_sem,vJ,oO,a];omega))
  .have g:=kX (.inl a);have n:vJ t o q=oO t q o:=by unfold vJ;rw [if_neg aD]
   refine wv (h:=aY (λv e H=>(e 5=.adr q.c/\e 7=dI 9/\e 8=dI (o+v))/\(∀ u:Int,o<=u->u<o+v->jW q u=true)) (λv=>(q.vars - o).toNat - v) 0 ⟨wg,(by intro u b g;omega)⟩ λA j v e H i=>?_);obtain ⟨z,m⟩:=i;have Y:=wa Y z;refine dK (λl=>?_) λl=>?_
   .have Y:=wa Y l;refine wo (h:=aB (MD q _) wl ?_);refine d8 (λk=>?_) λk=>?_
    .exact wv (h:=f _ _ (by rw [n,FP a r (v:=o+v) aD l (eQ k)];simp [go_sem]))
    .have ho':∀ u:Int,o<=u->u<o+((v+1:Nat):Int)->jW q u=true:=λu b g=>by
      by_cases y:u<o+v
      .exact m u b y
      .rw [(aD:u=o+v)];simpa using k
     exact wo (h:=wx j (v+1) ⟨wg,(ho')⟩)
   .exact wv (h:=f _ _ (by rw [n,FN a r λu b g=>m u b aD];simp [go_sem]))
theorem Q0 (t:Types)(G:t.ok):∀ (c:Cond) (p:Pattern),0<=p.vars->p.vars<=12->Pua 131 [t.d,p.d,.agg c.c] (dI (sC t p c)):=by
 refine kS λc D p u A=>?_;have j:=GV t p c;refine Tz.pK ⟨λt=>t==7,λ_=>[]⟩ func131 rfl (λQ n=>?_);have Y:=@Cond.A;refine dK (λx=>?_) λx=>?_
 .rw [if_pos x,if_pos x] at j;refine wv (h:=aB (OC t G p.vars u c.o) wl ?_);refine dK (λr=>?_) λr=>?_
  .have hE:jY t p c.map c.o=vJ t p.vars c.o:=by
    unfold jY;unfold vJ at r ⊢;split
    .rfl
    .rename_i h';rw [if_neg h'] at r;rw [if_pos r]
   exact wv (h:=n _ _ (by rw [j,hE,if_pos aD];simp [go_sem]))
  .have hv0:¬ c.o.vars<p.vars/\oO t c.o p.vars=0:=by
    unfold vJ at r;split at r
    .omega
    .exact ⟨by assumption,r⟩
   have F:=hv0.1;have z:=hv0.2;refine wv (h:=aB (r8 p.j c.o.j c.map) wl ?_);refine dK (λy=>?_) λy=>?_
   .exact wv (h:=n _ _ (by simp [go_sem,j,jY,z,y];omega))
   .refine wo (h:=aB (y8 p.j c.o.j c.map) wl ?_);refine d8 (λB=>?_) λB=>?_
    .exact wv (h:=n _ _ (by simp [go_sem,j,jY,z,y,B];omega))
    .have hE0:jY t p c.map c.o=0:=by simp [jY,z,y,B];omega
     rw [hE0,if_neg aD] at j;obtain ⟨w,g⟩:=fD (c.o);have E:=FO z;have l:0<=w.vars:=by rw [g];exact E.1
     have k:w.vars<=12:=by rw [g];exact E.2
     have q:sC t p c=gK (sC t w) c.s:=by rw [j,g]
     refine wv (h:=aY (λi e H=>(e 3=.adr t.c/\e 5=.adr c.c/\e 7=.ptr 0 1 0 0/\e 10=dI i)/\(H.get 0=some ⟨55,5,[w.c],false⟩)/\(0<H.next)/\(i<=c.s.length)/\(gK (sC t w) (c.s.drop i)=sC t p c)) (λi=>c.s.length - i) 0 ⟨wg,(by simp [go_sem,g]),wn,wi,(by exact q.symm)⟩ λJ o i e H m=>?_);obtain ⟨C,f,b,I,v⟩:=m;have Y:=xa2 Y C f (bL b);refine wv (h:=?_);repeat first|intro _|refine ⟨iD,?_⟩
     refine wq (λa=>?_) λa=>?_
     .have hst:=v;rw [lC _ a] at hst;have Y:=wa Y a;refine wo (h:=aI ((by have:=D _ (aC a) w l k;rwa [Cond.A] at this)) wl ?_);refine d8 (λs=>?_) λs=>?_
      .rw [if_pos aD] at hst;exact wv (h:=n _ _ (by simp [go_sem,hst]))
      .rw [if_neg aD] at hst;exact wo (h:=wx o (i+1) ⟨wg,(by simp [go_sem,Y]),wn,wj,(by exact hst)⟩)
     .exact wv (h:=n _ _ (by rw [<- v,mK _ aD];simp [go_sem]))
 .rw [if_neg x,if_neg aD,if_neg x] at j;obtain ⟨w,g⟩:=fD (p);have l:0<=w.vars:=by rw [g];exact u
  have k:w.vars<=12:=by rw [g];exact A
  have q:sC t p c=gK (sC t w) c.s:=by rw [j,g]
  refine wv (h:=aY (λi e H=>(e 3=.adr t.c/\e 5=.adr c.c/\e 7=.ptr 0 1 0 0/\e 10=dI i)/\(H.get 0=some ⟨55,5,[w.c],false⟩)/\(0<H.next)/\(i<=c.s.length)/\(gK (sC t w) (c.s.drop i)=sC t p c)) (λi=>c.s.length - i) 0 ⟨wg,(by simp [go_sem,g]),wn,wi,(by exact q.symm)⟩ λJ o i e H m=>?_);obtain ⟨C,f,b,I,v⟩:=m;have Y:=xa2 Y C f (bL b);refine wv (h:=?_);repeat first|intro _|refine ⟨iD,?_⟩
  refine wq (λa=>?_) λa=>?_
  .have hst:=v;rw [lC _ a] at hst;have Y:=wa Y a;refine wo (h:=aI ((by have:=D _ (aC a) w l k;rwa [Cond.A] at this)) wl ?_);refine d8 (λs=>?_) λs=>?_
   .rw [if_pos aD] at hst;exact wv (h:=n _ _ (by simp [go_sem,hst]))
   .rw [if_neg aD] at hst;exact wo (h:=wx o (i+1) ⟨wg,(by simp [go_sem,Y]),wn,wj,(by exact hst)⟩)
  .exact wv (h:=n _ _ (by rw [<- v,mK _ aD];simp [go_sem]))
theorem Ft (t:Types)(f:t.ok)(p:Pattern)(c:Cond)(i:c.ok)(g:c.size<=1000000):Pua 86 [t.d,p.d,.agg c.c] (dI (condF t p c)):=by
 refine Tz.p0 func86 rfl λQ b _=>?_;have Y:=@Cond.A;refine wv (h:=aB (u3 t f p) wl ?_);refine dK (λa=>?_) λa=>?_
 .have Y:=xa1 Y a @condF.eq_1;exact wv (h:=b _ _ wy)
 .have hv:=kX (.inr a);refine wv (h:=aB ((by have:=OE c i g;rwa [Cond.A] at this)) wl ?_);refine dK (λe=>?_) λe=>?_
  .have Y:=xa2 Y a e @condF.eq_1;exact wv (h:=b _ _ wy)
  .refine wv (h:=aB ((by have:=Q0 t f c p hv.1 hv.2;rwa [Cond.A] at this)) wl ?_);have Y:=xa2 Y a e @condF.eq_1;exact wv (h:=b _ _ wy)
theorem sY (a:Int):Pua 255 [dI a] (.bool false):=by
 refine Tz.p0 func255 rfl λQ b Y=>?_;exact wv (h:=b _ _ wy)
theorem A6 (a:Int):Pua 291 [dI a] (.bool false):=by
 refine Tz.p0 func291 rfl λQ b Y=>?_;exact wv (h:=b _ _ wy)
theorem Wc (a b:Int):Pua 217 [dI a,dI b] (.bool (decide (a<b))):=by
 refine Tz.p0 func217 rfl λQ d Y=>?_;refine wo (h:=aB (A6 a) wl ?_);refine wo (h:=aK (λc=>A6 b) (λc=>wl) ?_);exact wo (h:=d _ _ wy)
def pT (l:W3)(v:Int):Nat:=(l.takeWhile λy=>decide (y<v)).length
theorem So {l:W3}{v:Int}{n:Nat}(h1:∀ j (hj:j<l.length),j<n->l[j]<v)(h2:n<=l.length)(h3:∀ hn:n<l.length,¬ l[n]<v):pT l v=n :=
 vZ _ l n (λj x hj hx=>by
  obtain ⟨hjl,rfl⟩:=aP.1 hx;simpa using h1 j hjl hj) h2 λx hx=>by
  obtain ⟨hjl,rfl⟩:=aP.1 hx;simpa using h3 hjl
theorem ab8 (a b:Nat):((a:Int)+(b:Int)).fdiv 2=(((a+b) / 2:Nat):Int):=by grind
theorem vT (l:W3)(v:Int)(F:l.Pairwise (· < ·))(O:l.length<=1000000):Pua 168 [dLI l,dI v] (.tup [dI (pT l v),.bool (mem l v)]):=by
 have n:=dD.1 F;refine Tz.p0 func168 rfl λQ E _=>?_;have Y:=@ab8;refine wo (h:=aY (λm e H=>∃ i:Nat,∃ j:Nat,(e 0=dLI l/\e 1=dI v/\e 6=dI l.length/\e 7=dI i/\e 8=dI j)/\(i<=j)/\(j<=l.length)/\(j - i<=m)/\(∀ a (h:a<l.length),a<i->l[a]<v)/\(∀ a (h:a<l.length),j<=a->¬ l[a]<v)) (λm=>m) l.length ⟨0,l.length,wg,aD,aD,aD,(by intro a h k;omega),(by intro a h k;omega)⟩ λR s m e H x=>?_);obtain ⟨i,j,M,P,I,G,A,z⟩:=x;have Y:=wa Y M;refine dK (λt=>?_) λt=>?_
 .have hk:(i+j) / 2<l.length:=aD;have u:(((i:Int)+(j:Int)) / 2).toNat=(i+j) / 2:=aD;have N:=SD (aD:0<=(i:Int)+(j:Int)) (aD:(i:Int)+(j:Int)<=18446744073709551615);have Y:=xa2 Y t u (aA hk);refine wo (h:=aB (Wc _ _) wl ?_);refine d8 (λh5=>?_) λh5=>?_
  .obtain ⟨g,y⟩:∃ g:Nat,g=(i+j) / 2+1:=⟨_,rfl⟩;obtain ⟨f,w⟩:∃ f:Nat,f=j:=⟨_,rfl⟩;have r:∀ a (h:a<l.length),a<g->l[a]<v:=λa h k=>by
    rcases cH a ((i+j) / 2) with h1|h1
    .have:=n a _ h hk h1;omega
    .have:a=(i+j) / 2:=aD;subst this;exact h5
   have q:∀ a (h:a<l.length),f<=a->¬ l[a]<v:=λa h k=>z a h aD;exact wo (h:=wx s (m - 1) ⟨g,f,wg,aD,aD,aD,(r),(q)⟩)
  .obtain ⟨g,y⟩:∃ g:Nat,g=i:=⟨_,rfl⟩;obtain ⟨f,w⟩:∃ f:Nat,f=(i+j) / 2:=⟨_,rfl⟩;have r:∀ a (h:a<l.length),a<g->l[a]<v:=λa h k=>A a h aD;have q:∀ a (h:a<l.length),f<=a->¬ l[a]<v:=λa h k=>by
    rcases cH ((i+j) / 2) a with h1|h1
    .have:=n _ a hk h h1;omega
    .have:a=(i+j) / 2:=aD;subst this;omega
   exact wv (h:=wx s (m - 1) ⟨g,f,wg,aD,aD,aD,(r),(q)⟩)
 .have hij:j=i:=aD;have C:pT l v=i:=So (λa h k=>A a h k) aD (λh=>z i h aD);have D:mem l v=(decide (i<l.length)&&(l[i]?.getD 0==v)):=by
   rw [aS,mem_iff];constructor
   .intro h;obtain ⟨a,h1,K⟩:=aQ h;have t:i<=a:=Nat.le_of_not_lt λk=>by have:=A a h1 k;omega
    have J:a=i:=by
     rcases Nat.eq_or_lt_of_le t with h5|h5
     .exact h5.symm
     .have:=n i a aD h1 h5;exact absurd aD (z i aD aD)
    subst J;simp [h1,K]
   .intro h;simp only [aN,decide_eq_true_eq,beq_iff_eq] at h;rw [aA h.1,Option.getD_some] at h;rw [<- h.2];exact aC h.1
  by_cases o:i<l.length
  .have Y:=xa1 Y (aA o) o;refine wo (h:=aK (λp=>sY _) (λp=>wl) ?_);refine wo (h:=aK (λp=>sY _) (λp=>wl) ?_);exact wo (h:=E _ _ (by rw [C,D];simp [go_sem,Y];rw [aS];simp))
  .have Y:=wa Y o;refine wo (h:=aK (λp=>sY _) (λp=>wl) ?_);refine wo (h:=aK (λp=>sY _) (λp=>wl) ?_);exact wo (h:=E _ _ (by rw [C,D];simp [go_sem,Y]))
theorem CC (l:W3)(v:Int)(a:l.Pairwise (· < ·))(b:l.length<=1000000):Pua 353 [dLI l,dI v] (.bool (mem l v)):=by
 refine Tz.p0 func353 rfl λQ c Y=>?_;refine wv (h:=aB (vT l v a b) wl ?_);exact wv (h:=c _ _ wy)
def AI (g:Graph)(p:Part)(k:Int):Int:=if (mem p.h (g.i[k.toNat]?.getD b8).w&&mem p.h (g.i[k.toNat]?.getD b8).M)=true then 0 else 14
def sB (g:Graph)(p:Part):Int :=
 if EX p.h g.h.length≠0 then EX p.h g.h.length
 else if EX p.i g.i.length≠0 then EX p.i g.i.length
 else gK (AI g p) p.i
def subF (g:Graph)(p:Part):Int:=if graphF g≠0 then graphF g else sB g p
theorem JN (g:Graph)(p:Part)(s:p.h.length<=1000000):Pua 312 [g.d,p.d] (dI (sB g p)):=by
 refine Tz.p0 func312 rfl λQ j Y=>?_;refine wv (h:=?_);repeat first|intro _|refine ⟨iD,?_⟩
 refine aB (Bp p.h _) wl ?_;refine wv (h:=?_);repeat first|intro _|refine ⟨iD,?_⟩
 refine wq (λf=>?_) λf=>?_
 .exact wv (h:=j _ _ (by simp [go_sem,sB,f]))
 .refine wv (h:=?_);repeat first|intro _|refine ⟨iD,?_⟩
  refine aB (Bp p.i _) wl ?_;refine wv (h:=?_);repeat first|intro _|refine ⟨iD,?_⟩
  refine wq (λm=>?_) λm=>?_
  .exact wv (h:=j _ _ (by simp [go_sem,sB,f,m]))
  .have hP:sB g p=gK (AI g p) p.i:=by unfold sB;rw [if_neg (by simp [f]),if_neg (by simp [m])]
   have r:=(Cu f).2;have n:=(Cu m).1;refine wv (h:=?_);repeat first|intro _|refine ⟨iD,?_⟩
   refine aY (λi e H=>(e 2=.adr g.c/\e 3=.adr p.c/\e 28=dLI p.i/\e 29=dI p.i.length/\e 30=dI i)/\(i<=p.i.length)/\(gK (AI g p) (p.i.drop i)=sB g p)) (λi=>p.i.length - i) 0 ⟨wg,wi,(hP.symm)⟩ λC q i e H o=>?_;obtain ⟨y,B,v⟩:=o;have Y:=wa Y y;refine dK (λl=>?_) λl=>?_
   .have hst:=v;rw [lC _ l] at hst;have u:=n _ (aC l);have t:p.i[i].toNat<g.i.length:=aD;have k:AI g p p.i[i]=if (mem p.h g.i[p.i[i].toNat].w&&mem p.h g.i[p.i[i].toNat].M)=true then 0 else 14:=by simp only [AI,aA t,Option.getD_some]
    have Y:=xa1 Y l (aA t);refine wv (h:=?_);repeat first|intro _|refine ⟨iD,?_⟩
    refine aI (CC p.h _ r s) wl ?_;refine wv (h:=?_);repeat first|intro _|refine ⟨iD,?_⟩
    refine dO (λx=>CC p.h _ r s) (λx=>wl) ?_;refine wv (h:=?_);repeat first|intro _|refine ⟨iD,?_⟩
    refine wq (λb=>?_) λb=>?_
    .rw [if_neg (by rcases b with h|h<;>simp [h])] at k;rw [k,if_pos aD] at hst;exact wv (h:=j _ _ (by simp [go_sem,<- hst]))
    .rw [if_pos (by simp [b])] at k;rw [k,if_neg aD] at hst;refine wv (h:=?_);repeat first|intro _|refine ⟨iD,?_⟩
     exact wx q (i+1) ⟨wg,wj,(hst)⟩
   .exact wv (h:=j _ _ (by rw [<- v,mK _ aD];simp [go_sem]))
theorem z7 (g:Graph)(p:Part)(c:p.h.length<=1000000):Pua 250 [g.d,p.d] (dI (subF g p)):=by
 refine Tz.p0 func250 rfl λQ b Y=>?_;refine wv (h:=aB (nD g) wl ?_);refine dK (λa=>?_) λa=>?_
 .have Y:=xa1 Y a @subF.eq_1;exact wv (h:=b _ _ wy)
 .refine wv (h:=aB (JN g p c) wl ?_);have Y:=xa1 Y a @subF.eq_1;exact wv (h:=b _ _ wy)
theorem OP (g:Graph)(p:Part):Pua 123 [g.d,p.d] (dI (sB g p)):=by
 refine Tz.pK ⟨λt=>t==8,λr=>match r with|10=>[(0,9),(1,9),(2,9),(3,9),(5,9),(6,9),(7,9),(8,9)]|_=>[]⟩ func123 rfl (λQ b=>?_);have Y:=trivial;refine wo (h:=aB (y7 p.h _) wl ?_);refine wv (h:=?_);repeat first|intro _|refine ⟨q,?_⟩
 refine wq (λl=>?_) λl=>?_
 .exact wv (h:=b _ _ (by simp [go_sem,sB,l]))
 .refine wo (h:=aB (y7 p.i _) wl ?_);refine wv (h:=?_);repeat first|intro _|refine ⟨q,?_⟩
  refine wq (λk=>?_) λk=>?_
  .exact wv (h:=b _ _ (by simp [go_sem,sB,l,k]))
  .have hP:sB g p=gK (AI g p) p.i:=by unfold sB;rw [if_neg (by simp [l]),if_neg (by simp [k])]
   have m:=(Cu k).1;refine wv (h:=aY (λi e H=>(e 2=.adr g.c/\e 3=.adr p.c/\e 7=dI i)/\(i<=p.i.length)/\(gK (AI g p) (p.i.drop i)=sB g p)) (λi=>p.i.length - i) 0 ⟨wg,wi,(hP.symm)⟩ λC o i e H n=>?_);obtain ⟨y,B,v⟩:=n;have Y:=wa Y y;refine wv (h:=?_);repeat first|intro _|refine ⟨q,?_⟩
   refine wq (λj=>?_) λj=>?_
   .have hst:=v;rw [lC _ j] at hst;have u:=m _ (aC j);have s:p.i[i].toNat<g.i.length:=aD;have f:AI g p p.i[i]=if (mem p.h g.i[p.i[i].toNat].w&&mem p.h g.i[p.i[i].toNat].M)=true then 0 else 14:=by simp only [AI,aA s,Option.getD_some]
    have Y:=xa1 Y j (aA s);refine wo (h:=aB (K7 p.h _) wl ?_);refine wo (h:=aK (λx=>K7 p.h _) (λx=>wl) ?_);refine wv (h:=?_);repeat first|intro _|refine ⟨q,?_⟩
    refine wq (λa=>?_) λa=>?_
    .rw [if_neg (by rcases a with h|h<;>simp [h])] at f;rw [f,if_pos aD] at hst;exact wv (h:=b _ _ (by simp [go_sem,<- hst]))
    .rw [if_pos (by simp [a])] at f;rw [f,if_neg aD] at hst;exact wo (h:=wx o (i+1) ⟨wg,wj,(hst)⟩)
   .exact wv (h:=b _ _ (by rw [<- v,mK _ aD];simp [go_sem]))
theorem Ak (g:Graph)(p:Part):Pua 73 [g.d,p.d] (dI (subF g p)):=by
 refine Tz.p0 func73 rfl λQ b Y=>?_;refine wv (h:=aB (kH g) wl ?_);refine dK (λa=>?_) λa=>?_
 .have Y:=xa1 Y a @subF.eq_1;exact wv (h:=b _ _ wy)
 .refine wv (h:=aB (OP g p) wl ?_);have Y:=xa1 Y a @subF.eq_1;exact wv (h:=b _ _ wy)
def gN (g:Graph)(n:Int):Int:=g.h[n.toNat]?.getD 0
def gEd (g:Graph)(p:Part)(k:Int):Edge:=⟨(g.i[k.toNat]?.getD b8).type,pT p.h (g.i[k.toNat]?.getD b8).w,pT p.h (g.i[k.toNat]?.getD b8).M⟩
def bZ (g:Graph)(p:Part):Graph:=if subF g p=0 then ⟨p.h.map (gN g),p.i.map (gEd g p)⟩ else ⟨[],[]⟩
def FD (g:Graph)(p:Part):Part:=if subF g p=0 then p else ⟨[],[]⟩
theorem rL {g:Graph}{p:Part}(h:subF g p=0):graphF g=0/\p.h.Pairwise (· < ·)/\(∀ n∈p.h,0<=n/\n<g.h.length)/\∀ k∈p.i,0<=k/\k<g.i.length:=by
 unfold subF sB at h;split at h
 .rename_i h1;exact absurd h h1
 .rename_i h1;split at h
  .rename_i h2;exact absurd h h2
  .rename_i h2;split at h
   .rename_i h3;exact absurd h h3
   .rename_i h3;have a:EX p.h g.h.length=0:=aD;have b:EX p.i g.i.length=0:=aD;exact ⟨aD,(Cu a).2,(Cu a).1,(Cu b).1⟩
theorem lA {α β:Type}(f:α→β){l:List α}{i:Nat}(h:i<l.length):(l.take (i+1)).map f=(l.take i).map f++[f l[i]]:=by
 rw [aE h,List.map_append];rfl
theorem mD {α β:Type}(f:α->β){l:List α}{i:Nat}(h:l.length<=i):(l.take i).map f=l.map f:=by
 rw [aG h]
theorem Ee (g:Graph)(p:Part)(hl:p.h.length<=1000000)(hle:p.i.length<=1000000):Pua 232 [g.d,p.d] (.tup [(bZ g p).d,(FD g p).d,dI (subF g p)]):=by
 refine Tz.pK ⟨λt=>t==4||t==5||t==8||t==13,λr=>match r with|8=>[(0,7),(1,7)]|_=>[]⟩ func232 rfl (λQ hQ=>?_);have Y:=trivial;refine wv (h:=aB (z7 g p hl) wl ?_);refine dK (λh2=>?_) λh2=>?_
 .exact wv (h:=hQ _ _ (by simp [go_sem,bZ,FD,h2]))
 .obtain ⟨hg,hs,hin,hie⟩:=rL h2;refine wo (h:=lB (Ghosts.step (Ghosts.refl _) 2 0 0 3 1 _ _ (rfl) rfl rfl rfl) (λi e H=>∃ xs:W3,(e 2=.adr g.c/\e 3=.adr p.c/\e 4=.ptr 0 1 0 0/\e 5=.ptr 1 1 0 0/\e 8=.ptr 2 1 0 0/\e 23=dLI p.h/\e 24=dI p.h.length/\e 25=dI i)/\(H.get 0=some ⟨51,2,[[.nil,.nil]],false⟩)/\(0<H.next)/\(H.get 1=some ⟨58,2,[[.nil,.nil]],false⟩)/\(1<H.next)/\(H.get 2=some ⟨51,2,[[.own 3 xs.length,.nil]],false⟩)/\(2<H.next)/\(H.get 3=some ⟨3,1,xs.map cI,false⟩)/\(3<H.next)/\(i<=p.h.length)/\(xs=(p.h.take i).map (gN g))) (λi=>p.h.length - i) 0 ⟨([]),wg,wn,wn,wn,wn,wn,wn,wn,wn,wi,(by rfl)⟩ λI0 hI0 i e H hi0=>?_);obtain ⟨xs,E0,g0_0,n0_0,g1_0,n1_0,g2_0,n2_0,g3_0,n3_0,hi,hx⟩:=hi0;have Y:=xa8 Y E0 g0_0 (bL n0_0) g1_0 (bL n1_0) g2_0 (bL n2_0) g3_0 (bL n3_0);refine dK (λh6=>?_) λh6=>?_
  .have hin':=hin _ (aC h6);have hk:p.h[i].toNat<g.h.length:=aD;have hxl:xs.length=i:=by rw [hx];simp;omega
   have Y:=xa2 Y h6 (aA hk) @gN.eq_1;exact wo (h:=wx hI0 (i+1) ⟨(xs++[gN g p.h[i]]),wg,wn,wn,wn,wn,wn,wn,wn,wn,wj,(by rw [lA _ h6,<- hx])⟩)
  .have hX:xs=p.h.map (gN g):=by rw [hx,mD _ aD]
   refine wo (h:=lB (Ghosts.step (Ghosts.refl _) 2 0 1 134 3 _ _ (g2_0) rfl rfl rfl) (λk e H=>∃ j:Nat,∃ ys:List Edge,(e 2=.adr g.c/\e 3=.adr p.c/\e 4=.ptr 0 1 0 0/\e 5=.ptr 1 1 0 0/\e 8=.ptr 2 1 0 0/\e 41=dLI p.i/\e 42=dI p.i.length/\e 43=dI k)/\(H.get 0=some ⟨51,2,[[.nil,.nil]],false⟩)/\(0<H.next)/\(H.get 1=some ⟨58,2,[[.nil,.nil]],false⟩)/\(1<H.next)/\(H.get 2=some ⟨51,2,[[.own 3 xs.length,.own j ys.length]],false⟩)/\(2<H.next)/\(H.get 3=some ⟨3,1,xs.map cI,false⟩)/\(3<H.next)/\(H.get j=some ⟨134,3,ys.map Edge.c,false⟩)/\(j<H.next)/\(k<=p.i.length)/\(ys=(p.i.take k).map (gEd g p))/\(j≠0)/\(j≠1)/\(j≠2)/\(j≠3)) (λk=>p.i.length - k) 0 ⟨H.next,([]),wg,wn,wn,wn,wn,wn,wn,wn,wn,wn,wn,wi,(by rfl),aD,aD,aD,aD⟩ λI2 hI2 k e H hi2=>?_);obtain ⟨j,ys,E2,g0_2,n0_2,g1_2,n1_2,g2_2,n2_2,g3_2,n3_2,gj_2,nj_2,hk,hy,j0,j1,j2,j3⟩:=hi2;have Y:=xa7 Y E2 g0_2 (bL n0_2) g1_2 (bL n1_2) g2_2 (bL n2_2) (xb0 g3_2 (bL n3_2) gj_2 (bL nj_2) j0 j1 j2 j3 j0.symm j1.symm j2.symm j3.symm);refine dK (λh11=>?_) λh11=>?_
   .have hie':=hie _ (aC h11);have hke:p.i[k].toNat<g.i.length:=aD;have hyl:ys.length=k:=by rw [hy];simp;omega
    have Y:=xa2 Y h11 (aA hke) @gEd.eq_1;refine wo (h:=aB (vT p.h _ hs hl) wl ?_);refine wo (h:=aB (vT p.h _ hs hl) wl ?_);exact wo (h:=wx hI2 (k+1) ⟨j,(ys++[gEd g p p.i[k]]),wg,wn,wn,wn,wn,wn,wn,wn,wn,wn,wn,wj,(by rw [lA _ h11,<- hy]),wj,wj,wj,wj⟩)
   .have hY:ys=p.i.map (gEd g p):=by rw [hy,mD _ aD]
    refine wv (h:=aI ((jK p.h hl).pure) wl ?_);refine wv (h:=aI ((jK p.i hle).pure) wl ?_);exact wv (h:=hQ _ _ (by simp [go_sem,Y,bZ,FD,h2,hX,hY]))
attribute [go_sem] Rule.c Rule.d
@[go_sem] theorem ad6 (o:Option Attr)(e d b a:D):((Option.map Attr.c o).getD [e,d,b,a]).length=4:=by cases o<;>rfl
@[go_sem] theorem ad4 (o:Option NodeTy)(e d b a:D):((Option.map NodeTy.c o).getD [e,d,b,a]).length=4:=by cases o<;>rfl
@[go_sem] theorem ZZ (o:Option EdgeTy)(h g f e d b a:D):((Option.map EdgeTy.c o).getD [h,g,f,e,d,b,a]).length=7:=by cases o<;>rfl
@[go_sem] theorem ab4 (o:Option Edge)(d b a:D):((Option.map Edge.c o).getD [d,b,a]).length=3:=by cases o<;>rfl
@[go_sem] theorem ad2 (o:Option Slot)(e d b a:D):((Option.map Slot.c o).getD [e,d,b,a]).length=4:=by cases o<;>rfl
@[go_sem] theorem ad1 (o:Option Test)(f e d b a:D):((Option.map Test.c o).getD [f,e,d,b,a]).length=5:=by cases o<;>rfl
@[go_sem] theorem ab3 (o:Option Stage)(b a:D):((Option.map Stage.c o).getD [b,a]).length=2:=by cases o<;>rfl
@[go_sem] theorem ae9 (o:Option Int)(a:D):((Option.map cI o).getD [a]).length=1:=by cases o<;>rfl
@[go_sem] theorem ae7 (o:Option ByteArray)(a:D):((Option.map cS o).getD [a]).length=1:=by cases o<;>rfl
@[go_sem] theorem ad5 (o:Option Bool)(a:D):((Option.map cB o).getD [a]).length=1:=by cases o<;>rfl
theorem Of (t:Types)(a:Int):Pua 296 [dI a,.adr t.c] (.bool (decide ((t.h.length:Int)<=a))):=by
 refine Tz.p0 func296 rfl λQ b Y=>?_;exact wo (h:=b _ _ wy)
theorem Oe (t:Types)(x:Edge):Pua 297 [.agg x.c,.adr t.c] (.bool (decide ((t.i.length:Int)<=x.type))):=by
 refine Tz.p0 func297 rfl λQ a Y=>?_;exact wo (h:=a _ _ wy)
theorem QO (t:Types)(g:Graph):Pua 230 [t.d,g.d] (.bool (fQ t g)):=by
 have j:=gM g.h 296 [.adr t.c] (λa=>decide ((t.h.length:Int)<=a)) (by simp [go_sem]) (by simp [go_sem]) (λa _=>Of t a);have i:=mE g.i 297 [.adr t.c] (λx=>decide ((t.i.length:Int)<=x.type)) (by simp [go_sem]) (by simp [go_sem]) (λx _=>Oe t x);have e:fQ t g=((!(g.h.any λn=>decide ((t.h.length:Int)<=n)))&&!(g.i.any λx=>decide ((t.i.length:Int)<=x.type))):=rfl;rw [e];refine Tz.p0 func230 rfl λQ f Y=>?_;refine wo (h:=aB (j) wl ?_);refine wo (h:=aK (λb=>i) (λb=>wl) ?_);exact wo (h:=f _ _ wy)
def sameSlot (x y:Slot):Bool:=decide (y.node=x.node)&&decide (y.J=x.J)
theorem QP (x y:Slot):Pua 299 [.agg y.c,.adr x.c] (.bool (sameSlot x y)):=by
 refine Tz.p0 func299 rfl λQ a Y=>?_;have Y:=wa Y @sameSlot.eq_1;exact wo (h:=a _ _ wy)
def tS (t:Types)(p:Pattern)(i:Nat):Int:=match p.l[i]? with
 | some s=>if gF t p s≠0 then 6 else if ((p.l.take i).any (sameSlot s))=true then 5 else 0
 | none=>0
theorem AU {t:Types}{p:Pattern}{i:Nat}(h:i<p.l.length):tS t p i=if gF t p p.l[i]≠0 then 6 else if ((p.l.take i).any (sameSlot p.l[i]))=true then 5 else 0:=by
 unfold tS;rw [aA h]
theorem Tu (t:Types)(l:t.ok)(r:Rule)(s:r.right.j.h.length<=1000)(i:Nat)(k:i<r.right.l.length):Pua 231 [t.d,r.d,dI i] (dI (tS t r.right i)):=by
 have a:=AU (t:=t) k;have e:=rG l (r.right.E r.right.l[i].node);have b:=vQ (r.right.l.take i) 299 [.adr r.right.l[i].c] (sameSlot r.right.l[i]) (by simp [go_sem]) (by simp only [D.P];exact Hp _) (λy _=>QP r.right.l[i] y);refine Tz.pK ⟨λt=>t==7||t==10,λ_=>[]⟩ func231 rfl (λQ g=>?_);have Y:=wa (aA k) k;refine d8 (λq=>?_) λq=>?_
 .have hE:gF t r.right r.right.l[i]≠0:=by
   unfold gF;rw [if_neg];decide;intro h;simp [lZ] at h;omega
  rw [if_pos hE] at a;exact wv (h:=g _ _ (by simp [go_sem,a]))
 .have hn:r.right.l[i].node.toNat<r.right.j.h.length:=aD;have f:r.right.E r.right.l[i].node=r.right.j.h[r.right.l[i].node.toNat]:=by simp [Pattern.E,hn]
  rw [f] at e;have Y:=xa1 Y (aA hn) f;refine wo (h:=aI (oT t l r.right.j.h[r.right.l[i].node.toNat]) wl ?_);refine d8 (λp=>?_) λp=>?_
  .have hE:gF t r.right r.right.l[i]≠0:=by
    unfold gF;rw [if_neg];decide;intro h;simp [lZ,inF,f] at h;omega
   rw [if_pos hE] at a;exact wv (h:=g _ _ (by simp [go_sem,a]))
  .have hE:gF t r.right r.right.l[i]=0:=by
    unfold gF;rw [if_pos];simp [lZ,inF,f];omega
   rw [if_neg aD] at a;have o:(i:Int)<=r.right.l.length:=aD;refine wo (h:=vS (b) wr wl rfl ?_);refine d8 (λe=>?_) λe=>?_
   .exact wv (h:=g _ _ (by rw [a,if_pos (by rw [bD];exact e)];simp [go_sem]))
   .exact wv (h:=g _ _ (by rw [a,if_neg (by rw [bD];rintro ⟨x,n,m⟩;have:=e x n;rw [this] at m;cases m)];simp [go_sem]))
def g7 (t:Types)(r:Rule):Int :=
 if graphF r.right.j≠0 then graphF r.right.j
 else if fQ t r.right.j=false then 13
 else if r.right.vars≠r.left.vars\/0<r.right.G.length then 1
 else if 10<r.right.l.length then 3
 else bU (tS t r.right) 0 r.right.l.length
theorem QQ (t:Types)(p:t.ok)(r:Rule):Pua 151 [t.d,r.d] (dI (g7 t r)):=by
 refine Tz.p0 func151 rfl λQ b Y=>?_;refine wv (h:=aB (nD r.right.j) wl ?_);refine dK (λg=>?_) λg=>?_
 .exact wv (h:=b _ _ (.inl (by simp [go_sem,g7,g])))
 .have hg:=bR g;refine wo (h:=aB (QO t r.right.j) wl ?_);refine d8 (λf=>?_) λf=>?_
  .exact wv (h:=b _ _ (.inl (by simp [go_sem,g7,g,f])))
  .refine d8 (λl=>?_) λl=>?_
   .have hR:g7 t r=1:=by unfold g7;rw [if_neg aD,if_neg (by simp [f]),if_pos aD]
    exact wv (h:=b _ _ (.inl (by simp [go_sem,hR])))
   .have h6':¬ (r.right.vars≠r.left.vars\/0<r.right.G.length):=by
     rintro (h|h)
     .exact h l.1
     .have:=l.2;simp [this] at h
    refine d8 (λq=>?_) λq=>?_
    .have hR:g7 t r=3:=by unfold g7;rw [if_neg aD,if_neg (by simp [f]),if_neg h6',if_pos aD]
     exact wv (h:=b _ _ (.inl (by simp [go_sem,hR])))
    .have hR:g7 t r=bU (tS t r.right) 0 r.right.l.length:=by unfold g7;rw [if_neg aD,if_neg (by simp [f]),if_neg h6',if_neg aD]
     refine wo (h:=aY (λi e H=>(e 2=.adr t.c/\e 3=.adr r.c/\e 46=dI r.right.l.length/\e 47=dI i)/\(i<=r.right.l.length)/\(bU (tS t r.right) i (r.right.l.length - i)=g7 t r)) (λi=>r.right.l.length - i) 0 ⟨wg,wi,(hR.symm)⟩ λx k i e H j=>?_);obtain ⟨s,w,n⟩:=j;have Y:=wa Y s;refine dK (λa=>?_) λa=>?_
     .have hst:=n;rw [eV _ a] at hst;have Y:=wa Y a;refine wv (h:=aB (Tu t p r aD i a) wl ?_);refine dK (λm=>?_) λm=>?_
      .rw [if_pos aD] at hst;exact wv (h:=b _ _ (.inl (by simp [go_sem,hst])))
      .rw [if_neg aD] at hst;exact wo (h:=wx k (i+1) ⟨wg,wj,(hst)⟩)
     .exact wv (h:=b _ _ (.inl (by rw [<- n,(aD:r.right.l.length - i=0)];rfl)))
def bP (l:W3)(n:Nat):W3:=((List.range n).filter λ(i:Nat)=>!mem l i).map λ(b:Nat)=>(b:Int)
theorem l8 {l:W3}{n:Nat}{x:Int}(h:x∈bP l n):0<=x/\x<n:=by
 simp only [bP,aW,fK,bA] at h;grind
theorem l9 (l:W3)(n:Nat):(bP l n).length<=n:=by
 unfold bP;rw [aT];exact dH (iT _ _) dB
theorem Fm (l:W3)(n:Nat)(v:n<=1000000):Pua 235 [dLI l,dI n] (dLI (bP l n)):=by
 refine Tz.pK ⟨λt=>t==5,λ_=>[]⟩ func235 rfl (λQ r=>?_);have Y:=trivial;refine wv (h:=aY (λi e H=>∃ a:W3,(e 0=dLI l/\e 7=dI n/\e 5=.own 0 a.length/\e 8=dI i)/\(H.get 0=some ⟨3,1,a.map cI,false⟩)/\(0<H.next)/\(i<=n)/\(a.length<=i)/\(a=((List.range i).filter λ(b:Nat)=>!mem l b).map (λ(b:Nat)=>(b:Int)))) (λi=>n - i) 0 ⟨([]),wg,wn,wn,wi,dB,(by rfl)⟩ λz f i e H k=>?_);obtain ⟨a,s,g,d,x,w,j⟩:=k;have Y:=xa2 Y s g (bL d);refine dK (λp=>?_) λp=>?_
 .have Y:=wa Y p;refine wo (h:=aB (fU l i) wl ?_);refine d8 (λm=>?_) λm=>?_
  .have Y:=wa Y m;exact wo (h:=wx f (i+1) ⟨(a++(if (!mem l i)=true then [(i:Int)] else [])),wg,wn,wn,wj,(by rw [aH];split<;>simp<;>omega),(by rw [b7,<- j])⟩)
  .have Y:=wa Y m;exact wo (h:=wx f (i+1) ⟨(a++(if (!mem l i)=true then [(i:Int)] else [])),wg,wn,wn,wj,(by rw [aH];split<;>simp<;>omega),(by rw [b7,<- j])⟩)
 .exact wv (h:=r _ _ (by simp [go_sem,Y,bP];rw [j,(aD:i=n)];simp))
def keptF (r:Rule):Int :=
 if subF r.left.j r.q≠0 then subF r.left.j r.q
 else if eD (bZ r.left.j r.q) r.right.j r.u≠0 then eD (bZ r.left.j r.q) r.right.j r.u
 else if Ca (bZ r.left.j r.q) r.right.j r.u=false then 11 else 0
structure Rule.ok (r:Rule):Prop where
 name:r.name.size<=100000
 k1:r.q.h.length<=1000000
 k2:r.q.i.length<=1000000
 i1:r.u.h.length<=1000000
 i2:r.u.i.length<=1000000
 cond:r.cond.ok
 size:r.cond.size<=1000000
theorem Tv (r:Rule)(k:r.ok):Pua 152 [r.d] (dI (keptF r)):=by
 obtain ⟨_,f,e,i,g,_,_⟩:=k;refine Tz.pK ⟨λt=>t==3||t==4,λ_=>[]⟩ func152 rfl (λQ b=>?_);have Y:=trivial;refine wv (h:=aB (Ee r.left.j r.q f e) wl ?_);refine dK (λa=>?_) λa=>?_
 .have Y:=xa1 Y a @keptF.eq_1;exact wv (h:=b _ _ wy)
 .refine wv (h:=aB (p5 (bZ r.left.j r.q) r.right.j r.u) wl ?_);refine dK (λc=>?_) λc=>?_
  .have Y:=xa2 Y a c @keptF.eq_1;exact wv (h:=b _ _ wy)
  .refine wo (h:=aB (tY (bZ r.left.j r.q) r.right.j r.u i g) wl ?_);refine d8 (λj=>?_) λj=>?_
   .have Y:=xa3 Y a c j @keptF.eq_1;exact wv (h:=b _ _ wy)
   .have Y:=xa3 Y a c j @keptF.eq_1;exact wv (h:=b _ _ wy)
def absB (t:Types)(g:Graph)(i:Int):Bool:=((t.h[(gN g i).toNat]?).map (·.ce)).getD false
def unfitB (t:Types)(g:Graph)(k:Int):Bool:=!o6 t (g.i[k.toNat]?.getD b8).type (gN g (g.i[k.toNat]?.getD b8).w) (gN g (g.i[k.toNat]?.getD b8).M)
def vE (t:Types)(g:Graph)(nodes edges:W3):Bool:=(!(nodes.any (absB t g)))&&!(edges.any (unfitB t g))
theorem lT {t:Types}{g:Graph}(b:graphF g=0)(h:fQ t g=true):(∀ a∈g.h,0<=a/\a<t.h.length)/\∀ x∈g.i,(0<=x.type/\x.type<t.i.length)/\(0<=x.w/\x.w<g.h.length)/\(0<=x.M/\x.M<g.h.length):=by
 obtain ⟨d,c⟩:=dP b;simp [fQ] at h;simp_all
theorem JZ (t:Types)(g:Graph)(l:graphF g=0)(j:fQ t g=true)(i:Int)(f:0<=i)(e:i<g.h.length):Pua 236 [dI i,.adr t.c,.adr g.c] (.bool (absB t g i)):=by
 have a:i.toNat<g.h.length:=aD;have d:=(lT l j).1 _ (aC a);have b:g.h[i.toNat].toNat<t.h.length:=aD;refine Tz.p0 func236 rfl λQ k _=>?_;have Y:=wa (aA a) (aA b);have Y:=xa1 Y @absB.eq_1 @gN.eq_1;exact wo (h:=k _ _ wy)
theorem JY (t:Types)(d:t.ok)(g:Graph)(n:graphF g=0)(l:fQ t g=true)(k:Int)(i:0<=k)(f:k<g.i.length):Pua 237 [dI k,.adr g.c,.adr t.c] (.bool (unfitB t g k)):=by
 have b:k.toNat<g.i.length:=aD;have e:=(lT n l).2 _ (aC b);have j:g.i[k.toNat].w.toNat<g.h.length:=aD;have a:g.i[k.toNat].M.toNat<g.h.length:=aD;refine Tz.pK ⟨λt=>t==5,λ_=>[]⟩ func237 rfl (λQ m=>?_);have Y:=xa1 (aA b) (aA j) (aA a);refine wo (h:=aI (G8 t d _ _ _) wl ?_);have Y:=xa1 Y @unfitB.eq_1 @gN.eq_1;exact wo (h:=m _ _ wy)
theorem Mr (t:Types)(o:t.ok)(g:Graph)(n:graphF g=0)(m:fQ t g=true)(a b:W3)(e:∀ i∈a,0<=i/\i<g.h.length)(l:∀ k∈b,0<=k/\k<g.i.length):Pua 154 [t.d,g.d,dLI a,dLI b] (.bool (vE t g a b)):=by
 have u:=gM a 236 [.adr t.c,.adr g.c] (absB t g) (by simp [go_sem]) (by simp [go_sem]) (λi j=>JZ t g n m i (e i j).1 (e i j).2);have s:=gM b 237 [.adr g.c,.adr t.c] (unfitB t g) (by simp [go_sem]) (by simp [go_sem]) (λk f=>JY t o g n m k (l k f).1 (l k f).2);have r:vE t g a b=((!(a.any (absB t g)))&&!(b.any (unfitB t g))):=rfl;rw [r];refine Tz.p0 func154 rfl λQ q Y=>?_;refine wo (h:=aB (u) wl ?_);refine wo (h:=aK (λp=>s) (λp=>wl) ?_);exact wo (h:=q _ _ wy)
def Rule.R (r:Rule):W3:=bP r.u.h r.right.j.h.length
def Rule.ai (r:Rule):W3:=bP r.u.i r.right.j.i.length
theorem Ms (r:Rule)(c:r.right.j.h.length<=1000000)(b:r.right.j.i.length<=1000000):Pua 153 [r.d] (.tup [dLI r.R,dLI r.ai]):=by
 refine Tz.p0 func153 rfl λQ a Y=>?_;refine wo (h:=aI (Fm r.u.h _ c) wl ?_);refine wo (h:=aI (Fm r.u.i _ b) wl ?_);have Y:=xa1 Y @Rule.R.eq_1 @Rule.ai.eq_1;exact wo (h:=a _ _ wy)
def ruleF (t:Types)(r:Rule):Int :=
 if (cW t).2≠0 then (cW t).2
 else if lD r.name=false then 2
 else if cX t r.left≠0 then cX t r.left
 else if g7 t r≠0 then g7 t r
 else if keptF r≠0 then keptF r
 else if vE t r.right.j r.R r.ai=false then 13
 else condF t r.left r.cond
theorem Ek {t:Types}{r:Rule}(h:g7 t r=0):graphF r.right.j=0/\fQ t r.right.j=true:=by
 unfold g7 at h;grind
theorem QR (t:Types)(k:t.ok)(r:Rule)(m:r.ok):Pua 102 [t.d,r.d] (dI (ruleF t r)):=by
 have l:=zG t k r.left r.cond m.cond m.size;rw [Cond.A] at l;refine Tz.p0 func102 rfl λQ e Y=>?_;refine wv (h:=aB (mX t k) wl ?_);refine dK (λc=>?_) λc=>?_
 .have Y:=xa1 Y c @ruleF.eq_1;exact wv (h:=e _ _ wy)
 .refine wo (h:=aB (pM r.name m.name) wl ?_);refine d8 (λf=>?_) λf=>?_
  .have Y:=xa2 Y c f @ruleF.eq_1;exact wv (h:=e _ _ wy)
  .refine wv (h:=aB (oI t k r.left) wl ?_);refine dK (λj=>?_) λj=>?_
   .have Y:=xa3 Y c f j @ruleF.eq_1;exact wv (h:=e _ _ wy)
   .refine wv (h:=aB (QQ t k r) wl ?_);refine dK (λa=>?_) λa=>?_
    .have Y:=xa4 Y c f j a @ruleF.eq_1;exact wv (h:=e _ _ wy)
    .have hg:=Ek a;have o:=bR hg.1;refine wv (h:=aB (Tv r m) wl ?_);refine dK (λb=>?_) λb=>?_
     .have Y:=xa5 Y c f j a b @ruleF.eq_1;exact wv (h:=e _ _ wy)
     .refine wv (h:=aB (Ms r aD aD) wl ?_);refine wo (h:=aB (Mr t k r.right.j hg.1 hg.2 r.R r.ai (λi n=>l8 n) (λi n=>l8 n)) wl ?_);refine d8 (λg=>?_) λg=>?_
      .have Y:=xa6 Y c f j a b g @ruleF.eq_1;exact wv (h:=e _ _ wy)
      .refine wv (h:=aB (l) wl ?_);have Y:=xa6 Y c f j a b g @ruleF.eq_1;exact wv (h:=e _ _ wy)
end Go.Abs
end
