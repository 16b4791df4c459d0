/- Layer 32: Rule and Overlaps of the program. · Layer 32: the  -/
import Derived.Test.YthlnbehgghjppaaGreatZrAG
import Derived.Test.YthlnbehgghjppaaGreatZrAA
import Derived.Test.YthlnbehgghjppaaGreatZrAN
import Derived.Test.YthlnbehgghjppaaGreatZrAM
import Derived.Test.YthlnbehgghjppaaGreatZrAF
import Derived.Test.YthlnbehgghjppaaGreatZrAJ
import Derived.Maps.RangeWalk
import Derived.DeepKeys4
set_option linter.unusedVariables false
set_option linter.unusedSimpArgs false
section
set_option maxRecDepth 100000
set_option maxHeartbeats 4000000
open Go Go.Proofs Tryz
namespace Go.Abs
theorem AP {t:Types}{a b:Rule}{o:Ovl}(e:Rule.aa t a)(c:Rule.aa t b)(h:mU a b o=0):Pua 44 [(nG a b o).dd] (.tup [(lA a b o).d,dI (gP a b o)]):=by
 have f:eW a b o=0:=by rw [<- xT e c];exact h
 obtain ⟨i,g⟩:=Ny e c f;have:=Q9 (nG a b o) (by rw [xS e c f];exact agM e c f) (by rw [xS e c f];exact agL e c f);rwa [i,g] at this
theorem sW (t:Types)(y:t.ok)(a b:Rule)(o:Ovl)(w:a.ok)(v:b.ok)(q:a.aq)(p:b.aq):Pua 19 [t.d,a.d,b.d,o.d] (.tup [(nA t a b o).d,dI (wF t a b o)]):=by
 have e:=pB a b o w v;refine pH (by first|rfl|(simp [go_sem];done)) (λQ u=>(Tz.cK ⟨λt=>t==8||t==11,λ_=>[]⟩ func19 rfl ?_));have Y:=xa5 @Glued.dd.eq_1 @Glued.c.eq_1 @Rule.c.eq_1 @Ovl.d.eq_1 @Ovl.c.eq_1 @Part.c.eq_1 @Part.d.eq_1;refine wv (h:=aB (x7 t y a b w v q p) wl ?_);refine c8 (λk=>?_) λk=>?_
 .have l:wF t a b o=givenR t a b:=if_pos k;have f:nA t a b o=eM:=if_pos k;refine wv (h:=?_);exact u _ _ (by simp [go_sem,l,f,eM,Rule.d,Rule.c,c7,f8,Cond.F,Cond.w,Cond.map,Cond.n])
 .have hE2:¬ givenR t a b≠0:=by rw [k];simp
  obtain ⟨i,g⟩:=jH k;have l:wF t a b o=gP a b o:=if_neg hE2;have f:nA t a b o=lA a b o:=if_neg hE2;have n:=xT i g o;have j:=@AP t a b o i g;obtain ⟨X,z⟩:∃ x,nG a b o=x:=⟨_,rfl⟩;rw [z] at e j;refine wv (h:=aB (e) wl ?_);refine c8 (λm=>?_) λm=>?_
  .have hW:gP a b o=mU a b o:=by unfold gP;rw [<- n,if_pos m]
   have r:lA a b o=eM:=if_neg (by rw [hW];exact m);refine wv (h:=?_);exact u _ _ (by simp [go_sem,l,f,hW,r,eM,Rule.d,Rule.c,c7,f8,Cond.F,Cond.w,Cond.map,Cond.n])
  .have hrule:=j m;obtain ⟨W,s⟩:∃ x,lA a b o=x:=⟨_,rfl⟩;rw [s] at hrule f;refine wv (h:=aB (hrule) wl ?_);refine wv (h:=?_);exact u _ _ (by simp [go_sem,Y,l,f,Rule.d,Rule.c,c7,f8,AF,AE,Dm])
theorem A3 (t:Types)(a b:Rule)(o:Ovl)(n:a.ok)(m:b.ok)(g:Rule.aa t a)(f:Rule.aa t b):Pua 59 [.agg o.c,.adr a.c,.adr b.c] (.bool (decide (gP a b o≠0))):=by
 have e:=pB a b o n m;have j:=xT g f o;have i:=@AP t a b o g f;obtain ⟨X,p⟩:∃ x,nG a b o=x:=⟨_,rfl⟩;rw [p] at e i;refine Tz.pK ⟨λt=>t==5,λ_=>[]⟩ func59 rfl (λQ l=>?_);have Y:=xa5 @Glued.dd.eq_1 @Glued.c.eq_1 @Rule.c.eq_1 @Ovl.d.eq_1 @Ovl.c.eq_1 @Part.c.eq_1 @Part.d.eq_1;refine wv (h:=aB (e) wl ?_);refine c8 (λk=>?_) λk=>?_
 .refine wv (h:=aB (i k) wl ?_);exact wv (h:=l _ _ (by simp [go_sem];rw [aU];simp))
 .have hW:gP a b o=mU a b o:=by unfold gP;rw [<- j,if_pos k]
  exact wv (h:=l _ _ (by simp [go_sem,hW];rw [aU];simp))
theorem JX (xs:List Ovl)(g:FuncId)(a:Xa2)(p:Ovl->Bool)(t:D.N a=true)(s:∀ x∈xs,Pure prog g (.agg x.c :: a) (.bool (p x))) :
  Pua 119 [.list (xs.map Ovl.c),.fn g a] (dI (xP xs p)):=by
 refine aT (Tz.c0 func119 rfl ?_);simp [go_sem,seval,dI,dLI];intro o;refine fR (ι:=Nat) (λi e H=>H=.an/\i<=xs.length/\e 0=.list (xs.map Ovl.c)/\e 1=.fn g a/\e 7=dI xs.length/\e 8=dI i/\(∀ j x,j<i->xs[j]?=some x->p x=false)) (λi=>xs.length - i) 0 (by simp [go_sem,seval,dI,dLI]) ?_;intro i e H ⟨u,v,l,k,f,d,n⟩;subst u;simp [go_sem,seval,l,k,f,d,dI,dLI];refine f6 (λb=>?_) (λr=>?_)
 .have hgx:=s xs[i] (aC b);simp [go_sem,seval,l,k,f,d,dI,dLI,b,Ovl.c] at hgx ⊢;refine aB hgx (by simp [go_sem,t]) ?_;simp [go_sem,seval,l,k,f,d,dI,dLI];refine bA (λh=>?_) (λh=>?_)
  .simp [go_sem,seval,l,k,f,d,dI,dLI];rw [pP n b h]
  .simp [go_sem,seval,l,k,f,d,dI,dLI];refine ⟨dK bZ bZ,i+1,bZ,bZ,bZ,λj x q m=>?_⟩;rcases bT j i with hj'|hj'
   .exact n j x hj' m
   .have:j=i:=bZ;subst this;rw [aA b] at m;cases m;exact h
 .simp [go_sem,seval,l,k,f,d,dI,dLI];rw [pQ λj x q=>n j x bZ]
theorem U2 {α:Type}{xs:List α}{p:α->Bool}(h:xP xs p = -1):∀ x∈xs,p x=false:=λx hx=>by
 unfold xP at h;cases hf:xs.findIdx? p with
 | none=>rw [oF] at hf;simpa using hf x hx
 | some k=>rw [hf] at h;simp at h
theorem U1 {α:Type}{xs:List α}{p:α->Bool}(h:xP xs p≠-1):∃ k:Nat,∃ hk:k<xs.length,xP xs p=k/\p xs[k]=true/\∀ j (d:j<xs.length),j<k->p xs[j]=false:=by
 unfold xP at h ⊢;cases b:xs.findIdx? p with
 | none=>rw [b] at h;exact absurd rfl h
 | some k =>
  rw [gK] at b;obtain ⟨hk,c,e⟩:=b;exact ⟨k,hk,rfl,c,λj d a=>by simpa using e j a⟩
theorem Jp {α:Type}{L:List α}{i:Nat}(h:i<L.length)(x:α):(L.set i x).take (i+1)=L.take i++[x]:=by
 rw [aF (eL h),List.getElem_set_self,List.take_set,List.set_eq_of_length_le (by rw [dF];omega)]
theorem Pq {α:Type}(L:List α){i j:Nat}(h:i<j)(x:α):(L.set i x).drop j=L.drop j:=by
 rw [List.drop_set_of_lt h]
theorem Wn {H:AHeap}{d:D}(h:d.W=true):C1 H d=d:=by cases d<;>first|rfl|(simp [D.W] at h)
theorem S5 {a:Xa2}(c:D.N a=true)(H:AHeap):a.map (C1 H)=a:=by
 conv=>rhs;rw [<- List.map_id a]
 exact cE λd b=>Wn (gM c d b)
theorem IK (xs:List Ovl)(hl:xs.length<=100000)(g:FuncId)(b:Xa2)(p:Ovl->Bool)(X:D.N b=true)(hg:∀ x∈xs,Pure prog g (.agg x.c :: b) (.bool (p x)))(id:Nat)(H0:AHeap)
  (hH:H0.get id=some ⟨45,6,xs.map Ovl.c,false⟩) (a0:id<H0.next) (Q:D->AHeap->Prop) (hQ:∀ d H',iS H' d=.list ((xs.filter λx=>!p x).map Ovl.c)->Q d H') :
  ACalls prog 58 [.own id xs.length,.fn g b] H0 Q:=by
 have F:=JX xs g b p X hg;obtain ⟨v,R⟩:=gI (xP xs p);rw [R] at F;have J:=S5 X;refine (Tz.cK ⟨λt=>t==0||t==7,λ_=>[]⟩ func58 rfl ?_);have Y:=xa2 hH @Ovl.c.eq_1 J X;refine wv (h:=sN (F) wr wl rfl ?_);refine c8 (λh2=>?_) λh2=>?_
 .have hno:∀ x∈xs,p x=false:=U2 (R.trans h2);have Z:xs.filter (λx=>!p x)=xs:=List.filter_eq_self.2 λx S=>by rw [hno x S];rfl
  refine wv (h:=?_);exact hQ _ _ (by simp [go_sem,hH,Z])
 .obtain ⟨P,V,E,T,K⟩:=U1 (xs:=xs) (p:=p) (by rw [R];exact h2);rw [R] at E;subst E;have B:xs.take P=(xs.take (P+1)).filter (λx=>!p x):=by
   rw [rP _ V,T,List.filter_eq_self.2 λx S=>(by
    obtain ⟨q,hq,rfl⟩:=aO S;rw [dF] at hq;rw [List.getElem_take,K q bZ bZ];rfl)]
   simp
  refine wp (h:=bC (λj e H=>∃ i:Nat,∃ L:List Ovl,(e 0=.own id xs.length/\e 1=.fn g b/\e 5=dI i/\e 6=dI j)/\(H.get id=some ⟨45,6,L.map Ovl.c,false⟩)/\(id<H.next)/\(j<=xs.length)/\(i<j)/\(L.length=xs.length)/\(L.take i=(xs.take j).filter (λx=>!p x))/\(L.drop j=xs.drop j)) (λj=>xs.length - j) (P+1) ⟨P,xs,wg,wn,wn,wi,bZ,(by rfl),(by exact B),(by rfl)⟩ λI0 N j e H W=>?_);obtain ⟨i,L,E0,z,n,hj,a1,y,w,M⟩:=W;have Y:=xa3 Y E0 z (bP n) y;refine kI (λO=>?_) λO=>?_
  .have hjL:j<L.length:=bZ;have k:L[j]=xs[j]:=by
    have:=congrArg (λl=>l[0]?) M;simpa [hjL,O] using this
   have C:L[j]∈xs:=by rw [k];exact aC O
   have G:=rP (λx=>!p x) O;have I:L.drop (j+1)=xs.drop (j+1):=by have:=congrArg (List.drop 1) M;simpa using this
   have Y:=xa1 Y O (aA hjL);refine wp (h:=aB (hg L[j] C) wl ?_);refine kI (λh8=>?_) λh8=>?_
   .have hiL:i<L.length:=bZ;have r:p xs[j]=false:=by rw [<- k];simpa using h8
    obtain ⟨m,a⟩:∃ x,x=L.set i L[j]:=⟨_,rfl⟩;obtain ⟨A,f⟩:∃ x,x=i+1:=⟨_,rfl⟩;have s:m.length=xs.length:=by rw [a];simpa using y
    have o:m.take A=(xs.take (j+1)).filter (λx=>!p x):=by rw [a,f,Jp hiL,w,G,r,k];simp
    have u:m.drop (j+1)=xs.drop (j+1):=by rw [a,Pq _ bZ,I]
    have Y:=xa2 Y a f (aA hiL);exact wp (h:=wx N (j+1) ⟨A,m,wg,wn,wn,wj,(by rw [f];omega),(by exact s),(by exact o),(by exact u)⟩)
   .have r:p xs[j]=true:=by rw [<- k];simpa using h8
    obtain ⟨m,a⟩:∃ x,x=L:=⟨_,rfl⟩;obtain ⟨A,f⟩:∃ x,x=i:=⟨_,rfl⟩;have s:m.length=xs.length:=by rw [a,y]
    have o:m.take A=(xs.take (j+1)).filter (λx=>!p x):=by rw [a,f,w,G,r];simp
    have u:m.drop (j+1)=xs.drop (j+1):=by rw [a,I]
    have Y:=xa1 Y a f;exact wp (h:=wx N (j+1) ⟨A,m,wg,wn,wn,wj,(by rw [f];omega),(by exact s),(by exact o),(by exact u)⟩)
  .have hje:j=xs.length:=bZ;have Z:(L.take i).map Ovl.c=(xs.filter λx=>!p x).map Ovl.c:=by rw [w,aH bZ]
   refine wp (h:=?_);have U:min i xs.length+(xs.length - i)=xs.length:=bZ;exact hQ _ _ (by simp [go_sem,Y,U,<- Z];exact List.take_left' (by simp;omega))
theorem Yt (a b:Graph):(Wt a b).length<=2000:=by
 unfold Wt;split
 .rename_i h;unfold rA at h;split at h
  .rename_i q;exact absurd h q
  .split at h
   .rename_i q;exact absurd h q
   .split at h
    .cases h
    .split at h
     .cases h
     .omega
 .simp
theorem BF (t:Types)(B:t.ok)(a b:Rule)(A:a.ok)(z:b.ok)(u:a.aq)(s:b.aq):Pua 18 [t.d,a.d,b.d] (.tup [.list ((FE t a b).map Ovl.c),dI (OD t a b)]):=by
 have C:=Yt a.right.j b.left.j;refine pH (by first|rfl|(simp [go_sem];done)) (λQ v=>(Tz.c0 func18 rfl ?_));try simp [go_sem,seval,Rule.c]
 refine aB (x7 t B a b A z u s) ((by first|rfl|(simp [go_sem,<- List.map_take,<- List.map_drop,Rule.c];done))) ?_;try simp [go_sem,seval,Rule.c]
 refine bA (λi=>?_) (λi=>?_)
 .try simp [go_sem] at i
  have h:OD t a b=givenR t a b:=if_pos i;have m:FE t a b=[]:=if_neg (by rw [h];exact i);try simp [go_sem,seval,Rule.c]
  exact v _ _ (by simp [go_sem,h,m])
 .try simp [go_sem] at i
  have y:¬ givenR t a b≠0:=by rw [i];simp
  obtain ⟨x,w⟩:=jH i;have h:OD t a b=rA a.right.j b.left.j:=if_neg y;by_cases e:rA a.right.j b.left.j=0
  .skip
   try simp [go_sem,seval,Rule.c,e]
   unfold e8;first|refine pA a.right.j b.left.j _ (λj f=>absurd e f) (λq n j l k g p=>?_)|(refine pA a.right.j b.left.j _ (λj f=>?_) (λq n j l k g p=>absurd l e);have g:(rA a.right.j b.left.j != 0)=true:=(eL e);have k:=e)
   try simp [go_sem,seval,Rule.c,e,g]
   unfold e8;subst k;refine IK (Wt a.right.j b.left.j) bZ 59 [.adr a.c,.adr b.c] (λo=>decide (gP a b o≠0)) (by simp [go_sem]) (λo _=>A3 t a b o A z x w) q _ g p _ (λd E r=>?_);try simp [go_sem,seval,Rule.c,e,g,r]
   have m:FE t a b=Ws t a b:=if_pos (by rw [h,e]);have D:((Wt a.right.j b.left.j).filter λo=>!decide (gP a b o≠0))=Ws t a b:=by unfold Ws;congr 1;funext o;simp
   rw [D] at r;exact v _ _ (by simp [go_sem,Rule.c,e,g,r,h,e,m,WA])
  .skip
   try simp [go_sem,seval,Rule.c]
   unfold e8;first|refine pA a.right.j b.left.j _ (λj f=>absurd e f) (λq n j l k g p=>?_)|(refine pA a.right.j b.left.j _ (λj f=>?_) (λq n j l k g p=>absurd l e);have g:(rA a.right.j b.left.j != 0)=true:=(eL e);have k:=e)
   try simp [go_sem,seval,Rule.c,g]
   have m:FE t a b=[]:=if_neg (by rw [h];exact e);exact v _ _ (by simp [go_sem,Rule.c,g,h,m])
theorem Pure.nz {P:Program}{f:FuncId}{args args':Xa2}{r:D}(c:Pure P f args' r)(i:args.map mM=args'):Pure P f args r:=by
 subst i;refine ⟨c.1,λM w a k b=>c.2 M w a k ⟨by simpa using b.len,λj u d h e=>?_⟩⟩;rw [aP,bN] at e;obtain ⟨y,g,rfl⟩:=e;exact MB (b.ad j u y h g)
theorem Wz (l:List ByteArray):eU (l.map cS)=l.map cS:=jL λc hc=>by
 rw [aV] at hc;obtain ⟨x,_,rfl⟩:=hc;rfl
theorem UK (l:List Attr):eU (l.map Attr.c)=l.map Attr.c:=jL λc hc=>by
 rw [aV] at hc;obtain ⟨x,_,rfl⟩:=hc;simp [Attr.c,jM,mM,uZ,dI,Wz]
theorem HX (l:List NodeTy):eU (l.map NodeTy.c)=l.map NodeTy.c:=jL λc hc=>by
 rw [aV] at hc;obtain ⟨x,_,rfl⟩:=hc;simp [NodeTy.c,jM,mM,dI,UK]
theorem Ck (l:List EdgeTy):eU (l.map EdgeTy.c)=l.map EdgeTy.c:=jL λc hc=>by
 rw [aV] at hc;obtain ⟨x,_,rfl⟩:=hc;simp [EdgeTy.c,jM,mM,dI]
def exT:Types:=⟨[⟨⟨#[65,99,99,111,117,110,116]⟩,-1,true,[⟨⟨#[98,97,108,97,110,99,101]⟩,-1000,1000,[]⟩]⟩,⟨⟨#[67,97,115,104]⟩,0,false,[]⟩,⟨⟨#[76,111,97,110]⟩,0,false,[⟨⟨#[115,116,97,116,101]⟩,0,1,[⟨#[111,112,101,110]⟩,⟨#[99,108,111,115,101,100]⟩]⟩]⟩,⟨⟨#[80,101,114,115,111,110]⟩,-1,false,[]⟩],
 [⟨⟨#[111,119,110,115]⟩,3,0,0,-1,1,1⟩,⟨⟨#[112,97,121,115]⟩,1,1,0,-1,0,-1⟩]⟩
theorem JR:Pua 17 [] exT.d:=by
 refine pH (by first|rfl|(simp [go_sem];done)) (λQ a=>(Tz.cK ⟨λt=>t==0,λ_=>[]⟩ func17 rfl ?_));have Y:=trivial;refine lZ (h:=?_);exact a _ _ (by simp [go_sem,exT,Types.d,Types.c,NodeTy.c,EdgeTy.c,Attr.c,uZ,cS,dI])
def JU:Rule:=⟨⟨#[109,97,107,101]⟩,⟨⟨[],[]⟩,[],0,[]⟩,⟨⟨[3],[]⟩,[],0,[]⟩,⟨[],[]⟩,⟨[],[]⟩,true,zH⟩
def J3:Rule:=⟨⟨#[100,114,111,112]⟩,⟨⟨[3],[]⟩,[],0,[]⟩,⟨⟨[],[]⟩,[],0,[]⟩,⟨[],[]⟩,⟨[],[]⟩,true,zH⟩
theorem WY:sV exT=true:=by decide +kernel
theorem WH:fewR JU=true:=by decide +kernel
theorem W4:fewR J3=true:=by decide +kernel
def Sv (i:Nat):Ovl:=(FE exT JU J3)[i]?.getD xG
theorem ex1:OD exT JU J3=0:=by decide +kernel
theorem ex2:(FE exT JU J3).length=2:=by decide +kernel
theorem ex3:wF exT JU J3 (Sv 0)=0:=by decide +kernel
theorem ex4:wF exT JU J3 (Sv 1)=0:=by decide +kernel
theorem ex5:(nA exT JU J3 (Sv 0)).left.j.h.length=1:=by decide +kernel
theorem ex6:(nA exT JU J3 (Sv 0)).right.j.h.length=1:=by decide +kernel
theorem ex7:(nA exT JU J3 (Sv 0)).u.h.length=0:=by decide +kernel
theorem ex8:(nA exT JU J3 (Sv 1)).left.j.h.length=0:=by decide +kernel
theorem ex9:(nA exT JU J3 (Sv 1)).right.j.h.length=0:=by decide +kernel
theorem Vi:FE exT JU J3=[Sv 0,Sv 1]:=by
 have h:=ex2;unfold Sv;generalize FE exT JU J3=l at *;match l,h with
 | [x,y],_=>rfl
theorem vN:Pua 5 [] (.bool true):=by
 have g:=DG WY;have a:=uN WH;have b:=uN W4;have i:=BF exT g JU J3 a.1 b.1 a.2 b.2;have f:=sW exT g JU J3 (Sv 0) a.1 b.1 a.2 b.2;have e:=sW exT g JU J3 (Sv 1) a.1 b.1 a.2 b.2;rw [Vi,ex1] at i;rw [ex3] at f;rw [ex4] at e;have o:=ex5;have n:=ex6;have m:=ex7;have l:=ex8;have k:=ex9;generalize Sv 0=x at *;generalize Sv 1=y at *;generalize nA exT JU J3 x=X at *;generalize nA exT JU J3 y=Y at *;refine Tz.pK ⟨λt=>t==1||t==2||t==3||t==4||t==7||t==9,λr=>match r with|8=>[(0,10),(1,10),(2,10),(4,10),(5,10),(6,10)]|9=>[(0,10),(1,10),(2,10),(4,10),(5,10),(6,10)]|_=>[]⟩ func5 rfl (λQ j=>?_);have Y:=xa5 @Ovl.c.eq_1 @Rule.c.eq_1 o n m l k;refine lZ (h:=aB (JR) wl ?_);refine lZ (h:=aB (i.nz (by simp [go_sem,HX,Ck,JU,J3,zH,Rule.d,Types.d,Types.c,dLI,cI,dI,Cond.F,Cond.w,Cond.map,Cond.n])) wl ?_);refine oP (h:=aI (f.nz (by simp [go_sem,HX,Ck,c7,f8,JU,J3,zH,Rule.d,Types.d,Types.c,Ovl.d,Ovl.c,dLI,cI,dI,Cond.F,Cond.w,Cond.map,Cond.n])) wl ?_);refine oP (h:=aI (e.nz (by simp [go_sem,HX,Ck,c7,f8,JU,J3,zH,Rule.d,Types.d,Types.c,Ovl.d,Ovl.c,dLI,cI,dI,Cond.F,Cond.w,Cond.map,Cond.n])) wl ?_);exact oP (h:=j _ _ wy)
end Go.Abs
end
section
set_option maxHeartbeats 1000000
namespace Go.Abs
open Go.Maps (Keyed)
def Ed (u:Int):Prop:=-9223372036854775808<=u/\u<=9223372036854775807
theorem MK {u:Int}(h:Ed u):(Lit.int .i64 u).wf=true:=by
 obtain ⟨b,a⟩:=h;simp [Lit.wf,IntKind.min,IntKind.max,IntKind.bits,IntKind.signed];omega
theorem Uj {u:Int}(h:(Lit.int .i64 u).wf=true):Ed u:=by
 simp [Lit.wf,IntKind.min,IntKind.max,IntKind.bits,IntKind.signed] at h;exact ⟨bZ,bZ⟩
def kv (u v:Int):Value:=.agg #[.int .i64 u,.int .i64 v]
def kl (u v:Int):Lit:=.string (keyBytes [.int .i64 u,.int .i64 v])
structure MapT (P:Program) (T K E:TypeId):Prop where
 t:P.underlying T=some (.map K E)
 e:P.underlying E=some (.int .i64)
 dg:Keyed P K
 dh:∀ u v,Ed u->Ed v->keyOf P K (kv u v)=some (kl u v)
 fq:∀ key l,keyOf P K key=some l->∃ u v,Ed u/\Ed v/\key=kv u v
 z:∀ w,(zeroValue E).run P w=.ok (.int .i64 0) w
theorem Dx {P:Program}{K E:TypeId}{e c:Field}(h:P.underlying K=some (.struct #[e,c]))(k:e.type=E/\e.offset=0/\(e.name != "_")=true)(j:c.type=E/\c.offset=1/\(c.name != "_")=true)
  (i:P.cellsOf K=2) (f:P.cellsOf E=1) (d:Nat) (a b:Value):P.keyLits (d+1) K [a,b]=(P.keyLits d E [a]).bind λx=>(P.keyLits d E [b]).map λy=>x++y:=by
 obtain ⟨q,p,o⟩:=k;obtain ⟨n,m,l⟩:=j;rw [Program.keyLits.eq_def];simp only [h];rw [if_pos (by simp [i,o,l])];simp only [List.mapM_cons,List.mapM_nil,q,p,n,m,f,List.drop_zero,u0,List.take_zero,List.drop_succ_cons,bind,pure];cases P.keyLits d E [a]<;>simp
 cases P.keyLits d E [b]<;>simp
theorem vO {P:Program}{E:TypeId}(he:P.underlying E=some (.int .i64))(d:Nat)(v:Value)(l:List Lit):P.keyLits (d+1) E [v]=some l↔∃ u,v=.int .i64 u/\(Lit.int .i64 u).wf=true/\l=[.int .i64 u]:=by
 rw [Program.keyLits.eq_def];grind
theorem WJ {P:Program}{T K E:TypeId}{n m:Field}(G:P.underlying T=some (.map K E))(g:P.underlying E=some (.int .i64))(c:P.underlying K=some (.struct #[n,m]))(D:n.type=E/\n.offset=0/\(n.name != "_")=true)(C:m.type=E/\m.offset=1/\(m.name != "_")=true)
  (k:P.cellsOf K=2) (i:P.cellsOf E=1) (s:P.keyType K=true) (H:∃ d,P.types.size+1=d+1+1) (e:Keyed P K) (F:∀ w,(zeroValue E).run P w=.ok (.int .i64 0) w):MapT P T K E:=by
 obtain ⟨d,A⟩:=H;refine ⟨G,g,e,λu v r q=>?_,λp l h=>?_,F⟩
 .unfold keyOf;simp only [c];rw [if_pos (by simp [s,Value.formed,c,kv,k]),A];have J:=(vO g d (.int .i64 u) _).2 ⟨u,rfl,MK r,rfl⟩;have I:=(vO g d (.int .i64 v) _).2 ⟨v,rfl,MK q,rfl⟩;show ((P.keyLits (d+1+1) K [.int .i64 u,.int .i64 v]).map λo=>Lit.string (keyBytes o))=_;rw [Dx c D C k i,J,I];rfl
 .unfold keyOf at h;simp only [c] at h;split at h
  .rename_i hf;rw [aL] at hf;have f:=hf.2;cases p<;>simp [Value.formed,c,k] at f
   rename_i z;obtain ⟨z⟩:=z;match z,f with
   | [a,b],_ =>
    rw [A] at h;have j:((P.keyLits (d+1+1) K [a,b]).map λo=>Lit.string (keyBytes o))=some l:=h;rw [Dx c D C k i] at j;cases t:P.keyLits (d+1) E [a] with
    | none=>rw [t] at j;cases j
    | some x =>
     cases B:P.keyLits (d+1) E [b] with
     | none=>rw [t,B] at j;cases j
     | some y =>
      obtain ⟨u,rfl,r,_⟩:=(vO g d a x).1 t;obtain ⟨v,rfl,q,_⟩:=(vO g d b y).1 B;exact ⟨u,v,Uj r,Uj q,rfl⟩
  .cases h
section
variable {P:Program} {T K E:TypeId}
theorem MapT.inj (h:MapT P T K E){u v d c:Int}(a:Ed u)(b:Ed v)(g:Ed d)(f:Ed c)(e:kl u v=kl d c):u=d/\v=c:=by
 have:=h.dg.inj (h.dh u v a b) (e ▸ h.dh d c g f);simpa [kv] using this
abbrev FM:=Int->Int->Option Int
def L6 (F:FM)(u v c:Int):FM:=λu' v'=>if u'=u/\v'=v then some c else F u' v'
def X0 (D:DataW Unit)(F:FM):Prop:=∀ u v,Ed u->Ed v->Maps.has D (kl u v)=(F u v).isSome/\∀ c,F u v=some c->∀ z,D.atKey (kl u v) z=.lit (.int .i64 c)
inductive MS where
 | no
 | mp (b n:Nat) (F:FM)
 | rg (b r:Nat) (F:FM) (left:Int->Int->Bool) (wM:Nat) (cur:Option (Int × Int × Int))
def Re (σ:Nat->Option Ow)(b:Nat):Prop:=∀ i o,σ i=some o->o.block≠some b
def FK (r:Nat):Value:=.pointer (some ⟨r,0,none⟩)
def MpOk (P:Program)(K E:TypeId)(σ:Nat->Option Ow)(base:Nat)(w:World):MS->Prop
 | .no=>True
 | .mp b n F=>base<=b/\Re σ b/\∃ D:DataW Unit,w.ownsMap P K (plainElem P E) b n D/\X0 D F
 | .rg b r F left wM cur=>base<=b/\base<=r/\Re σ b/\Re σ r/\∃ (n:Nat) (D:DataW Unit) (lf:Lit->Bool),w.ranges P K (plainElem P E) b r n D lf wM/\X0 D F/\(∀ u v,Ed u->Ed v->lf (kl u v)=left u v) /\
   ∀ u v c,cur=some (u,v,c)->(Instr.entry (FK r)).run P w=.ok (.tuple #[kv u v,.int .i64 c]) w
theorem Iv {σ σ':Nat->Option Ow}{w w':World}(hs:Stp σ w σ' w'){b:Nat}(hb:b<w.heap.size)(h:Re σ b):Re σ' b:=λi o' ho hb'=>by
 rcases hs.new i o' b ho hb' with h1|⟨j,o,h1,h2⟩
 .omega
 .exact h j o h1 h2
theorem Rg {w w':World}{r b s c a:Nat}{d:Array Nat}{es:Array MapEntry}{v:Value}(j:w.heap[r]?=some (.mapIter (some b) s d c))(m:w.heap[b]?=some (.map es a))
  (f:w'.heap[r]?=some (.mapIter (some b) s d c)) (g:w'.heap[b]?=some (.map es a)) (h:(Instr.entry (FK r)).run P w=.ok v w):(Instr.entry (FK r)).run P w'=.ok v w':=by
 simp only [FK,Instr.entry,getObj,Sem.run_bind,Sem.run,j,f,Result.andThen] at h ⊢;cases i:d.back? with
 | none=>simp [i,stuck] at h
 | some st =>
  simp only [i,Sem.run_bind,Sem.run,m,g,Result.andThen] at h ⊢;by_cases l:a=c
  .subst l;cases k:es.find? (λx=>x.born==st) with
   | none=>simp [k,unsupported] at h
   | some x =>
    simp_all
  simp_all
theorem MpOk.cp {σ σ':Nat->Option Ow}{w w':World}{base:Nat}{g:MS}(h:MpOk P K E σ base w g)(f:Stp σ w σ' w'):MpOk P K E σ' base w' g:=by
 cases g with
 | no=>trivial
 | mp b n F =>
  obtain ⟨x,q,D,o,p⟩:=h;have j:=o.lt;have G:=f.bo b j q;refine ⟨x,Iv f j q,D,?_,p⟩;obtain ⟨y,a,m,d⟩:=o;exact ⟨y,a,G.trans m,d⟩
 | rg b r F left wM cur =>
  obtain ⟨x,q,o,p,n,D,B,t,M,L,J⟩:=h;have l:=t.owns.lt;have k:=t.lt;have A:=f.bo b l o;have z:=f.bo r k p;obtain ⟨y,a,e,i,N,m,O,C,I,s,d⟩:=t;exact ⟨x,q,Iv f l o,Iv f k p,n,D,B,⟨y,a,e,i,N,A.trans m,O,C,I,z.trans s,d⟩,M,L,λu v c H=>Rg s m (z.trans s) (A.trans m) (J u v c H)⟩
theorem MpOk.fk {σ:Nat->Option Ow}{w:World}{base a:Nat}{g:MS}(h:MpOk P K E σ base w g)(c:a<=base):MpOk P K E σ a w g:=by
 cases g with
 | no=>trivial
 | mp b n F=>exact ⟨eI c h.1,h.2⟩
 | rg b r F left wM cur=>exact ⟨eI c h.1,eI c h.2.1,h.2.2⟩
theorem Vz {w:World}{b:Nat}{es:Array MapEntry}{clock:Nat}(hb:w.heap[b]?=some (.map es clock)):∀ ad:Addr,ad.block=b->w.cell? ad=none:=λad e=>by simp [World.cell?,e,hb]
theorem TW {w:World}{r:Nat}{m:Option Nat}{s c:Nat}{seen:Array Nat}(hr:w.heap[r]?=some (.mapIter m s seen c)):∀ ad:Addr,ad.block=r->w.cell? ad=none:=λad e=>by simp [World.cell?,e,hr]
theorem Rel.aw {d:Nat->Prop}{H:AHeap}{σ:Nat->Option Ow}{w w':World}{row:Option Nat}(h:Rel d H σ w)(j:w.grownBy w' row)(q:∀ b,row=some b->Re σ b/\∀ ad:Addr,ad.block=b->w.cell? ad=none) :
  Rel d H σ w'/\Keeps (dD d H σ) σ H.H w (dD d H σ) σ H.H w':=by
 have r:Keeps (dD d H σ) σ H.H w (dD d H σ) σ H.H w':=⟨λad u v g=>⟨v,by
  have n:some ad.block≠row:=λe=>by rw [(q _ e.symm).2 ad rfl] at g;cases g
  exact (World.cell?_of_block (j.block ad.block (World.block_lt_of_cell? w ad g) n)).trans g⟩,λm t _ h=>⟨t,h,.inl rfl⟩,λ_ h=>h⟩
 refine ⟨⟨h.bn,h.bp,λm k p=>?_,h.inj,λi o c f a=>⟨b4 (h.lt i o c f a).1 j.size,(h.lt i o c f a).2⟩,λc a=>b4 (h.m0 c a) j.size⟩,r⟩;obtain ⟨o,f,l⟩:=h.ak m k p;obtain ⟨s,A,z,y⟩:=l.row;refine ⟨o,f,l.ai,l.ty,l.Z,l.J,s,A.kept j ?_,z,y.u r⟩;cases x:o.val.ownBlock with
 | none=>exact .inl rfl
 | some c=>exact .inr λe=>(q c e.symm).1 m o f x
theorem Stp.aw {σ0 σ:Nat->Option Ow}{w0 w w':World}{row:Option Nat}(h:Stp σ0 w0 σ w)(hg:w.grownBy w' row)(hr:∀ b,row=some b->w0.heap.size<=b):Stp σ0 w0 σ w' :=
 ⟨hg.os.trans h.os,hg.tape.trans h.tape,hg.output.trans h.output,eI h.size hg.size,λb hb hn=>(hg.block b (b4 hb h.size) (λe=>by have:=hr b e.symm;omega)).trans (h.bo b hb hn),h.new⟩
structure SG (P:Program) (K E:TypeId) (n:Nat) (M0:Nat->Prop) (H0:AHeap) (σ0:Nat->Option Ow) (w0:World) (g:MS) (e:d7) (H:AHeap) (σ:Nat->Option Ow) (a:Act) (w:World):Prop where
 st:St n M0 H σ w e a
 cp:Stp σ0 w0 σ w
 u:Keeps (dD M0 H0 σ0) σ0 H0.H w0 (dD M0 H σ) σ H.H w
 map:MpOk P K E σ w0.heap.size w g
section
variable {n:Nat} {M0:Nat→Prop} {H0 H:AHeap} {σ0 σ:Nat→Option Ow} {w0 w w':World} {g g':MS} {e:d7} {a:Act}
theorem SG.aw {row:Option Nat}(h:SG P K E n M0 H0 σ0 w0 g e H σ a w)(j:w.grownBy w' row)(i:∀ b,row=some b->w0.heap.size<=b/\Re σ b/\∀ ad:Addr,ad.block=b->w.cell? ad=none)
  (o:MpOk P K E σ w0.heap.size w' g') {c:Option Tmp} (m:sM n c=true) {v:Value} {d:D} (l:RepV (dD M0 H σ) σ H.H w' v d):SG P K E n M0 H0 σ0 w0 g' (pE e c d) H σ (a.put c v) w':=by
 obtain ⟨p,k⟩:=h.st.bl.aw j λb f=>(i b f).2;exact ⟨h.st.put p k m l,h.cp.aw j λb f=>(i b f).1,h.u.trans k,o⟩
def PZ (P:Program)(K E:TypeId)(n:Nat)(M0:Nat->Prop)(H0:AHeap)(σ0:Nat->Option Ow)(w0:World)(X:MS->d7->AHeap->Prop)(a:Act)(w:World):Prop:=∃ g e H σ,X g e H/\SG P K E n M0 H0 σ0 w0 g e H σ a w
end
abbrev PG:=Exit->MS->d7->AHeap->Prop
def WpG (P:Program)(K E:TypeId)(n:Nat)(x:Code)(Q:PG)(g:MS)(e:d7)(H:AHeap):Prop :=
 ∀ M0 H0 σ0 w0 σ a w,SG P K E n M0 H0 σ0 w0 g e H σ a w->x.wp P (λex a w=>PZ P K E n M0 H0 σ0 w0 (Q ex) a w) a w
def Ks (R:MS->d7->AHeap->Prop)(Q:PG):PG
 | .normal,g,e,H=>R g e H
 | ex,g,e,H=>Q ex g e H
def M8 (id:Nat)(Q:PG):PG
 | .exit id',g,e,H=>if id'=id then Q .normal g e H else Q (.exit id') g e H
 | ex,g,e,H=>Q ex g e H
variable {n:Nat} {c:Cfg} {Q:PG} {g:MS} {e:d7} {H:AHeap}
theorem iC {x:Code}(hm:P.follows .mixedOrders=true)(hok:qW c n x=true)(h:p7 P c x (λex e H=>Q ex g e H) e H):WpG P K E n x Q g e H :=
 λM0 H0 σ0 w0 σ a w hS=>jI (pY hm x _ e H h hok σ w a hS.st) λex a' w' ⟨e',H',σ',hq,hS',hst',hk'⟩=>⟨g,e',H',σ',hq,hS',hS.cp.trans hst',hS.u.trans hk',hS.map.cp hst'⟩
theorem WpG.seq {x y:Code}(h:WpG P K E n x (Ks (WpG P K E n y Q) Q) g e H):WpG P K E n (.seq x y) Q g e H:=λM0 H0 σ0 w0 σ a w hS=>by
 refine wp_seq (jI (h M0 H0 σ0 w0 σ a w hS) λex a' w' hc=>?_);cases ex<;>first|exact hc|skip
 obtain ⟨g',e',H',σ',hq,hS'⟩:=hc;exact hq M0 H0 σ0 w0 σ' a' w' hS'
theorem dY {x y:Code}(h:∀ R:MS->d7->AHeap->Prop,(∀ g e H,WpG P K E n y Q g e H->R g e H)->WpG P K E n x (Ks R Q) g e H):WpG P K E n (.seq x y) Q g e H:=.seq (h _ λ_ _ _ h=>h)
@[go_sem] theorem Wk {R:MS->d7->AHeap->Prop}{g:MS}{e:d7}{H:AHeap}:Ks R Q .normal g e H=R g e H:=rfl
@[go_sem] theorem ZB {R:MS->d7->AHeap->Prop}{g:MS}{e:d7}{H:AHeap}:Ks R Q .ret g e H=Q .ret g e H:=rfl
@[go_sem] theorem X7 {R:MS->d7->AHeap->Prop}{g:MS}{e:d7}{H:AHeap}{i:Nat}:Ks R Q (.exit i) g e H=Q (.exit i) g e H:=rfl
@[go_sem] theorem Zq {i:Nat}{g:MS}{e:d7}{H:AHeap}:M8 i Q .ret g e H=Q .ret g e H:=rfl
@[go_sem] theorem V6 {i:Nat}{g:MS}{e:d7}{H:AHeap}:M8 i Q .normal g e H=Q .normal g e H:=rfl
@[go_sem] theorem XQ {i j:Nat}{g:MS}{e:d7}{H:AHeap}:M8 i Q (.exit j) g e H=if j=i then Q .normal g e H else Q (.exit j) g e H:=rfl
theorem WpG.cond {x:Operand}{y z:Code}{t:Bool}(hx:fG e x=.bool t)(h1:t=true->WpG P K E n y Q g e H)(h2:t=false->WpG P K E n z Q g e H):WpG P K E n (.cond x y z) Q g e H:=λM0 H0 σ0 w0 σ a w hS=>by
 have hv:=hS.st.bs.ev x;rw [hx] at hv;have hc:a.eval x=.bool t:=by generalize a.eval x=v at hv;cases hv;rfl
 exact wp_cond_split hc (λht=>h1 ht M0 H0 σ0 w0 σ a w hS) λht=>h2 ht M0 H0 σ0 w0 σ a w hS
theorem WpG.block {id:Nat}{b:Code}(h:WpG P K E n b (M8 id Q) g e H):WpG P K E n (.block id b) Q g e H:=λM0 H0 σ0 w0 σ a w hS=>by
 refine wp_block (jI (h M0 H0 σ0 w0 σ a w hS) λex a' w' hc=>?_);cases ex<;>first|exact hc|skip
 rename_i id';obtain ⟨g',e',H',σ',hq,hS'⟩:=hc;by_cases hid:id'=id
 .subst hid;show (if id'=id' then PZ P K E n M0 H0 σ0 w0 (Q .normal) a' w' else _);rw [if_pos rfl];refine ⟨g',e',H',σ',?_,hS'⟩;have h':(if id'=id' then Q .normal g' e' H' else Q (.exit id') g' e' H'):=hq;rw [if_pos rfl] at h';exact h'
 .show (if id'=id then PZ P K E n M0 H0 σ0 w0 (Q .normal) a' w' else PZ P K E n M0 H0 σ0 w0 (Q (.exit id')) a' w');rw [if_neg hid];refine ⟨g',e',H',σ',?_,hS'⟩;have h':(if id'=id then Q .normal g' e' H' else Q (.exit id') g' e' H'):=hq;rw [if_neg hid] at h';exact h'
theorem WpG.loop {b:Code}{ι:Type}(I:ι->MS->d7->AHeap->Prop)(m:ι->Nat)(x0:ι)(h0:I x0 g e H)(hI:∀ x g e H,I x g e H->WpG P K E n b (Ks (λg' e' H'=>∃ x',m x'<m x/\I x' g' e' H') Q) g e H):WpG P K E n (.loop b) Q g e H :=
 λM0 H0 σ0 w0 σ a w hS=>by
 let J:Nat->Act->World->Prop:=λk a' w'=>∃ g e H σ x,m x=k/\I x g e H/\SG P K E n M0 H0 σ0 w0 g e H σ a' w'
 have hJ0:J (m x0) a w:=⟨g,e,H,σ,x0,rfl,h0,hS⟩
 classical
 let μ:Act->World->Nat:=λa' w'=>if hx:∃ k,J k a' w' then Classical.choose (gU hx) else 0
 refine wp_loop (λa' w'=>∃ k,J k a' w') μ ⟨_,hJ0⟩ λa' w' hx=>?_;have hμ:μ a' w'=Classical.choose (gU hx):=by simp only [μ,dif_pos hx]
 obtain ⟨g1,e1,H1,σ1,x1,hx1,hi,hS1⟩:=(Ac (gU hx)).1;refine jI (hI x1 g1 e1 H1 hi M0 H0 σ0 w0 σ1 a' w' hS1) λex a'' w'' hc=>?_;cases ex<;>first|exact hc|skip
 obtain ⟨g2,e2,H2,σ2,⟨x2,hlt,hi2⟩,hS2⟩:=hc;have hx2:∃ k,J k a'' w'':=⟨m x2,g2,e2,H2,σ2,x2,rfl,hi2,hS2⟩;refine ⟨hx2,?_⟩;have:μ a'' w''=Classical.choose (gU hx2):=by simp only [μ,dif_pos hx2]
 rw [this,hμ];refine Nat.lt_of_le_of_lt ?_ (hx1 ▸ hlt);rcases bT (m x2) (Classical.choose (gU hx2)) with hlt'|hge
 .exact absurd ⟨g2,e2,H2,σ2,x2,rfl,hi2,hS2⟩ ((Ac (gU hx2)).2 _ hlt')
 .exact hge
theorem WpG.ret (h:Q .ret g e H):WpG P K E n .ret Q g e H:=λM0 H0 σ0 w0 σ a w hS=>wp_ret ⟨g,e,H,σ,h,hS⟩
theorem WpG.skip (h:Q .normal g e H):WpG P K E n .skip Q g e H:=λM0 H0 σ0 w0 σ a w hS=>wp_skip ⟨g,e,H,σ,h,hS⟩
theorem WpG.exit {id:Nat}(h:Q (.exit id) g e H):WpG P K E n (.exit id) Q g e H:=λM0 H0 σ0 w0 σ a w hS=>wp_exit ⟨g,e,H,σ,h,hS⟩
/-! ### operations -/
def OpsG (P:Program)(K E:TypeId)(n:Nat)(ops:Array Oper)(l:List Oper)(X:MS->d7->AHeap->Prop)(g:MS)(e:d7)(H:AHeap):Prop :=
 ∀ M0 H0 σ0 w0 σ a w (Q:Exit->Act->World->Prop),SG P K E n M0 H0 σ0 w0 g e H σ a w->(∀ a' w',PZ P K E n M0 H0 σ0 w0 X a' w'->Q .normal a' w')->wpList P ops Q l a w
theorem WpG.region {id:Nat}{ops:Array Oper}(h:OpsG P K E n ops ops.toList (Q .normal) g e H):WpG P K E n (.region id ops false) Q g e H:=λM0 H0 σ0 w0 σ a w hS=>wp_region_list (h M0 H0 σ0 w0 σ a w _ hS λ_ _ hc=>hc)
variable {ops:Array Oper} {l:List Oper} {o:Oper} {X:MS→d7→AHeap→Prop}
theorem OpsG.nil (h:X g e H):OpsG P K E n ops [] X g e H:=λM0 H0 σ0 w0 σ a w Q hS hQ=>wpList_nil (hQ a w ⟨g,e,H,σ,h,hS⟩)
theorem OpsG.dq {md:Nat->Bool}:∀ (l1:List Oper) {l2:List Oper} {e:d7} {H:AHeap},(∀ o∈l1,sM n o.dst=true)->oO P md ops l1 e H (λe' H'=>OpsG P K E n ops l2 X g e' H')->OpsG P K E n ops (l1++l2) X g e H
 | [],l2,e,H,hd,h=>h
 | o :: l1,l2,e,H,hd,h=>λM0 H0 σ0 w0 σ a w Q hS hQ=>by
  unfold oO at h;have hs:=A8 (Q:=Q) h hS.st (λhn=>pZ _ (hS.st.bl.bp _ hn)) (hd o eG);have:=StepC.mono (K':=wpList P ops Q (l1++l2)) (λa' w' ⟨v,H',F,σ',hk,hS',hst,hkp⟩ =>
   OpsG.dq l1 (λo' ho'=>hd o' (by simp [ho'])) hk M0 H0 σ0 w0 σ' a' w' Q ⟨hS',hS.cp.trans hst,hS.u.trans hkp,hS.map.cp hst⟩ hQ) hs
  unfold StepC at this;show wpList P ops Q (o :: (l1++l2)) a w;unfold wpList;exact this
theorem OpsG.take {md:Nat->Bool}(k:Nat)(b:((l.take k).all λo=>sM n o.dst)=true)(h:∀ R:d7->AHeap->Prop,(∀ e' H',OpsG P K E n ops (l.drop k) X g e' H'->R e' H')->oO P md ops (l.take k) e H R):OpsG P K E n ops l X g e H:=by
 have:=OpsG.dq (g:=g) (X:=X) (P:=P) (K:=K) (E:=E) (n:=n) (ops:=ops) (md:=md) (l.take k) (l2:=l.drop k) (λo a=>(b6.1 b) o a) (h _ λ_ _ h=>h);simp_all
theorem OpsG.all {md:Nat->Bool}(b:(l.all λo=>sM n o.dst)=true)(h:∀ R:d7->AHeap->Prop,(∀ e' H',X g e' H'->R e' H')->oO P md ops l e H R):OpsG P K E n ops l X g e H:=by
 have:=OpsG.dq (g:=g) (X:=X) (P:=P) (K:=K) (E:=E) (n:=n) (ops:=ops) (md:=md) l (l2:=[]) (λo a=>(b6.1 b) o a) (h _ λ_ _ h=>OpsG.nil h);grind
theorem IE {d:Nat->Prop}{σ:Nat->Option Ow}{w:World}{a:Act}(c:St n d H σ w e a){m:Operand}{v:Value}(b:fG e m=.cst v):a.eval m=v:=by
 have h:=c.bs.ev m;rw [b] at h;generalize a.eval m=x at h;cases h;rfl
theorem Sw {k:Nat->Prop}{σ:Nat->Option Ow}{w:World}{a:Act}(g:St n k H σ w e a){x:Operand}{u v:Int}(d:fG e x=.agg [.int .i64 u,.int .i64 v]):a.eval x=kv u v:=by
 have h:=g.bs.ev x;rw [d] at h;generalize a.eval x=y at h;cases h
 rename_i c f l b;match c,f with
 | [p,q],_ =>
  have j:=b 0 p _ rfl rfl;have i:=b 1 q _ rfl rfl;cases j;cases i;rfl
theorem Zb {d:Nat->Prop}{σ:Nat->Option Ow}{w:World}{a:Act}(c:St n d H σ w e a){x:Operand}{k:IntKind}{u:Int}(b:fG e x=.int k u):a.eval x=.int k u:=by
 have h:=c.bs.ev x;rw [b] at h;generalize a.eval x=y at h;cases h;rfl
theorem NZ {M:Nat->Prop}{σ:Nat->Option Ow}{N:Nat->Prop}{w:World}(u v:Int):RepV M σ N w (kv u v) (.agg [.int .i64 u,.int .i64 v]) :=
 .agg [.int .i64 u,.int .i64 v] _ rfl (by simp [Value.oneCell']) λj x d hx hd=>by
  match j with
  | 0=>simp at hx hd;subst hx;subst hd;exact .int _ _
  | 1=>simp at hx hd;subst hx;subst hd;exact .int _ _
  | j+2=>simp at hx
theorem GI {M:Nat->Prop}{σ:Nat->Option Ow}{N:Nat->Prop}{w:World}{vs:List Value}{ds:Xa2}(hl:vs.length=ds.length)(hr:∀ (j:Nat) (u:Value) (d:D),vs[j]?=some u->ds[j]?=some d->RepV M σ N w u d):RepV M σ N w (.tuple vs.toArray) (.tup ds):=.tup _ _ hl hr
theorem OpsG.make (hT:MapT P T K E){t:TypeId}(hop:o.op=.makeMap t none)(hg:o.guard=none)(hd:sM n o.dst=true)(h:∀ b,OpsG P K E n ops l X (.mp b 0 λ_ _=>none) (pE e o.dst (.cst (.map (some b)))) H):OpsG P K E n ops (o :: l) X .no e H :=
 λM0 H0 σ0 w0 σ a w Q hS hQ=>by
 refine wpList_plain hg λK' hK'=>?_;unfold Oper.wp;simp only [execOp,hop,RowKit.run_makeMap,Option.map_none,Sem.run_bind,Sem.run_pure,Result.andThen,Oper.upon_value];refine hK' _ _ (h w.heap.size M0 H0 σ0 w0 σ _ _ Q (hS.aw (g':=.mp w.heap.size 0 λ_ _=>none) (World.grownBy_alloc w _ none) eG ⟨hS.cp.size,λi o ho hb=>?_,_,World.ownsMap_made w P K _,λu v _ _=>⟨rfl,by simp⟩⟩ hd (.cst _)) hQ);have:=(hS.st.bl.lt i o _ ho hb).1;omega
theorem T9 (hT:MapT P T K E){t:TypeId}(ht:t=T){m x:Operand}(hop:o.op=.lookup t m x true)(hg:o.guard=none)(hd:sM n o.dst=true){b k:Nat}{F:FM}(hm:fG e m=.cst (.map (some b))){u v:Int}(hx:fG e x=.agg [.int .i64 u,.int .i64 v])(hu:Ed u)(hv:Ed v)
  (h:OpsG P K E n ops l X (.mp b k F) (pE e o.dst (.tup [.int .i64 ((F u v).getD 0),.bool (F u v).isSome])) H):OpsG P K E n ops (o :: l) X (.mp b k F) e H :=
 λM0 H0 σ0 w0 σ a w Q hS hQ=>by
 subst ht;obtain ⟨m1,m2,D,m3,m4⟩:=hS.map;obtain ⟨r1,r2⟩:=m4 u v hu hv;refine wpList_lookup_own_ok w hg m x t hop K E hT.dg hT.t _ (hT.z w) (.lit (.int .i64 0)) [] (plainElem_int hT.e (MK ⟨bZ,bZ⟩)) b k D (IE hS.st hm) m3 (kv u v) (kl u v) (Sw hS.st hx) (hT.dh u v hu hv) λy ps hy=>?_;obtain ⟨c,rfl,hc,_⟩:=plainElem_int_inv hT.e hy;have hcv:c=(F u v).getD 0:=by
  simp only [Prod.mk.injEq] at hc;cases hF:F u v with
  | none =>
   rw [hF] at r1;have:=Maps.atKey_of_not_has r1 (.lit (.int .i64 0));rw [this] at hc;have:=hc.1;simp at this;simp [this]
  | some c' =>
   have:=r2 c' hF (.lit (.int .i64 0));rw [this] at hc;have:=hc.1;simp at this;simp [this]
 subst hcv;rw [r1];refine h M0 H0 σ0 w0 σ _ _ Q (hS.aw (row:=none) ⟨rfl,rfl,rfl,bD _,λ_ _ _=>rfl⟩ eG hS.map hd (GI (vs:=[_,_]) rfl λj y d hy hd=>?_)) hQ;match j with
 | 0=>simp at hy hd;subst hy;subst hd;exact .int _ _
 | 1=>simp at hy hd;subst hy;subst hd;exact .bool _
 | j+2=>simp at hy
theorem OpsG.store (hT:MapT P T K E){t:TypeId}(ht:t=T){m x y:Operand}(hop:o.op=.mapUpdate t m x y)(hg:o.guard=none)(hd:sM n o.dst=true){b k:Nat}{F:FM}(hm:fG e m=.cst (.map (some b))){u v c:Int}(hx:fG e x=.agg [.int .i64 u,.int .i64 v])(hy:fG e y=.int .i64 c)(hu:Ed u)(hv:Ed v)(hc:Ed c)(hk:k<1000000)
  (h:OpsG P K E n ops l X (.mp b (k+1) (L6 F u v c)) (pE e o.dst .junk) H):OpsG P K E n ops (o :: l) X (.mp b k F) e H :=
 λM0 H0 σ0 w0 σ a w Q hS hQ=>by
 subst ht;obtain ⟨m1,m2,D,m3,m4⟩:=hS.map;have hcm:∀ ad:Addr,ad.block=b->w.cell? ad=none:=by obtain ⟨es,clock,hb,_⟩:=m3;exact Vz hb
 refine wpList_mapUpdate_own w hg m x y t hop K E hT.dg hT.t _ b k D (IE hS.st hm) m3 (by simp only [maxLen];omega) (kv u v) (.int .i64 c) (kl u v) (Sw hS.st hx) (Zb hS.st hy) (hT.dh u v hu hv) (.lit (.int .i64 c)) [] (plainElem_int hT.e (MK hc)) λw' hw1 hw2=>?_;refine h M0 H0 σ0 w0 σ _ _ Q (hS.aw (g':=.mp b (k+1) (L6 F u v c)) hw2 (λb' hb'=>by cases hb';exact ⟨m1,m2,hcm⟩) ⟨m1,m2,_,hw1,λu' v' hu' hv'=>?_⟩ hd (.junk _)) hQ;unfold L6;by_cases he:u'=u/\v'=v
 .obtain ⟨rfl,rfl⟩:=he;rw [if_pos ⟨rfl,rfl⟩];have hkl:=hT.dg.key (hT.dh u' v' hu' hv');exact ⟨Maps.has_put_same m3.isMap hkl _,λc' hc' z=>by cases hc';exact Maps.atKey_put_same m3.isMap hkl _ _⟩
 .rw [if_neg he];have hne:kl u' v'≠kl u v:=λe'=>he (hT.inj hu' hv' hu hv e');obtain ⟨r1,r2⟩:=m4 u' v' hu' hv';exact ⟨(Maps.has_put_other hne _).trans r1,λc' hc' z=>(Maps.atKey_put_other hne _ _).trans (r2 c' hc' z)⟩
theorem OpsG.range (hT:MapT P T K E){t:TypeId}(ht:t=T){m:Operand}(hop:o.op=.range t m)(hg:o.guard=none)(hd:sM n o.dst=true){b k:Nat}{F:FM}(hm:fG e m=.cst (.map (some b)))
  (h:∀ r wM,OpsG P K E n ops l X (.rg b r F (λu v=>(F u v).isSome) wM none) (pE e o.dst (.cst (FK r))) H):OpsG P K E n ops (o :: l) X (.mp b k F) e H :=
 λM0 H0 σ0 w0 σ a w Q hS hQ=>by
 subst ht;obtain ⟨m1,m2,D,m3,m4⟩:=hS.map;refine wpList_range_own w hg m t hop K E hT.dg hT.t _ b k D (IE hS.st hm) m3 λw' hw1 hw2 hw3=>?_;refine h w.heap.size (Maps.size D) M0 H0 σ0 w0 σ _ _ Q (hS.aw (g':=.rg b w.heap.size F (λu v=>(F u v).isSome) (Maps.size D) none) hw2 eG ⟨m1,hS.cp.size,m2,λi o ho hb=>?_,k,D,_,hw1,m4,λu v hu hv=>(m4 u v hu hv).1,by simp⟩ hd (.cst _)) hQ;have:=(hS.st.bl.lt i o _ ho hb).1;omega
theorem OpsG.next (hT:MapT P T K E){it:Operand}(hop:o.op=.next it false)(hg:o.guard=none)(hd:sM n o.dst=true){b r wM:Nat}{F:FM}{left:Int->Int->Bool}{cur:Option (Int × Int × Int)}(hit:fG e it=.cst (FK r))
  (h1:(∀ u v,Ed u->Ed v->left u v=false)->OpsG P K E n ops l X (.rg b r F left wM cur) (pE e o.dst (.tup [.bool false])) H)
  (h2:∀ u v c cnt',Ed u->Ed v->left u v=true->F u v=some c->cnt'<wM->OpsG P K E n ops l X (.rg b r F (λu' v'=>left u' v'&&!decide (u'=u/\v'=v)) cnt' (some (u,v,c))) (pE e o.dst (.tup [.bool true,.agg [.int .i64 u,.int .i64 v],.int .i64 c])) H) :
  OpsG P K E n ops (o :: l) X (.rg b r F left wM cur) e H :=
 λM0 H0 σ0 w0 σ a w Q hS hQ=>by
 obtain ⟨m1,m2,m3,m4,k,D,lf,m5,m6,m7,m8⟩:=hS.map;have hcm:∀ ad:Addr,ad.block=r->w.cell? ad=none:=by obtain ⟨es,clock,since,seen,c0,hb,F',hn,hD,hr,_⟩:=m5;exact TW hr
 refine wpList_next_ranges w hg it hop K hT.dg (plainElem P E) (λp:Int × Int=>kv p.1 p.2) (Value.int .i64) (λkey l hkey=>?_) (λv y hv=>?_) b r k D lf wM (IE hS.st hit) m5 (λhc hl=>?_) λx c l' y w' cnt' hkey hlk hv hat hrg hlt hgr hsz hen=>?_
 .obtain ⟨u,v,_,_,rfl⟩:=hT.fq key l hkey;exact ⟨(u,v),rfl⟩
 .obtain ⟨c,rfl,_⟩:=plainElem_int_inv hT.e hv;exact ⟨c,rfl⟩
 .refine h1 (λu v hu hv=>by rw [<- m7 u v hu hv];exact hl _) M0 H0 σ0 w0 σ _ _ Q (hS.aw (row:=none) ⟨rfl,rfl,rfl,bD _,λ_ _ _=>rfl⟩ eG hS.map hd (GI (vs:=[_]) rfl λj y d hy hd=>?_)) hQ;match j with
  | 0=>simp at hy hd;subst hy;subst hd;exact .bool _
  | j+1=>simp at hy
 .obtain ⟨u,v⟩:=x;simp only at hkey hen;obtain ⟨u',v',hu,hv',he⟩:=hT.fq _ _ hkey;simp only [kv,Value.agg.injEq,Array.mk.injEq,List.cons.injEq,Value.int.injEq,true_and,and_true] at he;obtain ⟨rfl,rfl⟩:=he;rw [hT.dh u v hu hv'] at hkey;cases hkey
  obtain ⟨c',ec,rfl,hwc⟩:=plainElem_int_inv hT.e hv;cases ec
  have hhas:=Maps.has_true_of_atKey hat
  obtain ⟨r1,r2⟩:=m6 u v hu hv';rw [hhas] at r1;obtain ⟨c2,hc2⟩:=lT.1 r1.symm;have hcc:c2=c:=by
   have e1:=r2 c2 hc2 .nil;rw [hat .nil] at e1;simp at e1;exact e1.symm
  subst hcc;refine h2 u v c2 cnt' hu hv' (by rw [<- m7 u v hu hv'];exact hlk) hc2 hlt M0 H0 σ0 w0 σ _ _ Q (hS.aw (g':=.rg b r F (λu' v'=>left u' v'&&!decide (u'=u/\v'=v)) cnt' (some (u,v,c2))) hgr (λb' hb'=>by cases hb';exact ⟨m2,m4,hcm⟩) ⟨m1,m2,m3,m4,k,D,_,hrg,m6,λa1 a2 ha1 ha2=>?_,λa1 a2 a3 ha=>?_⟩ hd (GI (vs:=[_,_,_]) rfl λj y d hy hd=>?_)) hQ
  .rw [m7 a1 a2 ha1 ha2];congr 2;rw [aU];constructor
   .intro h;exact decide_eq_true (hT.inj ha1 ha2 hu hv' (WideAt.sameKey_eq h))
   .intro h;obtain ⟨rfl,rfl⟩:=of_decide_eq_true h;exact WideAt.sameKey_self (hT.dg.key (hT.dh _ _ hu hv'))
  .cases ha;exact hen
  .match j with
   | 0=>simp at hy hd;subst hy;subst hd;exact .bool _
   | 1=>simp at hy hd;subst hy;subst hd;exact NZ _ _
   | 2=>simp at hy hd;subst hy;subst hd;exact .int _ _
   | j+3=>simp at hy
theorem OpsG.entry {it:Operand}(hop:o.op=.entry it)(hg:o.guard=none)(hd:sM n o.dst=true){b r wM:Nat}{F:FM}{left:Int->Int->Bool}{u v c:Int}(hit:fG e it=.cst (FK r))
  (h:OpsG P K E n ops l X (.rg b r F left wM (some (u,v,c))) (pE e o.dst (.tup [.agg [.int .i64 u,.int .i64 v],.int .i64 c])) H):OpsG P K E n ops (o :: l) X (.rg b r F left wM (some (u,v,c))) e H :=
 λM0 H0 σ0 w0 σ a w Q hS hQ=>by
 obtain ⟨m1,m2,m3,m4,k,D,lf,m5,m6,m7,m8⟩:=hS.map;have hrun:=m8 u v c rfl;refine wpList_plain hg λK' hK'=>?_;unfold Oper.wp;have hit':=IE hS.st hit;simp only [execOp,hop,hit',hrun,Sem.run_bind,Sem.run_pure,Result.andThen,Oper.upon_value];refine hK' _ _ (h M0 H0 σ0 w0 σ _ _ Q (hS.aw (row:=none) ⟨rfl,rfl,rfl,bD _,λ_ _ _=>rfl⟩ eG hS.map hd (GI (vs:=[_,_]) rfl λj y d hy hd=>?_)) hQ);match j with
 | 0=>simp at hy hd;subst hy;subst hd;exact NZ _ _
 | 1=>simp at hy hd;subst hy;subst hd;exact .int _ _
 | j+2=>simp at hy
/-! ### calls -/
def GCalls (P:Program)(K E:TypeId)(f:FuncId)(args:Xa2)(H:AHeap)(Q:D->AHeap->MS->Prop):Prop :=
 Wa P f/\∀ (M0:Nat->Prop) (σ:Nat->Option Ow) (w:World) (vals:List Value),Rel M0 H σ w->RepL (dD M0 H σ) σ H.H w vals args ->
  Calls P f vals.toArray w λe w'=>∃ v d H' σ' g,e=.returned v/\Rel M0 H' σ' w'/\RepV (dD M0 H' σ') σ' H'.H w' v d/\Stp σ w σ' w'/\Keeps (dD M0 H σ) σ H.H w (dD M0 H' σ') σ' H'.H w'/\MpOk P K E σ' w.heap.size w' g/\Q d H' g
theorem Ki {f:FuncId}{args:Xa2}{Q:D->AHeap->MS->Prop}{Q':D->AHeap->Prop}(h:GCalls P K E f args H Q)(hq:∀ d H' g,Q d H' g->Q' d H'):ACalls P f args H Q' :=
 ⟨h.1,λM0 σ w vals hR ha=>(h.2 M0 σ w vals hR ha).mono λe w' ⟨v,d,H',σ',g,a,b,c,s,k,_,q⟩=>⟨v,d,H',σ',a,b,c,s,k,hq _ _ _ q⟩⟩
def Ta (P:Program)(rs:List ResultVar)(Q:D->AHeap->MS->Prop):PG:=λex g e H=>S9 P rs (λd H'=>Q d H' g) ex e H
theorem AR {f:FuncId}{fn:Func}{x:Code}{r:List ResultVar}{args:Xa2}{Q:D->AHeap->MS->Prop}(s:P.funcs[f]?=some fn)(t:fn.body=some x)
  (n:(fn.name=="runtime.NumGoroutine")=false) (c:args.length<=fn.ntmps) (h:WpG P K E fn.ntmps x (Ta P r Q) .no (DM args) H) (y:fn.results.toList=r:=by exact Wp):GCalls P K E f args H Q:=by
 subst y;refine ⟨⟨fn,s,n,by simp [t]⟩,λe σ w q F B=>calls_of_wp s t ?_⟩;have C:=Xn F B c;refine jI (h e H σ w σ _ w ⟨C,.refl _ _,.refl _ _ _ _,trivial⟩) λM u a A=>?_;obtain ⟨g,N,p,σ',i,b,m,z,G⟩:=A;have o:D8 P fn.results.toList N p (λl=>Q (G2 l) p g)->u.defers=[]/\∃ v,(results fn u.tmps).run P a=.ok v a /\
   ∃ v2 d H2 σ2 g2,Ending.returned v=.returned v2/\Rel e H2 σ2 a/\RepV (dD e H2 σ2) σ2 H2.H a v2 d/\Stp σ w σ2 a/\Keeps (dD e H σ) σ H.H w (dD e H2 σ2) σ2 H2.H a/\MpOk P K E σ2 w.heap.size a g2/\Q d H2 g2:=by
  intro i;obtain ⟨O,l,L,J,I⟩:=zD b _ _ i;obtain ⟨v,k,j⟩:=Fn (fn:=fn) L J;exact ⟨b.defers,v,k,v,_,p,σ',g,rfl,b.bl,j,m,z,G,I⟩
 cases M<;>first|exact o i|exact i.elim
theorem OpsG.call {f:FuncId}{args:Xa2}{Q:D->AHeap->MS->Prop}(hc:iO e o=some (f,args))(hg:o.guard=none)(hd:sM n o.dst=true)(hA:GCalls P K E f args H Q)(h:∀ d H' g',Q d H' g'->OpsG P K E n ops l X g' (pE e o.dst d) H') :
  OpsG P K E n ops (o :: l) X .no e H:=λM0 H0 σ0 w0 σ a w Q' hS hQ=>by
 refine wpList_plain hg λK' hK'=>?_;obtain ⟨vals,hrun,hrep⟩:=CF (P:=P) (λx _=>hS.st.bs.ev x) hc hA.1;refine B9 (args:=args) hrun ((hA.2 M0 σ w vals hS.st.bl hrep).mono λe' w' ⟨v,d,H',σ',g',he,hR',hv,hst,hk,hM,hq⟩=>?_);exact ⟨v,he,hK' _ _ (h d H' g' hq M0 H0 σ0 w0 σ' _ _ Q' ⟨hS.st.put hR' hk hd hv,hS.cp.trans hst,hS.u.trans hk,hM.fk hS.cp.size⟩ hQ)⟩
end
end Go.Abs
end
section
set_option maxRecDepth 100000
set_option maxHeartbeats 4000000
open Go Go.Proofs Tryz
namespace Go.Abs
abbrev B2:=UInt8 × UInt8
def cP (x:B2):Xa2:=[.int .u8 (x.1.toNat:Int),.int .u8 (x.2.toNat:Int)]
@[go_sem] theorem VA (l:List B2):D.V (l.map cP)=true:=dU _ (λ_=>rfl) l
def tyA:ByteArray:=⟨#[65,66,67,68,69,70]⟩
def tyU:ByteArray:=⟨#[117,118,119,120,121,122]⟩
def tyE:ByteArray:=⟨#[101,102,103,104,105]⟩
def acL (i:Nat)(x:B2):NodeTy :=
 ⟨tyA.extract i (i+1),(x.1.toNat:Int).tmod ((i:Int)+1) - 1,((x.1.toNat:Int) / 16).tmod 4==3,
  if (x.2.toNat:Int).tmod 4=1 then [⟨tyU.extract i (i+1),-3,3+((x.2.toNat:Int) / 4).tmod 9,[]⟩]
  else if (x.2.toNat:Int).tmod 4=2 then [⟨tyU.extract i (i+1),0,1,[⟨#[111,102,102]⟩,⟨#[111,110]⟩]⟩] else []⟩
def WE (ns:List B2)(i:Nat):B2:=ns[i]?.getD (0,0)
def YC (ns:List B2)(n:Nat):List NodeTy:=(List.range n).map λi=>acL i (WE ns i)
def acM (n:Int)(i:Nat)(x:B2):EdgeTy:=⟨tyE.extract i (i+1),(x.1.toNat:Int).tmod n,(x.2.toNat:Int).tmod n,0,-1,0,-1⟩
def YD (n:Int)(es:List B2)(k:Nat):List EdgeTy:=(List.range k).map λi=>acM n i (WE es i)
def Xy (ns:List B2):Nat:=max 1 (min ns.length 6)
def acK (ns es:List B2):Types:=⟨YC ns (Xy ns),YD (Xy ns) es (min es.length 5)⟩
def Attr.fd (x:Attr):Prop:=x.ax<=x.ay/\-1000<=x.ax/\x.ay<=1000
structure Types.fe (t:Types):Prop where
 ok:t.ok
 av:t.av
 fd:∀ a,(∀ x∈bV t a,x.fd)/\(bV t a).length<=8
def zT (t:Types)(i:Nat):Bool:=match t.h[i]? with|some n=>n.d2|none=>false
def DX (t:Types):Xa0:=((List.range t.h.length).filter λi=>!zT t i).map λ(i:Nat)=>(i:Int)
def Xx (b:List Bool):Xa0:=(abQ b).map λ(i:Nat)=>(i:Int)
def afQ (xs:Xa0)(i j:Nat):Xa0:=(xs.set i (xs[j]?.getD 0)).set j (xs[i]?.getD 0)
def cU (x:UInt8):Xa2:=[.int .u8 (x.toNat:Int)]
@[go_sem] theorem Rz (l:List UInt8):D.V (l.map cU)=true:=dU _ (λ_=>rfl) l
def aaW (n:Nat)(l:List UInt8)(i:Nat):Nat:=((i:Int)+((l[i]?.getD 0).toNat:Int).tmod ((n:Int) - i)).toNat
def aaV (n:Nat)(l:List UInt8)(xs:Xa0)(i:Nat):Xa0:=afQ xs i (aaW n l i)
def RP (n:Nat)(l:List UInt8):Xa0:=(List.range (min n l.length)).foldl (aaV n l) (qJ n)
def afX (p xs:Xa0)(k:Nat):Xa0:=(List.range k).foldl (λacc i=>acc.set (p[i]?.getD 0).toNat (xs[i]?.getD 0)) xs
def afW (p:Xa0)(x:Edge):Edge:=⟨x.type,p[x.B.toNat]?.getD 0,p[x.O.toNat]?.getD 0⟩
def afZ (p q:Xa0)(es:List Edge)(k:Nat):List Edge:=(List.range k).foldl (λacc i=>acc.set (q[i]?.getD 0).toNat (afW p (es[i]?.getD ⟨0,0,0⟩))) es
def afY (g:Graph)(p q:Xa0):Graph:=if graphF g=0 then ⟨afX p g.h g.h.length,afZ p q g.i g.i.length⟩ else ⟨[],[]⟩
def Yi (a b:Int):Int:=(a.tmod b+b).tmod b
abbrev T4:=Int8 × Int8 × Int8 × Int8
def cT4 (x:T4):Xa2:=[.int .i8 x.1.toInt,.int .i8 x.2.1.toInt,.int .i8 x.2.2.1.toInt,.int .i8 x.2.2.2.toInt]
@[go_sem] theorem SH (l:List T4):D.V (l.map cT4)=true:=dU _ (λ_=>rfl) l
def acO (v:Int)(x:T4):Test:=⟨1+(Yi x.1.toInt 4).tdiv 3,⟨Yi x.2.1.toInt (v+1) - 1,0⟩,⟨Yi x.2.2.1.toInt (v+1) - 1,x.2.2.2.toInt.tmod 12⟩⟩
def agK (g:Graph)(nb eb:List Bool)(k:Nat):List Bool:=(List.range k).foldl (λacc i=>if eb[i]?.getD false=true then (acc.set (g.i[i]?.getD ⟨0,0,0⟩).B.toNat true).set (g.i[i]?.getD ⟨0,0,0⟩).O.toNat true else acc) nb
def Graph.dw (g:Graph):Prop:=∀ x∈g.i,(0<=x.B/\x.B<g.h.length)/\0<=x.O/\x.O<g.h.length
def agX (k:UInt64)(i:Nat):Bool:=(k.toNat:Int).fdiv (2 ^ (min ((i:Int).tmod 64).toNat 64)) % 2==1
def Zr (k:UInt64)(off n:Nat):List Bool:=(List.range n).map λj=>agX k (off+j)
def acN (g:Graph)(k:UInt64):Part:=⟨Xx (agK g (Zr k 0 g.h.length) (Zr k g.h.length g.i.length) g.i.length),Xx (Zr k g.h.length g.i.length)⟩
def Zv (t:Types)(ns:Xa0)(k:Int)(i:Nat):Bool:=mem (t.ao (ns[i]?.getD 0).toNat) k
def Ng (t:Types)(ns:Xa0)(k:Int):Xa0:=((List.range ns.length).filter (Zv t ns k)).map λ(i:Nat)=>(i:Int)
abbrev B3:=UInt8 × UInt8 × UInt8
def V4 (x:B3):Xa2:=[.int .u8 (x.1.toNat:Int),.int .u8 (x.2.1.toNat:Int),.int .u8 (x.2.2.toNat:Int)]
@[go_sem] theorem D2 (l:List B3):D.V (l.map V4)=true:=dU _ (λ_=>rfl) l
structure Dr5 where
 h:List UInt8
 i:List B3
def Dr5.c (d:Dr5):Xa2:=[.list (d.h.map cU),.list (d.i.map V4)]
@[go_sem] theorem Dr5.W (d:Dr5):D.N d.c=true:=by simp [Dr5.c,D.N,D.W,Rz,D2]
def acP (n:Nat)(ds:List UInt8)(k:Nat):Xa0:=(List.range k).map λi=>((ds[i]?.getD 0).toNat:Int).tmod n
def We (t:Types)(k:Int):EdgeTy:=t.i[k.toNat]?.getD ⟨⟨#[]⟩,0,0,0,0,0,0⟩
def R5 (l:Xa0)(b:UInt8):Int:=l[((b.toNat:Int).tmod l.length).toNat]?.getD 0
def agI (t:Types)(ns:Xa0)(x:B3):List Edge :=
 if 0<(Ng t ns (We t ((x.1.toNat:Int).tmod t.i.length)).B).length/\0<(Ng t ns (We t ((x.1.toNat:Int).tmod t.i.length)).O).length then
  [⟨(x.1.toNat:Int).tmod t.i.length,R5 (Ng t ns (We t ((x.1.toNat:Int).tmod t.i.length)).B) x.2.1,R5 (Ng t ns (We t ((x.1.toNat:Int).tmod t.i.length)).O) x.2.2⟩] else []
def agJ (t:Types)(ns:Xa0)(es:List B3)(k:Nat):List Edge:=(List.range k).flatMap λi=>agI t ns (es[i]?.getD (0,0,0))
def AI (t:Types)(d:Dr5):Graph:=⟨acP t.h.length d.h (min d.h.length 8),if t.i.length=0 then [] else agJ t (acP t.h.length d.h (min d.h.length 8)) d.i (min d.i.length 10)⟩
structure Dr21 where
 j:Dr5
 q:List B3
 I:List T4
def Dr21.c (d:Dr21):Xa2:=[.list (d.j.h.map cU),.list (d.j.i.map V4),.list (d.q.map V4),.list (d.I.map cT4)]
@[go_sem] theorem Dr21.W (d:Dr21):D.N d.c=true:=by simp [Dr21.c,D.N,D.W,Rz,D2,SH]
def c2 (x:Nat × Nat):Xa2:=[dI x.1,dI x.2]
def atN (t:Types)(ns:Xa0)(i:Nat):List Attr:=bV t (ns[i]?.getD 0)
def ag1 (t:Types)(ns:Xa0)(i k:Nat):List (Nat × Nat):=(List.range k).map λj=>(i,j)
def ag2 (t:Types)(ns:Xa0)(k:Nat):List (Nat × Nat):=(List.range k).flatMap λi=>ag1 t ns i (atN t ns i).length
def K8 (all:List (Nat × Nat))(b:UInt8):Nat × Nat:=all[((b.toNat:Int).tmod all.length).toNat]?.getD (0,0)
def agG (all:List (Nat × Nat))(st:List Slot × Int)(x:B3):List Slot × Int :=
 if st.2<=(x.2.1.toNat:Int).tmod 5 - 1 then
  if 3<st.2+1 then (st.1++[⟨(K8 all x.1).1,(K8 all x.1).2,⟨0,0⟩⟩],3) else (st.1++[⟨(K8 all x.1).1,(K8 all x.1).2,⟨st.2,0⟩⟩],st.2+1)
 else (st.1++[⟨(K8 all x.1).1,(K8 all x.1).2,⟨(x.2.1.toNat:Int).tmod 5 - 1,(x.2.2.toNat:Int).tmod 5 - 2⟩⟩],st.2)
def agH (all:List (Nat × Nat))(ds:List B3)(k:Nat):List Slot × Int:=(List.range k).foldl (λst i=>agG all st (ds[i]?.getD (0,0,0))) ([],0)
def agF (v:Int)(ts:List T4)(k:Nat):List Test:=(List.range k).map λi=>acO v (ts[i]?.getD (0,0,0,0))
def XY (t:Types)(d:Dr21):List (Nat × Nat):=ag2 t (AI t d.j).h (AI t d.j).h.length
def L5 (t:Types)(d:Dr21):List Slot × Int:=if (XY t d).length=0 then ([],0) else agH (XY t d) d.q (min d.q.length 4)
def UQ (t:Types)(d:Dr21):Pattern:=⟨AI t d.j,(L5 t d).1,(L5 t d).2,agF (L5 t d).2 d.I (min d.I.length 3)⟩
abbrev B4:=UInt8 × UInt8 × UInt8 × UInt8
structure Dr24 where
 left:Dr21
 u:UInt64
 h:List UInt8
 i:List B3
 q:List B3
 plain:Bool
 inj:Bool
 cw:B4
 cu:List UInt8
def Dr24.c (d:Dr24):Xa2:=[.list (d.left.j.h.map cU),.list (d.left.j.i.map V4),.list (d.left.q.map V4),.list (d.left.I.map cT4),.int .u64 (d.u.toNat:Int),.list (d.h.map cU),.list (d.i.map V4),.list (d.q.map V4),.bool d.plain,.bool d.inj,
 .int .u8 (d.cw.1.toNat:Int),.int .u8 (d.cw.2.1.toNat:Int),.int .u8 (d.cw.2.2.1.toNat:Int),.int .u8 (d.cw.2.2.2.toNat:Int),.list (d.cu.map cU)]
@[go_sem] theorem Dr24.W (d:Dr24):D.N d.c=true:=by simp [Dr24.c,D.N,D.W,Rz,D2,SH]
@[go_sem] theorem ad1 (l:List Dr24):D.V (l.map Dr24.c)=true:=dU _ Dr24.W l
def WI (t:Types)(n:Nat)(x:B3):Edge:=⟨(x.1.toNat:Int).tmod t.i.length,(x.2.1.toNat:Int).tmod n,(x.2.2.toNat:Int).tmod n⟩
def nN (ns:Xa0)(a:Int):Int:=ns[a.toNat]?.getD 0
def grN (t:Types)(base:Xa0)(ds:List UInt8)(k:Nat):Xa0:=base++(List.range k).map λi=>R5 (DX t) (ds[i]?.getD 0)
def agS (t:Types)(ns:Xa0)(x:B3):List Edge:=if oR t (WI t ns.length x).type (nN ns (WI t ns.length x).B) (nN ns (WI t ns.length x).O)=true then [WI t ns.length x] else []
def grE (t:Types)(ns:Xa0)(base:List Edge)(es:List B3)(k:Nat):List Edge:=base++(List.range k).flatMap λi=>agS t ns (es[i]?.getD (0,0,0))
def Sn (t:Types)(g:Graph)(d:Dr24):Graph :=
 ⟨grN t g.h d.h (if (DX t).length=0 then 0 else min d.h.length 2),
  grE t (grN t g.h d.h (if (DX t).length=0 then 0 else min d.h.length 2)) g.i d.i (if (grN t g.h d.h (if (DX t).length=0 then 0 else min d.h.length 2)).length=0\/t.i.length=0 then 0 else min d.i.length 2)⟩
def MI (t:Types)(d:Dr24):Part:=acN (UQ t d.left).j d.u
def YG (t:Types)(d:Dr24):Graph:=bG (UQ t d.left).j (MI t d)
def Vb (t:Types)(d:Dr24):Graph:=Sn t (YG t d) d
def QA (t:Types)(d:Dr24):Graph:=afY (Vb t d) (RP (Vb t d).h.length d.cu) (RP (Vb t d).i.length d.cu)
structure Host where
 j:Graph
 k:Yb
def Host.c (h:Host):Xa2:=[dLI h.j.h,.list (h.j.i.map Edge.c),.list (h.k.map cL)]
def Host.d (h:Host):D:=.agg h.c
@[go_sem] theorem Zo (l:Yb):D.V (l.map cL)=true:=dU _ (λa=>by simp [cL,D.N,qU]) l
@[go_sem] theorem Host.W (h:Host):h.d.W=true:=by simp [Host.d,Host.c,D.W,D.N,qU,Zo,pT]
structure Dr15 where
 h:List B2
 i:List B3
def Dr15.c (d:Dr15):Xa2:=[.list (d.h.map cP),.list (d.i.map V4)]
@[go_sem] theorem Dr15.W (d:Dr15):D.N d.c=true:=by simp [Dr15.c,D.N,D.W,VA,D2]
def aaQ (l:List Attr)(b:UInt8)(k:Nat):Int:=match l[k]? with|some a=>a.ax+((b.toNat:Int)+7 * (k:Int)).tmod (a.ay - a.ax+1)|none=>0
def X4 (l:List Attr)(b:UInt8)(k:Nat):Xa0:=(List.range k).map (aaQ l b)
def Q2 (t:Types)(x:B2):Int:=R5 (DX t) x.1
def abO (t:Types)(x:B2):Xa0:=X4 (bV t (Q2 t x)) x.2 (bV t (Q2 t x)).length
def Yy (t:Types)(ds:List B2)(k:Nat):Xa0:=(List.range k).map λi=>Q2 t (WE ds i)
def afP (t:Types)(ds:List B2)(k:Nat):Yb:=(List.range k).map λi=>abO t (WE ds i)
def YE (t:Types)(d:Dr15):Host :=
 ⟨⟨Yy t d.h (if (DX t).length=0 then 0 else min d.h.length 8),
  grE t (Yy t d.h (if (DX t).length=0 then 0 else min d.h.length 8)) [] d.i (if (Yy t d.h (if (DX t).length=0 then 0 else min d.h.length 8)).length=0\/t.i.length=0 then 0 else min d.i.length 10)⟩,
  afP t d.h (if (DX t).length=0 then 0 else min d.h.length 8)⟩
attribute [go_sem] Host.d Host.c
def OW (l:Xa0):Bool:=decide (12<(l.length:Int))
def DH (h:Host):Bool:=fewG h.j&&decide ((h.k.length:Int)<=45)&&!(h.k.any OW)
theorem Ez (h:Host):Pua 24 [h.d] (.bool (DH h)):=by
 refine Tz.p0 func24 rfl λQ j _=>?_;have Y:=wa @Host.d.eq_1 @Host.c.eq_1;refine wo (h:=aB (xA h.j) wl ?_);refine dW (λl=>?_) λl=>?_
 .have b:DH h=false:=by cases f:fewG h.j<;>simp [f] at l<;>simp [DH,f]<;>omega
  exact wv (h:=j _ _ (by simp [go_sem,b]))
 .have hG:fewG h.j=true/\(h.k.length:Int)<=45:=by cases f:fewG h.j<;>simp [f] at l<;>exact ⟨rfl,bZ⟩
  refine wv (h:=bC (λi e H=>(e 1=.adr h.c/\e 3=dI i)/\(i<=h.k.length)/\((h.k.take i).any OW=false)) (λi=>h.k.length - i) 0 ⟨wg,wi,(by rfl)⟩ λu k i e H g=>?_);obtain ⟨p,s,m⟩:=g;have Y:=wa Y p;refine dW (λa=>?_) λa=>?_
  .have Y:=xa2 Y a (aA a) @cL.eq_1;refine dW (λo=>?_) λo=>?_
   .refine wv (h:=?_);have b:DH h=false:=by
     have:h.k.any OW=true:=bF.2 ⟨_,aC a,by unfold OW;simp;omega⟩;unfold DH;rw [this];simp
    exact j _ _ (by simp [go_sem,b])
   .exact wo (h:=wx k (i+1) ⟨wg,wj,(by rw [dZ _ _ _ a,m];unfold OW;simp;omega)⟩)
  .have b:DH h=true:=by have:=pD m a;unfold DH;rw [hG.1,this,decide_eq_true hG.2];rfl
   exact wv (h:=j _ _ (by simp [go_sem,b]))
def gF (t:Types)(g h:Graph):Int:=if (cQ t).2≠0 then (cQ t).2 else if graphF g≠0 then graphF g else if graphF h≠0 then graphF h else if (!nJ t g||!nJ t h)=true then 13 else 0
theorem At (t:Types)(j:t.ok)(g h:Graph):Pua 248 [t.d,g.d,h.d] (dI (gF t g h)):=by
 refine Tz.p0 func248 rfl λQ c Y=>?_;refine wv (h:=aB (nY t j) wl ?_);refine c8 (λb=>?_) λb=>?_
 .exact wv (h:=c _ _ (by simp [go_sem,gF,b]))
 .refine wv (h:=aB (mF g) wl ?_);refine c8 (λe=>?_) λe=>?_
  .exact wv (h:=c _ _ (by simp [go_sem,gF,b,e]))
  .refine wv (h:=aB (mF h) wl ?_);refine c8 (λf=>?_) λf=>?_
   .exact wv (h:=c _ _ (by simp [go_sem,gF,b,e,f]))
   .refine wo (h:=aB (vF t g) wl ?_);refine wo (h:=aG (λi=>vF t h) (λi=>wl) ?_);refine dW (λa=>?_) λa=>?_
    .exact wv (h:=c _ _ (by simp [go_sem,gF,b,e,f];intro i;rcases a with h|h<;>simp_all))
    .exact wv (h:=c _ _ (by simp [go_sem,gF,b,e,f];simpa using a))
def light17 (t:Types)(g h:Graph):Bool:=sV t&&fewG g&&fewG h&&(decide (gF t g h≠0)||(decide ((g.h.length:Int)+g.i.length<=6)&&decide ((h.h.length:Int)<=8)&&decide ((h.i.length:Int)<=12)))
theorem Ol (t:Types)(b:t.ok)(g h:Graph):Pua 224 [t.d,g.d,h.d] (.bool (light17 t g h)):=by
 refine Tz.p0 func224 rfl λQ e _=>?_;have f:sV t=true->fewG g=true->fewG h=true->gF t g h=0->Ue .i64 ((g.h.length:Int)+g.i.length):=λ_ a _ _=>by simp [fewG] at a;exact dK bZ bZ
 have Y:=trivial;refine wo (h:=aB (EA t (λn c=>eI (b.h n c).bL bZ)) wl ?_);refine wo (h:=aG (λa=>xA g) (λa=>wl) ?_);refine wo (h:=aG (λa=>xA h) (λa=>wl) ?_);refine wo (h:=aG (λa=>At t b g h) (λa=>wl) ?_);have Y:=wa Y @light17.eq_1;exact wo (h:=e _ _ wy)
def light21 (t:Types)(p:Pattern)(h:Host):Bool:=fewP p&&DH h&&light17 t p.j h.j
theorem Oh (t:Types)(b:t.ok)(p:Pattern)(h:Host):Pua 131 [t.d,p.d,h.d] (.bool (light21 t p h)):=by
 refine Tz.p0 func131 rfl λQ e _=>?_;have Y:=wa @Host.c.eq_1 @Pattern.c.eq_1;refine wo (h:=aB (w8 p) wl ?_);refine wo (h:=aG (λa=>Ez h) (λa=>wl) ?_);refine wo (h:=aG (λa=>Ol t b p.j h.j) (λa=>wl) ?_);have Y:=wa Y @light21.eq_1;exact wo (h:=e _ _ wy)
end Go.Abs
end
