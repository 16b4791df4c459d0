/- Shuffle and Reorder. · Reorder, and the parts of drafts. · T -/
import Derived.Test.YtbgbahlipnaflaaGreatZvAG
import Derived.Test.YtbgbahlipnaflaaGreatZvAA
import Derived.Test.YtbgbahlipnaflaaGreatZvAK
set_option linter.unusedVariables false
set_option linter.unusedSimpArgs false
section
set_option maxRecDepth 100000
set_option maxHeartbeats 4000000
open Go Go.Proofs Tryz
namespace Go.Abs
def cU (x:UInt8):UN:=[.int .u8 (x.toNat:Int)]
@[go_sem] theorem OV (l:List UInt8):D.R (l.map cU)=true:=d9 _ (λ_=>rfl) l
def PK (n:Nat)(l:List UInt8)(i:Nat):Nat:=((i:Int)+((l[i]?.getD 0).toNat:Int).tmod ((n:Int) - i)).toNat
def Uc (n:Nat)(l:List UInt8)(xs:V2)(i:Nat):V2:=PC xs i (PK n l i)
def AF (n:Nat)(l:List UInt8):V2:=(List.range (min n l.length)).foldl (Uc n l) (f6 n)
def Cw (n:Nat)(xs:V2):Prop:=xs.length=n/\(∀ x∈xs,0<=x/\x<n)/\∀ a b,a<b->b<xs.length->xs[a]?≠xs[b]?
theorem Id {xs:V2}{i j:Nat}(b:i<xs.length)(a:j<xs.length)(k:Nat):(PC xs i j)[k]?=if k=j then xs[i]? else if k=i then xs[j]? else xs[k]?:=by
 unfold PC;grind
theorem Mw {n:Nat}{xs:V2}{i j:Nat}(h:Cw n xs)(q:i<n)(p:j<n):Cw n (PC xs i j):=by
 obtain ⟨o,f,r⟩:=h;have d:i<xs.length:=aD;have c:j<xs.length:=aD;refine ⟨by rw [PB,o],λx g=>?_,λa b m l=>?_⟩
 .obtain ⟨k,e⟩:=List.getElem?_of_mem g;rw [Id d c] at e;split at e
  .exact f x (aL e)
  .split at e
   .exact f x (aL e)
   .exact f x (aL e)
 .rw [PB] at l;rw [Id d c,Id d c];grind
theorem Jl {n a:Nat}(h:a<n):(f6 n)[a]?=some (a:Int):=by
 simp [f6,gJ h]
theorem Fj (n:Nat):Cw n (f6 n):=⟨g9 n,λx hx=>XM hx,λa b hab hb=>by
 rw [g9] at hb;rw [Jl aD,Jl hb];simp;omega⟩
theorem Xl {n:Nat}{l:List UInt8}{i:Nat}(hi:i<n):PK n l i<n:=by
 have:=eM (show 0<=((l[i]?.getD 0).toNat:Int) by omega) (aD:0<(n:Int) - i);unfold PK;omega
theorem Mb (n:Nat)(l:List UInt8):∀ k,k<=n->Cw n ((List.range k).foldl (Uc n l) (f6 n))
 | 0,_=>Fj n
 | k+1,h=>by
  rw [bR,iL];exact Mw (Mb n l k aD) aD (Xl aD)
theorem Is (n:Nat)(l:List UInt8):Cw n (AF n l):=Mb n l _ aD
theorem Cl (n:Nat)(A:n<=100000)(l:List UInt8):Pua 116 [dI n,.list (l.map cU)] (dLI (AF n l)):=by
 refine Tz.pK ⟨λt=>t==5,λ_=>[]⟩ func116 rfl (λQ C=>?_);have Y:=@g9;refine wv (h:=kU (Lw n A) wl ?_);refine wv (h:=bA (λi e H=>∃ a:V2,(e 0=dI n/\e 1=.list (l.map cU)/\e 5=.own 0 n/\e 6=dI i)/\(H.get 0=some ⟨3,1,a.map cI,false⟩)/\(0<H.next)/\(i<=n)/\(i<=l.length)/\(Cw n a)/\(a=(List.range i).foldl (Uc n l) (f6 n))) (λi=>n - i) 0 ⟨(f6 n),wg,eq,wn,wi,wi,(by exact Fj n),(by rfl)⟩ λI w i e H v=>?_);obtain ⟨a,F,o,f,G,B,s,x⟩:=v;have Y:=xa2 Y F o (bS f);refine iY (λm=>?_) λm=>?_
 .have hx1:=lA l[i];have b:=s.1;have z:=eM (aD:0<=(l[i].toNat:Int)) (aD:0<(n:Int) - i);obtain ⟨j,y⟩:∃ j:Nat,(i:Int)+(l[i].toNat:Int).tmod ((n:Int) - i)=(j:Int):=⟨((i:Int)+(l[i].toNat:Int).tmod ((n:Int) - i)).toNat,(Int.toNat_of_nonneg aD).symm⟩;have u:j<n:=aD;have D:PK n l i=j:=by unfold PK;rw [aA m.2,Option.getD_some,y];rfl
  have d:i<a.length:=aD;have c:j<a.length:=aD;have r:a[i]?.getD 0=a[i]:=by rw [aA d];rfl
  have q:a[j]?.getD 0=a[j]:=by rw [aA c];rfl
  have g:(n:Int) - i≠0:=aD;have p:((a.map cI).set i [.int .i64 a[j]])[j]?=some [.int .i64 a[j]]:=by
   rw [dL];by_cases k:i=j
   .subst k;simp [d]
   .rw [if_neg k,aN,aA c];rfl
  have Y:=xa8 Y m p y b (aA m.2) (aA d) (aA c) g @cU.eq_1;exact wp (h:=wx w (i+1) ⟨(PC a i j),wg,(by simp [go_sem,Y,PC,cW,r,q]),wn,wj,wj,(by exact Mw s m.1 u),(by rw [bR,iL,<- x];simp [Uc,D])⟩)
 .have hI:i=min n l.length:=aD;have b:=s.1;have E:AF n l=a:=by rw [x,hI];rfl
  exact wv (h:=C _ _ (by simp [go_sem,Y,E,b]))
def Lk (p xs:V2)(k:Nat):V2:=(List.range k).foldl (λacc i=>acc.set (p[i]?.getD 0).toNat (xs[i]?.getD 0)) xs
def Zl (p:V2)(x:Edge):Edge:=⟨x.type,p[x.w.toNat]?.getD 0,p[x.M.toNat]?.getD 0⟩
def N8 (p q:V2)(es:List Edge)(k:Nat):List Edge:=(List.range k).foldl (λacc i=>acc.set (q[i]?.getD 0).toNat (Zl p (es[i]?.getD ⟨0,0,0⟩))) es
def P0 (g:Graph)(p q:V2):Graph:=if graphF g=0 then ⟨Lk p g.h g.h.length,N8 p q g.i g.i.length⟩ else ⟨[],[]⟩
theorem Mk (p xs:V2)(k:Nat):Lk p xs (k+1)=(Lk p xs k).set (p[k]?.getD 0).toNat (xs[k]?.getD 0):=by simp [Lk,bR]
theorem DA (p xs:V2):∀ k,(Lk p xs k).length=xs.length
 | 0=>rfl
 | k+1=>by rw [Mk,f9,DA p xs k]
theorem Ml (p q:V2)(es:List Edge)(k:Nat):N8 p q es (k+1)=(N8 p q es k).set (q[k]?.getD 0).toNat (Zl p (es[k]?.getD ⟨0,0,0⟩)):=by simp [N8,bR]
theorem DB (p q:V2)(es:List Edge):∀ k,(N8 p q es k).length=es.length
 | 0=>rfl
 | k+1=>by rw [Ml,f9,DB p q es k]
theorem pG (g:Graph)(k:g.h.length<=100000)(l:g.i.length<=100000)(G:AHeap)(Q:D->AHeap->Prop)
  (i:∀ a b H',G.next<=a->G.next<=b->a≠b->a<H'.next->b<H'.next->H'.get a=some ⟨3,1,g.h.map cI,false⟩->H'.get b=some ⟨145,3,g.i.map Edge.c,false⟩->(∀ j,j<G.next->H'.get j=G.get j)->G.next<=H'.next->Q (.agg [.own a g.h.length,.own b g.i.length]) H'):ACalls prog 75 [g.d] G Q:=by
 refine (Tz.cK ⟨λt=>t==2||t==3||t==7,λr=>match r with|1=>[(0,1),(0,2),(0,4),(1,4),(2,4),(3,4),(0,5),(3,5),(4,5),(0,6),(3,6),(4,6)]|_=>[]⟩ func75 rfl ?_);have e:=Sk G.next;have Y:=e;refine wo (h:=?_);exact i _ _ _ (by first|omega|(simp [go_sem]<;>omega)|(simp [go_sem,e]<;>omega)) (by first|omega|(simp [go_sem]<;>omega)|(simp [go_sem,e]<;>omega)) (by first|omega|(simp [go_sem]<;>omega)|(simp [go_sem,e]<;>omega)) (by first|omega|(simp [go_sem]<;>omega)|(simp [go_sem,e]<;>omega)) (by first|omega|(simp [go_sem]<;>omega)|(simp [go_sem,e]<;>omega)) (by simp [go_sem,e]<;>omega) (by simp [go_sem,e]<;>omega) (λj f=>by simp [go_sem,bS f]) (by first|omega|(simp [go_sem]<;>omega)|(simp [go_sem,e]<;>omega))
theorem Lv (g:Graph)(hn:g.h.length<=100000)(he:g.i.length<=100000)(p q:V2)(hp:Cw g.h.length p)(hq:Cw g.i.length q):Pua 117 [g.d,Part.d ⟨p,q⟩] (.tup [(P0 g p q).d,dI (graphF g)]):=by
 obtain ⟨m,V,a5⟩:=hp;obtain ⟨l,U,a2⟩:=hq;refine Tz.pK ⟨λt=>t==4||t==9||t==12,λ_=>[]⟩ func117 rfl (λQ hQ=>?_);have Y:=wa m l;refine wv (h:=aB (lP g) wl ?_);refine dR (λZ=>?_) λZ=>?_
 .exact wv (h:=hQ _ _ (by simp [go_sem,P0,Z]))
 .refine wp (h:=aB (v8 p (by rw [m];exact V) a5) wl ?_);refine wp (h:=aB (v8 q (by rw [l];exact U) a2) wl ?_);refine wp (h:=?_);unfold fT;refine pG g hn he _ _ (λa b R ha hb b8 b7 b5 M L a8 b4=>?_);have c0:(0:Nat)<R.next:=aD;have b9:a≠0:=by simp [go_sem] at ha;omega
  have b6:b≠0:=by simp [go_sem] at hb;omega
  have n:=a8 0 eq;simp [go_sem] at n;have S:=Sk R.next;have N:=xa1 (bS (aD:a<R.next)) (bS (aD:b<R.next)) (bS (aD:0<R.next));have P:=xa1 (dJ (aD:0≠b)) (dJ (aD:0≠a)) (dJ (aD:b≠a));have Y:=xa5 Y N P M L n S;refine wp (h:=bA (λi e H=>∃ c:Nat,(e 2=.adr g.c/\e 3=.adr [dLI p,dLI q]/\e 4=.ptr 0 1 0 0/\e 9=.ptr c 1 0 0/\e 10=dI i)/\(H.get 0=some ⟨29,2,[[.nil,.nil]],false⟩)/\(0<H.next)/\(H.get c=some ⟨29,2,[[.own a g.h.length,.own b g.i.length]],false⟩)/\(c<H.next)/\(H.get a=some ⟨3,1,(Lk p g.h i).map cI,false⟩)/\(a<H.next)/\(H.get b=some ⟨145,3,g.i.map Edge.c,false⟩)/\(b<H.next)/\(i<=g.h.length)/\(a<c/\b<c)/\((Lk p g.h i).length=g.h.length)) (λi=>g.h.length - i) 0 ⟨R.next,wg,wn,wn,wn,wn,(by simp [go_sem,Y,Lk]),wn,wn,wn,wi,aD,(by exact DA _ _ _)⟩ λI0 b1 i e H a7=>?_);obtain ⟨c,E0,J,A,C,u,G,y,E,w,hi,hc,f⟩:=a7;have O:=xa4 (dJ (aD:0≠c)) (dJ (aD:0≠b)) (dJ (aD:0≠a)) (dJ (aD:c≠b)) (dJ (aD:c≠a)) (dJ (aD:b≠a));have Y:=xb0 Y E0 J (bS A) C (bS u) G (bS y) E (bS w) f O;refine iY (λr=>?_) λr=>?_
  .have hip:i<p.length:=aD;have b3:=V _ (aC hip);have a4:p[i]?.getD 0=p[i]:=by rw [aA hip];rfl
   have K:g.h[i]?.getD 0=g.h[i]:=by rw [aA r];rfl
   have a3:p[i].toNat<(Lk p g.h i).length:=by rw [f];omega
   have Y:=xa3 Y r (aA r) (aA hip) (aA a3);exact wp (h:=wx b1 (i+1) ⟨c,wg,wn,wn,wn,wn,(by simp [go_sem,Y,Mk,cW,a4,K]),wn,wn,wn,wj,aD,(by exact DA _ _ _)⟩)
  .have hI:i=g.h.length:=aD;rw [hI] at f;have Y:=xa6 m l N P M L n (xb0 S E0 J (bS A) C (bS u) G (bS y) E (bS w) f O);refine wv (h:=bA (λk e H=>(e 2=.adr g.c/\e 3=.adr [dLI p,dLI q]/\e 4=.ptr 0 1 0 0/\e 9=.ptr c 1 0 0/\e 11=dI k)/\(H.get 0=some ⟨29,2,[[.nil,.nil]],false⟩)/\(0<H.next)/\(H.get c=some ⟨29,2,[[.own a g.h.length,.own b g.i.length]],false⟩)/\(c<H.next)/\(H.get a=some ⟨3,1,(Lk p g.h g.h.length).map cI,false⟩)/\(a<H.next)/\(H.get b=some ⟨145,3,(N8 p q g.i k).map Edge.c,false⟩)/\(b<H.next)/\(k<=g.i.length)/\((N8 p q g.i k).length=g.i.length)) (λk=>g.i.length - k) 0 ⟨wg,wn,wn,wn,wn,(by simp [go_sem,Y,<- hI]),wn,(by simp [go_sem,Y,N8]),wn,wi,(by exact DB _ _ _ _)⟩ λI2 b0 k e H a6=>?_);obtain ⟨E2,I,z,B,s,F,x,D,v,hk,o⟩:=a6;have X:=xa4 (dJ (aD:0≠c)) (dJ (aD:0≠b)) (dJ (aD:0≠a)) (dJ (aD:c≠b)) (dJ (aD:c≠a)) (dJ (aD:b≠a));have Y:=xb0 Y E2 I (bS z) B (bS s) F (bS x) D (bS v) o X;refine iY (λj=>?_) λj=>?_
   .have hkq:k<q.length:=aD;have b2:=U _ (aC hkq);have hg:=dY Z;have hE:=hg.2 _ (aC j);have W:g.i[k].w.toNat<p.length:=aD;have T:g.i[k].M.toNat<p.length:=aD;have a1:q[k]?.getD 0=q[k]:=by rw [aA hkq];rfl
    have K:g.i[k]?.getD ⟨0,0,0⟩=g.i[k]:=by rw [aA j];rfl
    have a9:Zl p g.i[k]=⟨g.i[k].type,p[g.i[k].w.toNat],p[g.i[k].M.toNat]⟩:=by unfold Zl;rw [aA W,aA T];rfl
    have a0:q[k].toNat<(N8 p q g.i k).length:=by rw [o];omega
    have S:=Sk H.next;have Y:=xa6 Y S j (aA j) (aA hkq) (aA a0) (aA W) (aA T);exact wp (h:=wx b0 (k+1) ⟨wg,wn,wn,wn,wn,cl,wn,(by simp [go_sem,Y,Ml,cW,a1,K,a9,Edge.c]),wn,wj,(by exact DB _ _ _ _)⟩)
   .have hK:k=g.i.length:=aD;rw [hK] at o;have Y:=xa8 m l N P M L n S f (xb0 O E2 I (bS z) B (bS s) F (bS x) D (bS v) o X);exact wv (h:=hQ _ _ (by simp [go_sem,Y,P0,Z,hK]))
def remF (a b:Int):Int:=(a.tmod b+b).tmod b
theorem Ib (a:Int){b:Int}(c:0<b) : -b<a.tmod b/\a.tmod b<b:=by
 refine ⟨?_,Int.tmod_lt_of_pos _ c⟩;rcases Int.le_total 0 a with h|h
 .have:=Int.tmod_nonneg b h;omega
 .have h1:(-a).tmod b = -(a.tmod b):=Int.neg_tmod _ _;have:=Int.tmod_lt_of_pos (-a) c;omega
theorem N9 (a:Int){b:Int}(c:0<b):0<=remF a b/\remF a b<b:=by
 have:=Ib a c;exact eM aD c
theorem s9 (a b:Int)(e:0<b/\b<=1000000):Pua 271 [dI a,dI b] (dI (remF a b)):=by
 have d:=Ib a e.1;have c:b≠0:=aD;refine Tz.p0 func271 rfl λQ f _=>?_;have Y:=c;have Y:=wa Y @remF.eq_1;exact wo (h:=f _ _ wy)
abbrev T4:=Int8 × Int8 × Int8 × Int8
def cT4 (x:T4):UN:=[.int .i8 x.1.toInt,.int .i8 x.2.1.toInt,.int .i8 x.2.2.1.toInt,.int .i8 x.2.2.2.toInt]
@[go_sem] theorem U5 (l:List T4):D.R (l.map cT4)=true:=d9 _ (λ_=>rfl) l
theorem UI (x:Int8) : -128<=x.toInt/\x.toInt<=127:=by grind [x.le_toInt, x.toInt_lt]
def made3 (v:Int)(x:T4):Test:=⟨1+(remF x.1.toInt 4).tdiv 3,⟨remF x.2.1.toInt (v+1) - 1,0⟩,⟨remF x.2.2.1.toInt (v+1) - 1,x.2.2.2.toInt.tmod 12⟩⟩
theorem S8 (v:Int)(i:0<=v/\v<=1000)(x:T4):Pua 191 [dI v,.agg (cT4 x)] (.agg (made3 v x).c):=by
 have m:=UI x.1;have l:=UI x.2.1;have k:=UI x.2.2.1;have j:=UI x.2.2.2;have a:=N9 x.1.toInt (aD:(0:Int)<4);have g:=N9 x.2.1.toInt (aD:0<v+1);have f:=N9 x.2.2.1.toInt (aD:0<v+1);have e:=Ib x.2.2.2.toInt (aD:(0:Int)<12);have d:=Zb a.1 (aD:(0:Int)<3);refine Tz.pK ⟨λt=>t==4,λ_=>[]⟩ func191 rfl (λQ b=>?_);have Y:=@cT4.eq_1;refine wo (h:=aB (s9 x.1.toInt 4 aD) wl ?_);refine wo (h:=aH (s9 x.2.1.toInt (v+1) aD) wl ?_);refine wo (h:=aH (s9 x.2.2.1.toInt (v+1) aD) wl ?_);have Y:=xa1 Y @made3.eq_1 @Test.c.eq_1;exact wo (h:=b _ _ wy)
def D5 (g:Graph)(nb eb:List Bool)(k:Nat):List Bool:=(List.range k).foldl (λacc i=>if eb[i]?.getD false=true then (acc.set (g.i[i]?.getD ⟨0,0,0⟩).w.toNat true).set (g.i[i]?.getD ⟨0,0,0⟩).M.toNat true else acc) nb
theorem Ft (g:Graph)(nb a:List Bool)(k:Nat):D5 g nb a (k+1)=if a[k]?.getD false=true then ((D5 g nb a k).set (g.i[k]?.getD ⟨0,0,0⟩).w.toNat true).set (g.i[k]?.getD ⟨0,0,0⟩).M.toNat true else D5 g nb a k:=by
 simp only [D5,bR,iL,pD,List.foldl_nil]
theorem u4 (g:Graph)(nb eb:List Bool):∀ k,(D5 g nb eb k).length=nb.length
 | 0=>rfl
 | k+1=>by
  rw [Ft];split
  .rw [f9,f9,u4 g nb eb k]
  .exact u4 g nb eb k
def Graph.bE (g:Graph):Prop:=∀ x∈g.i,(0<=x.w/\x.w<g.h.length)/\0<=x.M/\x.M<g.h.length
theorem Qu (g:Graph)(I:g.h.length<=100000)(K:g.i.length<=100000)(u:g.bE)(nb f:List Bool)(h:nb.length=g.h.length)(w:f.length=g.i.length) :
  Pua 192 [g.d,.list (nb.map cB),.list (f.map cB)] (Part.d ⟨Gu (D5 g nb f g.i.length),Gu f⟩):=by
 refine Tz.pK ⟨λt=>t==6||t==9,λ_=>[]⟩ func192 rfl (λQ E=>?_);have a:(∀ c∈nb.map cB,c.length=1)=True:=eq_true (by intro c B;rw [aT] at B;obtain ⟨b,_,rfl⟩:=B;rfl);have Y:=wa h w;try simp [go_sem,seval,Y,↓a]
 repeat first|intro _|refine ⟨fK,?_⟩
 refine bA (λi e H=>(e 3=.adr g.c/\e 2=.list (f.map cB)/\e 6=.ptr 0 1 0 0/\e 7=.own 1 g.h.length/\e 8=dI i)/\(H.get 0=some ⟨35,2,[[.nil,.nil]],false⟩)/\(0<H.next)/\(H.get 1=some ⟨4,1,(D5 g nb f i).map cB,false⟩)/\(1<H.next)/\(i<=g.i.length)/\((D5 g nb f i).length=g.h.length)) (λi=>g.i.length - i) 0 ⟨(by and_intros<;>first|omega|(simp [go_sem,seval,Y,↓a]<;>omega)),((by first|omega|(simp [go_sem,seval,Y,↓a]<;>omega))),((by first|omega|(simp [go_sem,seval,Y,↓a]<;>omega))),(by simp [go_sem,D5]),((by first|omega|(simp [go_sem,seval,Y,↓a]<;>omega))),(by first|assumption|omega|(simp [go_sem,Y,↓a];done)|(simp_all;done)),(by rw [u4];exact h)⟩ λL o i e H v=>?_;obtain ⟨F,q,l,p,k,J,s⟩:=v;have Y:=xa5 Y F q (bS l) p (bS k) s;try simp [go_sem,seval,Y,↓a]
 repeat first|intro _|refine ⟨fK,?_⟩
 refine wq (λj=>?_) λj=>?_
 .have hib:i<f.length:=aD;have n:f[i]?.getD false=f[i]:=by rw [aA hib];rfl
  have G:=u _ (aC j);have r:g.i[i]?.getD ⟨0,0,0⟩=g.i[i]:=by rw [aA j];rfl
  have A:g.i[i].w.toNat<(D5 g nb f i).length:=by rw [s];omega
  have y:g.i[i].M.toNat<(D5 g nb f i).length:=by rw [s];omega
  obtain ⟨z,C⟩:∃ z,(((D5 g nb f i).map cB).set g.i[i].w.toNat [D.bool true])[g.i[i].M.toNat]?=some [z]:=by
   rw [dL];by_cases m:g.i[i].w.toNat=g.i[i].M.toNat
   .rw [if_pos m,if_pos (by rw [aR];exact A)];exact ⟨_,rfl⟩
   .rw [if_neg m,aN,aA y];exact ⟨_,rfl⟩
  have Y:=xa6 Y j (aA j) (aA hib) (aA A) (aA y) r C;try simp [go_sem,seval,Y,↓a]
  repeat first|intro _|refine ⟨fK,?_⟩
  refine wq (λx=>?_) λx=>?_
  .have Y:=wa Y x;try simp [go_sem,seval,Y,↓a]
   repeat first|intro _|refine ⟨fK,?_⟩
   exact wx o (i+1) ⟨(by and_intros<;>first|omega|(simp [go_sem,seval,Y,↓a]<;>omega)),((by first|omega|(simp [go_sem,seval,Y,↓a]<;>omega))),((by first|omega|(simp [go_sem,seval,Y,↓a]<;>omega))),(by simp [go_sem,Y,↓a,Ft,n]),((by first|omega|(simp [go_sem,seval,Y,↓a]<;>omega))),(by first|assumption|omega|(simp [go_sem,Y,↓a];done)|(simp_all<;>omega)),(by rw [u4];exact h)⟩
  .have Y:=wa Y x;try simp [go_sem,seval,Y,↓a]
   repeat first|intro _|refine ⟨fK,?_⟩
   exact wx o (i+1) ⟨(by and_intros<;>first|omega|(simp [go_sem,seval,Y,↓a]<;>omega)),((by first|omega|(simp [go_sem,seval,Y,↓a]<;>omega))),((by first|omega|(simp [go_sem,seval,Y,↓a]<;>omega))),(by simp [go_sem,Y,↓a,Ft,n]),((by first|omega|(simp [go_sem,seval,Y,↓a]<;>omega))),(by first|assumption|omega|(simp [go_sem,Y,↓a];done)|(simp_all<;>omega)),(by rw [u4];exact h)⟩
 .have hI:i=g.i.length:=aD;subst hI;try simp [go_sem,seval,Y,↓a]
  refine Bj (DI (D5 g nb f g.i.length) (by rw [u4];omega)) (by (simp [go_sem,Y,↓a])<;>rfl) (by first|rfl|(simp [go_sem,<- List.map_take,<- List.map_drop,Y,↓a];done)) (by (simp [go_sem,Y,↓a])<;>rfl) ?_;try simp [go_sem,seval,Y,↓a]
  refine aB (DI f aD) (by first|rfl|(simp [go_sem,<- List.map_take,<- List.map_drop,Y,↓a];done)) ?_;try simp [go_sem,seval,Y,↓a]
  have Y:=wa Y j;exact E _ _ (by simp [go_sem,Y,↓a]<;>first|omega|(rw [aU];simp<;>omega)|(simp_all<;>omega))
def YB (k:UInt64)(i:Nat):Bool:=(k.toNat:Int).fdiv (2 ^ (min ((i:Int).tmod 64).toNat 64)) % 2==1
def Ho (k:UInt64)(off n:Nat):List Bool:=(List.range n).map λj=>YB k (off+j)
def B0 (k:UInt64)(off n i:Nat):List Bool:=(List.range n).map λj=>decide (j<i)&&YB k (off+j)
theorem Nn (k:UInt64)(a n:Nat):B0 k a n 0=List.replicate n false:=by
 unfold B0;apply gA;intro j;grind
theorem Bk (k:UInt64)(a n i:Nat):(B0 k a n i).length=n:=by simp [B0]
theorem RY (k:UInt64)(a n:Nat):B0 k a n n=Ho k a n:=by
 unfold B0 Ho;simp_all
theorem RX {k:UInt64}{a n i:Nat}(h:i<n):(B0 k a n i).set i (YB k (a+i))=B0 k a n (i+1):=by
 apply gA;intro j;rw [dL,Bk];by_cases b:i=j
 .subst b;simp [h,B0]
 .rw [if_neg b];simp only [B0,aN];by_cases c:j<n
  .rw [gJ c];simp only [d7];rw [show decide (j<i+1)=decide (j<i) by rw [decide_eq_decide];omega]
  grind
def Cq (g:Graph)(k:UInt64):Part:=⟨Gu (D5 g (Ho k 0 g.h.length) (Ho k g.h.length g.i.length) g.i.length),Gu (Ho k g.h.length g.i.length)⟩
theorem S4 (g:Graph)(M:g.h.length<=100000)(N:g.i.length<=100000)(B:g.bE)(k:UInt64):Pua 113 [g.d,.int .u64 (k.toNat:Int)] (Part.d (Cq g k)):=by
 refine Tz.pK ⟨λt=>t==4||t==12||t==16,λr=>match r with|1=>[(3,4),(3,5),(3,6),(0,7),(1,7),(2,7),(3,7)]|_=>[]⟩ func113 rfl (λQ O=>?_);have Y:=trivial;refine wp (h:=bA (λi e H=>(e 2=.adr g.c/\e 1=.int .u64 (k.toNat:Int)/\e 4=.ptr 0 1 0 0/\e 5=.own 4 g.h.length/\e 6=.own 8 g.i.length/\e 7=dI i)/\(H.get 0=some ⟨35,2,[[.nil,.nil]],false⟩)/\(0<H.next)/\(H.get 4=some ⟨4,1,(B0 k 0 g.h.length i).map cB,false⟩)/\(4<H.next)/\(H.get 8=some ⟨4,1,(List.replicate g.i.length false).map cB,false⟩)/\(8<H.next)/\(i<=g.h.length)/\((B0 k 0 g.h.length i).length=g.h.length)) (λi=>g.h.length - i) 0 ⟨wg,wn,wn,(by simp [go_sem,Nn,cB]),wn,(by simp [go_sem,cB]),wn,wi,(by exact Bk _ _ _ _)⟩ λT I i e H E=>?_);obtain ⟨L,v,n,s,l,p,b,R,w⟩:=E;have Y:=xa7 Y L v (bS n) s (bS l) p (bS b) w;refine iY (λz=>?_) λz=>?_
 .have tm:=eM (aD:0<=(i:Int)) (aD:(0:Int)<64);have C:i<(B0 k 0 g.h.length i).length:=by rw [w];exact z
  have Y:=xa1 Y z (aA C);exact wp (h:=wx I (i+1) ⟨wg,wn,wn,(by simp [go_sem,Y,<- RX z,cW,YB,cB]),wn,cl,wn,wj,(by exact Bk _ _ _ _)⟩)
 .have hI:i=g.h.length:=aD;subst hI;have F:=RY k 0 g.h.length;rw [F] at w;have Y:=xa7 L v (bS n) s (bS l) p (bS b) w F;refine wv (h:=bA (λj e H=>(e 2=.adr g.c/\e 1=.int .u64 (k.toNat:Int)/\e 4=.ptr 0 1 0 0/\e 5=.own 4 g.h.length/\e 6=.own 8 g.i.length/\e 8=dI j)/\(H.get 0=some ⟨35,2,[[.nil,.nil]],false⟩)/\(0<H.next)/\(H.get 4=some ⟨4,1,(Ho k 0 g.h.length).map cB,false⟩)/\(4<H.next)/\(H.get 8=some ⟨4,1,(B0 k g.h.length g.i.length j).map cB,false⟩)/\(8<H.next)/\(j<=g.i.length)/\((B0 k g.h.length g.i.length j).length=g.i.length)) (λj=>g.i.length - j) 0 ⟨wg,wn,wn,cl,wn,(by simp [go_sem,Y,Nn]),wn,wi,(by exact Bk _ _ _ _)⟩ λS G j e H D=>?_);obtain ⟨K,u,m,q,f,o,a,P,x⟩:=D;have Y:=xa7 Y K u (bS m) q (bS f) o (bS a) x;refine iY (λy=>?_) λy=>?_
  .have tm:=eM (aD:0<=(g.h.length:Int)+(j:Int)) (aD:(0:Int)<64);have A:j<(B0 k g.h.length g.i.length j).length:=by rw [x];exact y
   have Y:=xa1 Y y (aA A);exact wp (h:=wx G (j+1) ⟨wg,wn,wn,cl,wn,(by simp [go_sem,Y,<- RX y,cW,YB,cB]),wn,wj,(by exact Bk _ _ _ _)⟩)
  .have hJ:j=g.i.length:=aD;subst hJ;have J:=RY k g.h.length g.i.length;rw [J] at x;have Y:=xa9 w F K u (bS m) q (bS f) o (bS a) x J;refine wv (h:=Bj (Qu g M N B (Ho k 0 g.h.length) (Ho k g.h.length g.i.length) (by simp [Ho]) (by simp [Ho])) wz wl wz ?_);exact wv (h:=O _ _ (by simp [go_sem,Y,Cq]))
def FQ (t:Types)(ns:V2)(k:Int)(i:Nat):Bool:=mem (t.aw (ns[i]?.getD 0).toNat) k
def xC (t:Types)(ns:V2)(k:Int):V2:=((List.range ns.length).filter (FQ t ns k)).map λ(i:Nat)=>(i:Int)
theorem Gk (t:Types)(x:t.aq)(g:Graph)(B:g.h.length<=100000)(r:∀ a∈g.h,0<=a/\a<t.h.length)(k:Int)(y:0<=k):Own prog 270 [t.d,g.d,dI k] 3 1 ((xC t g.h k).map cI):=by
 refine Tz.oK ⟨λt=>t==7,λ_=>[]⟩ func270 rfl (λQ z=>?_);have Y:=trivial;refine wv (h:=bA (λi e H=>∃ f:V2,(e 3=.adr t.c/\e 4=.adr g.c/\e 2=dI k/\e 7=.own 0 f.length/\e 8=dI i)/\(H.get 0=some ⟨3,1,f.map cI,false⟩)/\(0<H.next)/\(i<=g.h.length)/\(f.length<=i)/\(f=((List.range i).filter (FQ t g.h k)).map (λ(b:Nat)=>(b:Int)))) (λi=>g.h.length - i) 0 ⟨([]),wg,wn,wn,wi,aE,(by rfl)⟩ λD l i e H q=>?_);obtain ⟨f,A,n,j,C,w,o⟩:=q;have Y:=xa2 Y A n (bS j);refine eP (λm=>?_) λm=>?_
 .have hx:=r _ (aC m);have p:((g.h[i].toNat:Nat):Int)=g.h[i]:=aD;have s:FQ t g.h k i=mem (t.aw g.h[i].toNat) k:=by simp [FQ,aA m]
  have Y:=xa2 Y m (aA m) s;refine wo (h:=aH ((by have v:=tT t x k y g.h[i].toNat aD;rw [p] at v;exact v)) wl ?_);refine eP (λu=>?_) λu=>?_
  .have Y:=wa Y u;exact wo (h:=wx l (i+1) ⟨(f++(if FQ t g.h k i=true then [(i:Int)] else [])),wg,wn,wn,wj,ik,(by rw [c6,<- o])⟩)
  .have Y:=wa Y u;exact wo (h:=wx l (i+1) ⟨(f++(if FQ t g.h k i=true then [(i:Int)] else [])),wg,wn,wn,wj,ik,(by rw [c6,<- o])⟩)
 .have hY:xC t g.h k=f:=by rw [o,(aD:i=g.h.length)];rfl
  refine wv (h:=?_);exact z _ _ _ (iv hY) (iv hY)
def Attr.ct (x:Attr):Prop:=x.ao<=x.az/\-1000<=x.ao/\x.az<=1000
theorem zN (b:ByteArray)(i j:Nat):(b.extract i j).size<=b.size:=by grind [ByteArray.size_extract]
theorem AY (i:Nat)(x:B2):(AZ i x).r.length<=1/\∀ a∈(AZ i x).r,a.ct/\a.ok:=by
 have f:=eM (aD:0<=(x.2.toNat:Int) / 4) (aD:(0:Int)<9);have c:=zN tyU i (i+1);have e:tyU.size=6:=rfl;unfold AZ;by_cases d:(x.2.toNat:Int).tmod 4=1
 .simp only [d,if_true];refine ⟨by simp,λa b=>?_⟩;simp only [bD] at b;subst b;exact ⟨⟨by simp only;omega,by simp only;omega,by simp only;omega⟩,⟨by simp only;omega,by simp,by simp⟩⟩
 .by_cases h2:(x.2.toNat:Int).tmod 4=2
  .rw [if_neg d,if_pos h2];refine ⟨by simp,λa b=>?_⟩;simp only [bD] at b;subst b;refine ⟨⟨by simp,by simp,by simp⟩,⟨by simp only;omega,λs c=>?_,by simp⟩⟩;simp only [aW,f7,or_false] at c;rcases c with rfl|rfl
   .show (3:Nat)<=100000;omega
   .show (2:Nat)<=100000;omega
  grind
theorem CK {ns es:List B2}{j:Nat}{n:NodeTy}(h:(qX ns es).h[j]?=some n):j<rM ns/\n=AZ j (qU ns j):=by
 simp only [qX,Fn,aN] at h;grind
theorem MI (ns es:List B2):(qX ns es).h.length=rM ns/\0<rM ns/\rM ns<=6/\(qX ns es).i.length<=5:=by
 refine ⟨Tk _ _,by unfold rM;omega,by unfold rM;omega,by simp only [qX,CL];omega⟩
theorem Ju {ns es:List B2}{x:EdgeTy}(h:x∈(qX ns es).i):(0<=x.w/\x.w<rM ns)/\(0<=x.M/\x.M<rM ns)/\x.ok:=by
 simp only [qX,w6,aT] at h;obtain ⟨i,_,rfl⟩:=h;have f:0<rM ns:=by unfold rM;omega
 have c:=eM (show 0<=((qU es i).1.toNat:Int) by omega) (aD:(0:Int)<rM ns);have b:=eM (show 0<=((qU es i).2.toNat:Int) by omega) (aD:(0:Int)<rM ns);have e:=zN tyE i (i+1);have a:tyE.size=5:=rfl;exact ⟨c,b,⟨by simp only [Ux];omega⟩⟩
theorem KA (nodes:List NodeTy)(h:∀ n∈nodes,n.r.length<=1):∀ f a,(kV nodes f a).length<=f
 | 0,a=>by simp [kV]
 | f+1,a=>by
  unfold kV;split
  .simp
  .rename_i n hn;have:=h n (aL hn);have h2:=KA nodes h f n.E.toNat
   simp only [aI];split<;>simp<;>omega
theorem KB {p:Attr->Prop}(nodes:List NodeTy)(h:∀ n∈nodes,∀ a∈n.r,p a):∀ f a,∀ x∈kV nodes f a,p x
 | 0,a,x,hx=>by simp [kV] at hx
 | f+1,a,x,hx=>by
  unfold kV at hx;split at hx
  .cases hx
  .rename_i n hn;rcases aZ.1 hx with hx|hx
   .split at hx
    .exact KB nodes h f _ x hx
    .cases hx
   .exact h n (aL hn) x hx
theorem Fm {ns es:List B2}{n:NodeTy}(h:n∈(qX ns es).h):∃ j,n=AZ j (qU ns j):=by
 obtain ⟨j,a⟩:=List.getElem?_of_mem h;exact ⟨j,(CK a).2⟩
theorem QY (ns es:List B2):(qX ns es).aq:=by
 obtain ⟨c,g,f,e⟩:=MI ns es;refine ⟨aD,aD,aD,λj n a=>?_,λj n a=>?_,λj h=>?_,λx d=>?_⟩
 .obtain ⟨_,rfl⟩:=CK a;have:=eM (show 0<=((qU ns j).1.toNat:Int) by omega) (aD:0<(j:Int)+1);simp only [AZ];omega
 .obtain ⟨_,rfl⟩:=CK a;have:=eM (show 0<=((qU ns j).1.toNat:Int) by omega) (aD:0<(j:Int)+1);simp only [AZ];omega
 .have:=KA (qX ns es).h (λn a=>by obtain ⟨j,rfl⟩:=Fm a;exact (AY j _).1) (j+1) j;unfold Types.r;omega
 .obtain ⟨k,i,_⟩:=Ju d;simp only [insideF,c];simp;omega
theorem XR (ns es:List B2):(qX ns es).ok:=by
 obtain ⟨i,h,g,f⟩:=MI ns es;refine ⟨λn d=>?_,λx a=>(Ju a).2.2,aD,aD⟩;obtain ⟨j,rfl⟩:=Fm d;have e:=AY j (qU ns j);have k:=zN tyA j (j+1);have c:tyA.size=6:=rfl;exact ⟨by simp only [AZ];omega,λx a=>(e.2 x a).2,aD⟩
theorem Tj (ns es:List B2)(a:Int):(∀ x∈bL (qX ns es) a,x.ct)/\(bL (qX ns es) a).length<=8:=by
 unfold bL;split
 .rename_i h;have d:=(u6 h);refine ⟨λx c=>KB (p:=Attr.ct) (qX ns es).h (λn e y b=>by obtain ⟨j,rfl⟩:=Fm e;exact ((AY j _).2 y b).1) _ _ x c,d.1.r _ aD⟩
 .simp
structure Types.b6 (t:Types):Prop where
 ok:t.ok
 aq:t.aq
 ct:∀ a,(∀ x∈bL t a,x.ct)/\(bL t a).length<=8
theorem Jt (ns es:List B2):(qX ns es).b6:=⟨XR ns es,QY ns es,Tj ns es⟩
abbrev B3:=UInt8 × UInt8 × UInt8
def cT3 (x:B3):UN:=[.int .u8 (x.1.toNat:Int),.int .u8 (x.2.1.toNat:Int),.int .u8 (x.2.2.toNat:Int)]
@[go_sem] theorem EA (l:List B3):D.R (l.map cT3)=true:=d9 _ (λ_=>rfl) l
structure Dr5 where
 h:List UInt8
 i:List B3
def Dr5.c (d:Dr5):UN:=[.list (d.h.map cU),.list (d.i.map cT3)]
@[go_sem] theorem Dr5.Q (d:Dr5):D.L d.c=true:=by simp [Dr5.c,D.L,D.Q,OV,EA]
def D3 (n:Nat)(ds:List UInt8)(k:Nat):V2:=(List.range k).map λi=>((ds[i]?.getD 0).toNat:Int).tmod n
def Vm (t:Types)(k:Int):EdgeTy:=t.i[k.toNat]?.getD ⟨⟨#[]⟩,0,0,0,0,0,0⟩
def Cp (l:V2)(b:UInt8):Int:=l[((b.toNat:Int).tmod l.length).toNat]?.getD 0
def Jy (t:Types)(ns:V2)(x:B3):List Edge :=
 if 0<(xC t ns (Vm t ((x.1.toNat:Int).tmod t.i.length)).w).length/\0<(xC t ns (Vm t ((x.1.toNat:Int).tmod t.i.length)).M).length then
  [⟨(x.1.toNat:Int).tmod t.i.length,Cp (xC t ns (Vm t ((x.1.toNat:Int).tmod t.i.length)).w) x.2.1,Cp (xC t ns (Vm t ((x.1.toNat:Int).tmod t.i.length)).M) x.2.2⟩] else []
def Ox (t:Types)(ns:V2)(es:List B3)(k:Nat):List Edge:=(List.range k).flatMap λi=>Jy t ns (es[i]?.getD (0,0,0))
def n9 (t:Types)(d:Dr5):Graph:=⟨D3 t.h.length d.h (min d.h.length 8),if t.i.length=0 then [] else Ox t (D3 t.h.length d.h (min d.h.length 8)) d.i (min d.i.length 10)⟩
theorem Wf (n:Nat)(ds:List UInt8)(k:Nat):D3 n ds (k+1)=D3 n ds k++[((ds[k]?.getD 0).toNat:Int).tmod n]:=by simp [D3,bR]
theorem Jz (n:Nat)(ds:List UInt8)(k:Nat):(D3 n ds k).length=k:=by simp [D3]
theorem XU {n:Nat}(hn:0<n){ds:List UInt8}{k:Nat}{x:Int}(h:x∈D3 n ds k):0<=x/\x<n:=by
 simp only [D3,aT] at h;obtain ⟨i,_,rfl⟩:=h;exact eM aD aD
theorem Fq (t:Types)(ns:V2)(es:List B3)(k:Nat):Ox t ns es (k+1)=Ox t ns es k++Jy t ns (es[k]?.getD (0,0,0)):=by simp [Ox,bR]
theorem Jw (t:Types)(ns:V2)(x:B3):(Jy t ns x).length<=1:=by grind [Jy]
theorem Q2 (t:Types)(ns:V2)(es:List B3):∀ k,(Ox t ns es k).length<=k
 | 0=>by simp [Ox]
 | k+1=>by rw [Fq,aI];have:=Q2 t ns es k;have:=Jw t ns (es[k]?.getD (0,0,0));omega
theorem KE {t:Types}{ns:V2}{k x:Int}(h:x∈xC t ns k):0<=x/\x<ns.length:=by
 simp only [xC,aT,d8,aV] at h;grind
theorem AU {l:V2}(h:0<l.length)(b:UInt8):∃ hk:((b.toNat:Int).tmod l.length).toNat<l.length,Cp l b=l[((b.toNat:Int).tmod l.length).toNat]:=by
 have:=eM (aD:0<=(b.toNat:Int)) (aD:(0:Int)<l.length);have hk:((b.toNat:Int).tmod l.length).toNat<l.length:=aD;exact ⟨hk,by unfold Cp;rw [aA hk];rfl⟩
theorem Mv {l:V2}(h:0<l.length)(b:UInt8):Cp l b∈l:=by
 obtain ⟨hk,e⟩:=AU h b;grind
theorem Wg (t:Types)(ns:V2)(es:List B3)(k:Nat):Graph.bE ⟨ns,Ox t ns es k⟩:=by
 intro x a;simp only [Ox,bQ] at a;obtain ⟨i,_,a⟩:=a;unfold Jy at a;split at a
 .rename_i h;simp only [bD] at a;subst a;exact ⟨KE (Mv h.1 _),KE (Mv h.2 _)⟩
 .cases a
theorem Q0 (t:Types)(d:Dr5):(n9 t d).bE:=by
 unfold n9;split
 .intro x a;cases a
 .exact Wg _ _ _ _
theorem Jv (t:Types)(d:Dr5):(n9 t d).h.length<=8/\(n9 t d).i.length<=10:=by
 unfold n9;refine ⟨by simp only [Jz];omega,?_⟩;split
 .simp
 .exact dZ (Q2 _ _ _ _) aD
theorem S1 (t:Types)(M:t.b6)(d:Dr5):Pua 190 [t.d,.agg d.c,.bool true] (n9 t d).d:=by
 have d3:=M.ok.bz;have d4:=M.ok.cV;have E:=M.aq.ne;have X:t.h≠[]:=by intro h;rw [h] at E;simp at E
 refine Tz.pK ⟨λt=>t==6||t==7||t==9,λr=>match r with|11=>[(0,14),(1,14)]|18=>[(0,30),(1,30)]|_=>[]⟩ func190 rfl (λQ hQ=>?_);have Y:=@Dr5.c.eq_1;refine wv (h:=bA (λi e H=>(e 3=.adr t.c/\e 4=.adr d.c/\e 2=.bool true/\e 6=.ptr 0 1 0 0/\e 7=.own 1 i/\e 8=dI i)/\(H.get 0=some ⟨29,2,[[.nil,.nil]],false⟩)/\(0<H.next)/\(H.get 1=some ⟨3,1,(f6 i).map cI,false⟩)/\(1<H.next)/\(i<=t.h.length)/\((f6 i).length=i)) (λi=>t.h.length - i) 0 ⟨wg,wn,wn,(by rfl),wn,wi,(by exact g9 _)⟩ λI0 c3 i e H c0=>?_);obtain ⟨E0,b0,U,a8,S,hi,hl⟩:=c0;have Y:=xa5 Y E0 b0 (bS U) a8 (bS S) hl;refine iY (λh3=>?_) λh3=>?_
 .have Y:=xa1 Y h3 (aA h3);exact wp (h:=wx c3 (i+1) ⟨wg,wn,wn,(by simp [go_sem,Y,xZ]),wn,wj,(by exact g9 _)⟩)
 .have hI:i=t.h.length:=aD;subst hI;have N:=Sk H.next;have Y:=wa Y N;refine wv (h:=l9 (Ghosts.step (Ghosts.refl _) H.next 0 0 3 1 _ _ ((by simp [go_sem,Y]:AHeap.get _ _=some ⟨29,2,[[.nil,.nil]],false⟩)) rfl rfl rfl) (λi e H=>∃ c:Nat,∃ a:Nat,(e 3=.adr t.c/\e 4=.adr d.c/\e 2=.bool true/\e 6=.ptr 0 1 0 0/\e 7=.own 1 t.h.length/\e 9=.ptr c 1 0 0/\e 10=dI i)/\(H.get 0=some ⟨29,2,[[.nil,.nil]],false⟩)/\(0<H.next)/\(H.get 1=some ⟨3,1,(f6 t.h.length).map cI,false⟩)/\(1<H.next)/\(H.get c=some ⟨29,2,[[.own a i,.nil]],false⟩)/\(c<H.next)/\(H.get a=some ⟨3,1,(D3 t.h.length d.h i).map cI,false⟩)/\(a<H.next)/\(i<=8)/\(i<=d.h.length)/\(1<c/\c<a)/\((D3 t.h.length d.h i).length=i)) (λi=>8 - i) 0 ⟨H.next,(H.next+1),wg,wn,wn,wn,wn,wn,wn,(by simp [go_sem,Y,D3]),wn,wi,wi,aD,(by exact Jz _ _ _)⟩ λI2 K i e H b9=>?_);obtain ⟨c,a,E2,y,s,w,p,u,m,v,o,hi,d2,hc,F⟩:=b9;have b1:=xa4 (dJ (aD:a≠c)) (dJ (aD:a≠1)) (dJ (aD:a≠0)) (dJ (aD:c≠1)) (dJ (aD:c≠0)) (dJ (aD:1≠0));have Y:=xa0 Y (xb0 @Dr5.c.eq_1 E2 y (bS s) w (bS p) u (bS m) v (bS o) F b1);refine iY (λh9=>?_) λh9=>?_
  .have b4:=lA d.h[i];have c2:d.h[i]?.getD 0=d.h[i]:=by rw [aA aD];rfl
   have z:=eM (aD:0<=(d.h[i].toNat:Int)) (aD:(0:Int)<t.h.length);have Z:=Jl (n:=t.h.length) (a:=((d.h[i].toNat:Int).tmod t.h.length).toNat) aD;rw [Int.toNat_of_nonneg z.1] at Z;have j:(t.h.length:Int)≠0:=aD;have b7:=g9 t.h.length;have Y:=xa5 Y h9 (aA (aD:i<d.h.length)) Z j @cU.eq_1 b7;exact wp (h:=wx K (i+1) ⟨c,a,wg,wn,wn,wn,wn,wn,wn,(by simp [go_sem,Y,Wf,c2]),wn,wj,wj,aD,(by exact Jz _ _ _)⟩)
  .have h9':¬ (i<d.h.length/\i<8):=λh=>X (h9 h.1 aD);have K:i=min d.h.length 8:=aD;have D:∀ x∈D3 t.h.length d.h i,0<=x/\x<t.h.length:=λx hx=>XU E hx;obtain ⟨g,C⟩:=dH (D3 t.h.length d.h i);rw [C] at F D;have Y:=xa2 @Dr5.c.eq_1 hl N (xb0 E2 y (bS s) w (bS p) u (bS m) v (bS o) F b1 C);refine wv (h:=l9 (Ghosts.step (Ghosts.refl _) c 0 1 145 3 _ _ ((by simp [Y]:AHeap.get _ _=some ⟨29,2,[[.own a i,.nil]],false⟩)) rfl rfl rfl) (λk e H=>∃ b:Nat,∃ l:List Edge,(e 3=.adr t.c/\e 4=.adr d.c/\e 2=.bool true/\e 6=.ptr 0 1 0 0/\e 9=.ptr c 1 0 0/\e 11=dI k)/\(H.get 0=some ⟨29,2,[[.nil,.nil]],false⟩)/\(0<H.next)/\(H.get c=some ⟨29,2,[[.own a i,.own b l.length]],false⟩)/\(c<H.next)/\(H.get a=some ⟨3,1,g.map cI,false⟩)/\(a<H.next)/\(H.get b=some ⟨145,3,l.map Edge.c,false⟩)/\(b<H.next)/\(k<=10)/\(k<=d.i.length)/\(0<c/\c<a/\a<b)/\(l=Ox t g d.i k)/\(t.i.length=0->k=0)/\(l.length<=k)) (λk=>10 - k) 0 ⟨H.next,([]),wg,wn,wn,wn,wn,wn,wn,wn,wn,wi,wi,aD,(by rfl),(by intro _;rfl),aE⟩ λI4 a2 k e H b8=>?_);obtain ⟨b,l,E4,a9,T,a5,O,a7,R,a6,P,hk,d1,hb,hy,hz,c8⟩:=b8;have c4:=xa4 (dJ (aD:b≠a)) (dJ (aD:b≠c)) (dJ (aD:b≠0)) (dJ (aD:a≠c)) (dJ (aD:a≠0)) (dJ (aD:c≠0));have Y:=xa9 Y E4 a9 (bS T) a5 (bS O) a7 (bS R) a6 (bS P) c4;refine iY (λL=>?_) λL=>?_
   .have hkl:k<d.i.length:=aD;have a3:0<t.i.length:=aD;have c5:t.i≠[]:=by intro h;rw [h] at a3;simp at a3
    obtain ⟨x,hx⟩:=dH (d.i[k]);have c1:d.i[k]?.getD (0,0,0)=x:=by rw [aA hkl,<- hx];rfl
    have b4:=lA x.1;have d0:=lA x.2.1;have c9:=lA x.2.2;have z:=eM (aD:0<=(x.1.toNat:Int)) (aD:(0:Int)<t.i.length);obtain ⟨q,B⟩:∃ q:Nat,(x.1.toNat:Int).tmod t.i.length=(q:Int):=⟨_,(Int.toNat_of_nonneg z.1).symm⟩;have A:q<t.i.length:=aD;have a1:Vm t ((x.1.toNat:Int).tmod t.i.length)=t.i[q]:=by unfold Vm;rw [B,Int.toNat_natCast,aA A];rfl
    have f:=M.aq.bE _ (aC A);simp only [insideF,aM,decide_eq_true_eq] at f;have j:(t.i.length:Int)≠0:=aD;have Y:=xa8 Y L (aA hkl) hx c1 @cT3.eq_1 B (aA A) j @Types.c.eq_1;refine wp (h:=?_);refine lW (Gk t M.aq ⟨g,l⟩ (by simp only;omega) D t.i[q].w f.1.1) (by simp [go_sem,Y,Graph.d,Graph.c,dLI]) eq (GD _) rfl eq ?_;refine wp (h:=?_);refine lW (Gk t M.aq ⟨g,l⟩ (by simp only;omega) D t.i[q].M f.2.1) (by simp [go_sem,Y,Graph.d,Graph.c,dLI]) eq (GD _) rfl eq ?_;obtain ⟨W,J⟩:=dH (xC t g t.i[q].w);obtain ⟨V,I⟩:=dH (xC t g t.i[q].M);have Y:=xa1 Y J I;refine iY (λa4=>?_) λa4=>?_
    .have hab:0<W.length/\0<V.length:=aD;obtain ⟨ka,b6⟩:=AU hab.1 x.2.1;obtain ⟨kb,b5⟩:=AU hab.2 x.2.2;have ta:=eM (aD:0<=(x.2.1.toNat:Int)) (aD:(0:Int)<W.length);have tb:=eM (aD:0<=(x.2.2.toNat:Int)) (aD:(0:Int)<V.length);have G:Jy t g x=[⟨(q:Int),Cp W x.2.1,Cp V x.2.2⟩]:=by unfold Jy;rw [a1,J,I,if_pos hab,B]
     have c7:¬W=[]:=by intro h;rw [h] at hab;simp at hab
     have c6:¬V=[]:=by intro h;rw [h] at hab;simp at hab
     have b3:(W.length:Int)≠0:=aD;have b2:(V.length:Int)≠0:=aD;have Y:=xa6 Y (aA ka) (aA kb) G b6 b5 b3 b2;exact wp (h:=wx a2 (k+1) ⟨b,(l++Jy t g (d.i[k]?.getD (0,0,0))),wg,wn,wn,wn,wn,wn,wn,wn,wn,wj,wj,aD,(by rw [Fq,<- hy]),aD,(by rw [aI];have:=Jw t g (d.i[k]?.getD (0,0,0));omega)⟩)
    .have G:Jy t g x=[]:=by unfold Jy;rw [a1,J,I,if_neg (λh=>by have h2:=a4 h.1;rw [h2] at h;simp at h)]
     have Y:=wa Y G;exact wp (h:=wx a2 (k+1) ⟨b,(l++Jy t g (d.i[k]?.getD (0,0,0))),wg,wn,wn,wn,wn,wn,wn,wn,wn,wj,wj,aD,(by rw [Fq,<- hy]),aD,(by rw [aI];have:=Jw t g (d.i[k]?.getD (0,0,0));omega)⟩)
   .have h13':k<d.i.length->k<10->t.i.length=0:=λa b=>by rw [L a aD];rfl
    have a0:n9 t d=⟨g,l⟩:=by
     unfold n9;rw [<- K,C];split
     .rename_i h0;have:=hz h0;subst this;rw [hy];rfl
     .rename_i hn0;rw [hy,show k=min d.i.length 10 by
       have B:¬ (k<d.i.length/\k<10):=λB=>hn0 (h13' B.1 B.2);omega]
    exact wv (h:=hQ _ _ (iv a0))
structure Dr21 where
 j:Dr5
 l:List B3
 G:List T4
def Dr21.c (d:Dr21):UN:=[.list (d.j.h.map cU),.list (d.j.i.map cT3),.list (d.l.map cT3),.list (d.G.map cT4)]
@[go_sem] theorem Dr21.Q (d:Dr21):D.L d.c=true:=by simp [Dr21.c,D.L,D.Q,OV,EA,U5]
def c2 (x:Nat × Nat):UN:=[dI x.1,dI x.2]
def atN (t:Types)(ns:V2)(i:Nat):List Attr:=bL t (ns[i]?.getD 0)
def LT (t:Types)(ns:V2)(i k:Nat):List (Nat × Nat):=(List.range k).map λj=>(i,j)
def De (t:Types)(ns:V2)(k:Nat):List (Nat × Nat):=(List.range k).flatMap λi=>LT t ns i (atN t ns i).length
theorem WP (t:Types)(ns:V2):De t ns 0=[]:=rfl
theorem FR (t:Types)(ns:V2)(k:Nat):De t ns (k+1)=De t ns k++LT t ns k (atN t ns k).length:=by simp [De,bR]
theorem WO (t:Types)(ns:V2)(i k:Nat):LT t ns i (k+1)=LT t ns i k++[(i,k)]:=by simp [LT,bR]
theorem EH (t:Types)(ns:V2)(i k:Nat):(LT t ns i k).length=k:=by simp [LT]
theorem KG (t:Types)(ht:t.b6)(ns:V2):∀ k,(De t ns k).length<=8 * k
 | 0=>by simp [De]
 | k+1=>by rw [FR,aI,EH];have:=KG t ht ns k;have:=(ht.ct (ns[k]?.getD 0)).2;unfold atN;omega
def wI (all:List (Nat × Nat))(b:UInt8):Nat × Nat:=all[((b.toNat:Int).tmod all.length).toNat]?.getD (0,0)
def XT (all:List (Nat × Nat))(st:List Slot × Int)(x:B3):List Slot × Int :=
 if st.2<=(x.2.1.toNat:Int).tmod 5 - 1 then
  if 3<st.2+1 then (st.1++[⟨(wI all x.1).1,(wI all x.1).2,⟨0,0⟩⟩],3) else (st.1++[⟨(wI all x.1).1,(wI all x.1).2,⟨st.2,0⟩⟩],st.2+1)
 else (st.1++[⟨(wI all x.1).1,(wI all x.1).2,⟨(x.2.1.toNat:Int).tmod 5 - 1,(x.2.2.toNat:Int).tmod 5 - 2⟩⟩],st.2)
def Fp (all:List (Nat × Nat))(ds:List B3)(k:Nat):List Slot × Int:=(List.range k).foldl (λst i=>XT all st (ds[i]?.getD (0,0,0))) ([],0)
theorem MM (all:List (Nat × Nat))(ds:List B3)(k:Nat):Fp all ds (k+1)=XT all (Fp all ds k) (ds[k]?.getD (0,0,0)):=by simp [Fp,bR]
theorem HG (all:List (Nat × Nat))(ds:List B3):∀ k,(Fp all ds k).1.length=k/\0<=(Fp all ds k).2/\(Fp all ds k).2<=3
 | 0=>by simp [Fp]
 | k+1=>by
  obtain ⟨h1,h2,h3⟩:=HG all ds k;rw [MM];unfold XT;split
  .split
   .simp only [aI,nW];omega
   .simp only [aI,nW];omega
  .simp only [aI,nW];omega
def Ov (v:Int)(ts:List T4)(k:Nat):List Test:=(List.range k).map λi=>made3 v (ts[i]?.getD (0,0,0,0))
theorem We (v:Int)(ts:List T4)(k:Nat):Ov v ts (k+1)=Ov v ts k++[made3 v (ts[k]?.getD (0,0,0,0))]:=by simp [Ov,bR]
theorem Q1 (v:Int)(ts:List T4)(k:Nat):(Ov v ts k).length=k:=by simp [Ov]
def Vb (t:Types)(d:Dr21):List (Nat × Nat):=De t (n9 t d.j).h (n9 t d.j).h.length
def vT (t:Types)(d:Dr21):List Slot × Int:=if (Vb t d).length=0 then ([],0) else Fp (Vb t d) d.l (min d.l.length 4)
def lI (t:Types)(d:Dr21):Pattern:=⟨n9 t d.j,(vT t d).1,(vT t d).2,Ov (vT t d).2 d.G (min d.G.length 3)⟩
theorem SY (t:Types)(W:t.b6)(d:Dr21):Pua 112 [t.d,.agg d.c] (lI t d).d:=by
 obtain ⟨G,hG⟩:=dH (n9 t d.j);have c9:=Jv t d.j;rw [hG] at c9;refine Tz.pK ⟨λt=>t==4||t==5||t==6||t==12||t==13||t==14,λr=>match r with|27=>[(0,10),(1,10)]|_=>[]⟩ func112 rfl (λQ hQ=>?_);have Y:=wa @Dr21.c.eq_1 @WP;refine wv (h:=aB ((by have hq:=S1 t W d.j;rw [hG] at hq;exact hq)) wl ?_);refine wv (h:=bA (λi e H=>(e 2=.adr t.c/\e 3=.adr d.c/\e 5=.ptr 1 1 0 0/\e 4=.ptr 0 1 0 0/\e 6=.own 2 (De t G.h i).length/\e 7=dI i)/\(H.get 0=some ⟨33,5,[[.nil,.nil,.nil,dI 0,.nil]],false⟩)/\(0<H.next)/\(H.get 1=some ⟨33,5,[[dLI G.h,.list (G.i.map Edge.c),.nil,dI 0,.nil]],false⟩)/\(1<H.next)/\(H.get 2=some ⟨246,2,(De t G.h i).map c2,false⟩)/\(2<H.next)/\(i<=G.h.length)) (λi=>G.h.length - i) 0 ⟨wg,wn,wn,wn,wn,(by simp [go_sem,De]),wn,wi⟩ λI0 c8 i e H c1=>?_);obtain ⟨E0,b4,V,C,R,a8,M,hi⟩:=c1;have Y:=xa6 Y E0 b4 (bS V) C (bS R) a8 (bS M);refine iY (λh4=>?_) λh4=>?_
 .have hAl:=(W.ct G.h[i]).2;have a1:atN t G.h i=bL t G.h[i]:=by simp [atN,aA h4]
  have Z:=KG t W G.h i;have Y:=xa1 Y h4 (aA h4);refine wp (h:=aH (lQ t W.ok G.h[i]) wl ?_);refine wp (h:=bA (λk e H=>(e 2=.adr t.c/\e 3=.adr d.c/\e 5=.ptr 1 1 0 0/\e 4=.ptr 0 1 0 0/\e 6=.own 2 ((De t G.h i).length+k)/\e 7=dI i/\e 8=.list ((bL t G.h[i]).map Attr.c)/\e 10=dI k)/\(H.get 0=some ⟨33,5,[[.nil,.nil,.nil,dI 0,.nil]],false⟩)/\(0<H.next)/\(H.get 1=some ⟨33,5,[[dLI G.h,.list (G.i.map Edge.c),.nil,dI 0,.nil]],false⟩)/\(1<H.next)/\(H.get 2=some ⟨246,2,(De t G.h i).map c2++(LT t G.h i k).map c2,false⟩)/\(2<H.next)/\(k<=(bL t G.h[i]).length)/\((LT t G.h i k).length=k)) (λk=>(bL t G.h[i]).length - k) 0 ⟨wg,wn,wn,wn,wn,(by simp [go_sem,Y,LT]),wn,wi,(by exact EH _ _ _ _)⟩ λI2 c7 k e H c0=>?_);obtain ⟨E2,b3,U,b0,P,a7,L,hk,b7⟩:=c0;have Y:=xa7 Y E2 b3 (bS U) b0 (bS P) a7 (bS L) b7;refine iY (λh8=>?_) λh8=>?_
  .have Y:=wa Y h8;exact wp (h:=wx c7 (k+1) ⟨wg,wn,wn,wn,wn,(by simp [go_sem,Y,WO,c2]),wn,wj,(by exact EH _ _ _ _)⟩)
  .have hK:k=(bL t G.h[i]).length:=aD;have d0:(De t G.h (i+1)).length=(De t G.h i).length+k:=by rw [FR,aI,EH,a1,hK]
   subst hK;exact wp (h:=wx c8 (i+1) ⟨wg,wn,wn,wn,wn,(by simp [go_sem,Y,FR,d0,a1]),wn,wj⟩)
 .have hI:i=G.h.length:=aD;obtain ⟨a,u⟩:=dH (De t G.h i);have Z:=KG t W G.h i;rw [u] at Z;have Y:=wa Y u;refine wv (h:=l9 (Ghosts.step (Ghosts.refl _) 1 0 2 102 4 _ _ (C) rfl rfl rfl) (λn e H=>∃ j:Nat,∃ p:List Slot,∃ v:Int,(e 2=.adr t.c/\e 3=.adr d.c/\e 5=.ptr 1 1 0 0/\e 4=.ptr 0 1 0 0/\e 6=.own 2 a.length/\e 11=dI n)/\(H.get 0=some ⟨33,5,[[.nil,.nil,.nil,dI 0,.nil]],false⟩)/\(0<H.next)/\(H.get 1=some ⟨33,5,[[dLI G.h,.list (G.i.map Edge.c),.own j p.length,dI v,.nil]],false⟩)/\(1<H.next)/\(H.get 2=some ⟨246,2,a.map c2,false⟩)/\(2<H.next)/\(H.get j=some ⟨102,4,p.map Slot.c,false⟩)/\(j<H.next)/\(n<=4)/\(n<=d.l.length)/\((p,v)=Fp a d.l n)/\(a.length=0->n=0)/\(2<j)) (λn=>4 - n) 0 ⟨H.next,([]),0,wg,wn,wn,wn,wn,wn,wn,wn,wn,wi,wi,(by rfl),(by intro _;rfl),aD⟩ λI4 D n e H b9=>?_);obtain ⟨j,p,v,E4,b2,T,B,O,a6,K,a5,J,hn,e0,w,hz,e3⟩:=b9;have d5:=xa4 (dJ (aD:j≠2)) (dJ (aD:j≠1)) (dJ (aD:j≠0)) (dJ (aD:2≠1)) (dJ (aD:2≠0)) (dJ (aD:1≠0));have Y:=xa9 Y E4 b2 (bS T) B (bS O) a6 (bS K) a5 (bS J) d5;refine iY (λE=>?_) λE=>?_
  .have hnl:n<d.l.length:=aD;have a0:0<a.length:=aD;have d6:¬a=[]:=by intro h;rw [h] at a0;simp at a0
   obtain ⟨x,hx⟩:=dH (d.l[n]);have c3:d.l[n]?.getD (0,0,0)=x:=by rw [aA hnl,<- hx];rfl
   have d9:=lA x.1;have d8:=lA x.2.1;have d7:=lA x.2.2;have s:=HG a d.l n;rw [<- w] at s;simp only at s;have tm:=eM (aD:0<=(x.1.toNat:Int)) (aD:(0:Int)<a.length);have t2:=eM (aD:0<=(x.2.1.toNat:Int)) (aD:(0:Int)<5);have t3:=eM (aD:0<=(x.2.2.toNat:Int)) (aD:(0:Int)<5);have A:((x.1.toNat:Int).tmod a.length).toNat<a.length:=aD;have c5:a[((x.1.toNat:Int).tmod a.length).toNat]=wI a x.1:=by unfold wI;rw [aA A];rfl
   have X:(a.length:Int)≠0:=aD;have o:Fp a d.l (n+1)=XT a (p,v) x:=by rw [MM,c3,<- w]
   unfold XT at o;have nx:=Sk H.next;have Y:=xa8 Y E (aA hnl) hx @cT3.eq_1 (aA A) c5 X @c2.eq_1 nx;refine iY (λd3=>?_) λd3=>?_
   .rw [if_pos (by simp only;omega)] at o;refine iY (λd2=>?_) λd2=>?_
    .rw [if_pos (by simp only;omega)] at o;obtain ⟨f,b⟩:∃ y:List Slot,y=p++[⟨(wI a x.1).1,(wI a x.1).2,⟨0,0⟩⟩]:=⟨_,rfl⟩;obtain ⟨z,g⟩:∃ y:Int,y=3:=⟨_,rfl⟩;have l:(f,z)=Fp a d.l (n+1):=by rw [o,b,g]
     have Y:=xa1 Y b g;exact wp (h:=wx D (n+1) ⟨j,f,z,wg,wn,wn,wn,wn,wn,wn,wn,wn,wj,wj,(by exact l),aD,aD⟩)
    .rw [if_neg (by simp only;omega)] at o;obtain ⟨f,b⟩:∃ y:List Slot,y=p++[⟨(wI a x.1).1,(wI a x.1).2,⟨v,0⟩⟩]:=⟨_,rfl⟩;obtain ⟨z,g⟩:∃ y:Int,y=v+1:=⟨_,rfl⟩;have l:(f,z)=Fp a d.l (n+1):=by rw [o,b,g]
     have Y:=xa1 Y b g;exact wp (h:=wx D (n+1) ⟨j,f,z,wg,wn,wn,wn,wn,wn,wn,wn,wn,wj,wj,(by exact l),aD,aD⟩)
   .rw [if_neg (by simp only;omega)] at o;have d1:¬ (3:Int)<v:=aD;obtain ⟨f,b⟩:∃ y:List Slot,y=p++[⟨(wI a x.1).1,(wI a x.1).2,⟨(x.2.1.toNat:Int).tmod 5 - 1,(x.2.2.toNat:Int).tmod 5 - 2⟩⟩]:=⟨_,rfl⟩;obtain ⟨z,g⟩:∃ y:Int,y=v:=⟨_,rfl⟩;have l:(f,z)=Fp a d.l (n+1):=by rw [o,b,g]
    have Y:=xa2 Y b g d1;exact wp (h:=wx D (n+1) ⟨j,f,z,wg,wn,wn,wn,wn,wn,wn,wn,wn,wj,wj,(by exact l),aD,aD⟩)
  .have s:=HG a d.l n;rw [<- w] at s;simp only at s;have b5:0<=v/\v<=1000:=aD;have hS:vT t d=(p,v):=by
    unfold vT Vb;rw [hG,<- hI,u,w];split
    .rename_i h0;rw [hz h0];rfl
    .rename_i h0;have hq:¬ (n<d.l.length/\n<4):=λh=>h0 (by rw [E h.1 aD];rfl);rw [(aD:n=min d.l.length 4)]
   refine wv (h:=l9 (Ghosts.step (Ghosts.refl _) 1 0 4 248 5 _ _ (B) rfl rfl rfl) (λm e H=>∃ q:Nat,(e 2=.adr t.c/\e 3=.adr d.c/\e 5=.ptr 1 1 0 0/\e 4=.ptr 0 1 0 0/\e 15=dI m)/\(H.get 0=some ⟨33,5,[[.nil,.nil,.nil,dI 0,.nil]],false⟩)/\(0<H.next)/\(H.get 1=some ⟨33,5,[[dLI G.h,.list (G.i.map Edge.c),.own j p.length,dI v,.own q m]],false⟩)/\(1<H.next)/\(H.get j=some ⟨102,4,p.map Slot.c,false⟩)/\(j<H.next)/\(H.get q=some ⟨248,5,(Ov v d.G m).map Test.c,false⟩)/\(q<H.next)/\(m<=3)/\(m<=d.G.length)/\(1<j/\j<q)/\((Ov v d.G m).length=m)) (λm=>3 - m) 0 ⟨H.next,wg,wn,wn,wn,wn,wn,wn,(by simp [go_sem,Y,Ov]),wn,wi,wi,aD,(by exact Q1 _ _ _)⟩ λI6 c6 m e H b8=>?_);obtain ⟨q,E6,b1,S,a9,N,a4,I,a3,F,hm,e1,e2,b6⟩:=b8;have d4:=xa4 (dJ (aD:q≠j)) (dJ (aD:q≠1)) (dJ (aD:q≠0)) (dJ (aD:j≠1)) (dJ (aD:j≠0)) (dJ (aD:1≠0));have Y:=xb0 Y E6 b1 (bS S) a9 (bS N) a4 (bS I) a3 (bS F) b6 d4;refine iY (λa2=>?_) λa2=>?_
   .have hml:m<d.G.length:=aD;have c4:d.G[m]?.getD (0,0,0,0)=d.G[m]:=by rw [aA hml];rfl
    have Y:=xa2 Y a2 (aA hml) @cT4.eq_1;refine wp (h:=aH (S8 v b5 d.G[m]) wl ?_);exact wp (h:=wx c6 (m+1) ⟨q,wg,wn,wn,wn,wn,wn,wn,(by simp [go_sem,Y,We,c4]),wn,wj,wj,aD,(by exact Q1 _ _ _)⟩)
   .have hM:m=min d.G.length 3:=aD;exact wv (h:=hQ _ _ (by simp [go_sem,Y,lI,hG,hS,<- hM]))
abbrev B4:=UInt8 × UInt8 × UInt8 × UInt8
def cU4 (x:B4):UN:=[.int .u8 (x.1.toNat:Int),.int .u8 (x.2.1.toNat:Int),.int .u8 (x.2.2.1.toNat:Int),.int .u8 (x.2.2.2.toNat:Int)]
structure Dr24 where
 left:Dr21
 q:UInt64
 h:List UInt8
 i:List B3
 l:List B3
 plain:Bool
 inj:Bool
 b1:B4
 bi:List UInt8
def Dr24.c (d:Dr24):UN:=[.list (d.left.j.h.map cU),.list (d.left.j.i.map cT3),.list (d.left.l.map cT3),.list (d.left.G.map cT4),.int .u64 (d.q.toNat:Int),.list (d.h.map cU),.list (d.i.map cT3),.list (d.l.map cT3),.bool d.plain,.bool d.inj,
 .int .u8 (d.b1.1.toNat:Int),.int .u8 (d.b1.2.1.toNat:Int),.int .u8 (d.b1.2.2.1.toNat:Int),.int .u8 (d.b1.2.2.2.toNat:Int),.list (d.bi.map cU)]
@[go_sem] theorem Dr24.Q (d:Dr24):D.L d.c=true:=by simp [Dr24.c,D.L,D.Q,OV,EA,U5]
@[go_sem] theorem ahE (l:List Dr24):D.R (l.map Dr24.c)=true:=d9 _ Dr24.Q l
def mkEd (t:Types)(n:Nat)(x:B3):Edge:=⟨(x.1.toNat:Int).tmod t.i.length,(x.2.1.toNat:Int).tmod n,(x.2.2.toNat:Int).tmod n⟩
def nN (ns:V2)(a:Int):Int:=ns[a.toNat]?.getD 0
def WZ (t:Types)(base:V2)(ds:List UInt8)(k:Nat):V2:=base++(List.range k).map λi=>Cp (sZ t) (ds[i]?.getD 0)
def BX (t:Types)(ns:V2)(x:B3):List Edge:=if p6 t (mkEd t ns.length x).type (nN ns (mkEd t ns.length x).w) (nN ns (mkEd t ns.length x).M)=true then [mkEd t ns.length x] else []
def W0 (t:Types)(ns:V2)(base:List Edge)(es:List B3)(k:Nat):List Edge:=base++(List.range k).flatMap λi=>BX t ns (es[i]?.getD (0,0,0))
def u5 (t:Types)(g:Graph)(d:Dr24):Graph :=
 ⟨WZ t g.h d.h (if (sZ t).length=0 then 0 else min d.h.length 2),
  W0 t (WZ t g.h d.h (if (sZ t).length=0 then 0 else min d.h.length 2)) g.i d.i (if (WZ t g.h d.h (if (sZ t).length=0 then 0 else min d.h.length 2)).length=0\/t.i.length=0 then 0 else min d.i.length 2)⟩
theorem Yf (t:Types)(base:V2)(ds:List UInt8)(k:Nat):WZ t base ds (k+1)=WZ t base ds k++[Cp (sZ t) (ds[k]?.getD 0)]:=by simp [WZ,bR]
theorem HN (t:Types)(base:V2)(ds:List UInt8)(k:Nat):(WZ t base ds k).length=base.length+k:=by simp [WZ]
theorem A8 (t:Types)(ns:V2)(base:List Edge)(es:List B3)(k:Nat):W0 t ns base es (k+1)=W0 t ns base es k++BX t ns (es[k]?.getD (0,0,0)):=by simp [W0,bR]
theorem A9 (t:Types)(ns:V2)(x:B3):(BX t ns x).length<=1:=by grind [BX]
theorem UM (t:Types)(ns:V2)(base:List Edge)(es:List B3):∀ k,(W0 t ns base es k).length<=base.length+k
 | 0=>by simp [W0]
 | k+1=>by rw [A8,aI];have:=UM t ns base es k;have:=A9 t ns (es[k]?.getD (0,0,0));omega
theorem Uz (c:Prop)[Decidable c](m:Nat):(if c then 0 else min m 2)<=2:=by split<;>omega
theorem P7 (t:Types)(ht:t.b6)(g:Graph)(c3:g.h.length<=1000)(c4:g.i.length<=1000)(d:Dr24):Pua 115 [t.d,g.d,.agg d.c] (u5 t g d).d:=by
 have c5:=ht.ok.bz;have c6:=ht.ok.cV;obtain ⟨C,hC⟩:=dH (sZ t);refine Tz.pK ⟨λt=>t==6||t==7||t==12,λr=>match r with|6=>[(0,14),(1,14)]|11=>[(0,30),(1,30),(3,30),(4,30),(5,30),(7,30),(8,30),(9,30),(11,30),(12,30),(14,30),(15,30),(16,30),(20,30),(21,30),(23,30),(24,30),(25,30)]|_=>[]⟩ func115 rfl (λQ hQ=>?_);have Y:=@Dr24.c.eq_1;refine wv (h:=?_);unfold fT;refine pG g aD aD _ _ (λa b s ha hb d1 d0 c8 a8 a7 a9 c0=>?_);have d4:(0:Nat)<s.next:=aD;have d2:a≠0:=by simp [go_sem] at ha;omega
 have c9:b≠0:=by simp [go_sem] at hb;omega
 have K:=a9 0 eq;simp [go_sem] at K;have nx:=Sk s.next;have b1:=xa1 (bS (aD:a<s.next)) (bS (aD:b<s.next)) (bS (aD:0<s.next));have b4:=xa1 (dJ (aD:0≠b)) (dJ (aD:0≠a)) (dJ (aD:b≠a));have Y:=xa5 Y b1 b4 a8 a7 K nx;refine wv (h:=aB ((by have X:=IL t aD;rw [hC] at X;exact X)) wl ?_);refine wv (h:=bA (λi e H=>∃ c:Nat,(e 3=.adr t.c/\e 4=.adr g.c/\e 5=.adr d.c/\e 6=.ptr 0 1 0 0/\e 7=.ptr c 1 0 0/\e 8=dLI C/\e 9=dI i)/\(H.get 0=some ⟨29,2,[[.nil,.nil]],false⟩)/\(0<H.next)/\(H.get c=some ⟨29,2,[[.own a (g.h.length+i),.own b g.i.length]],false⟩)/\(c<H.next)/\(H.get a=some ⟨3,1,(WZ t g.h d.h i).map cI,false⟩)/\(a<H.next)/\(H.get b=some ⟨145,3,g.i.map Edge.c,false⟩)/\(b<H.next)/\(i<=2)/\(i<=d.h.length)/\(C.length=0->i=0)/\(a<c/\b<c/\0<c)/\((WZ t g.h d.h i).length=g.h.length+i)) (λi=>2 - i) 0 ⟨s.next,wg,wn,wn,wn,wn,(by simp [go_sem,Y,WZ]),wn,wn,wn,wi,wi,(by intro _;rfl),aD,(by exact HN _ _ _ _)⟩ λI0 b0 i e H a4=>?_);obtain ⟨c,E0,W,D,P,v,U,A,S,y,hi,c2,hz,hc,j⟩:=a4;have b3:=xa4 (dJ (aD:0≠c)) (dJ (aD:0≠b)) (dJ (aD:0≠a)) (dJ (aD:c≠b)) (dJ (aD:c≠a)) (dJ (aD:b≠a));have Y:=xa0 Y (xb0 @Dr24.c.eq_1 E0 W (bS D) P (bS v) U (bS A) S (bS y) j b3);refine iY (λh4=>?_) λh4=>?_
 .have hil:i<d.h.length:=aD;have p:0<C.length:=aD;have d3:¬C=[]:=by intro h;rw [h] at p;simp at p
  have a1:=lA d.h[i];have a6:d.h[i]?.getD 0=d.h[i]:=by rw [aA hil];rfl
  have tm:=eM (aD:0<=(d.h[i].toNat:Int)) (aD:(0:Int)<C.length);obtain ⟨kk,a2⟩:=AU p d.h[i];have l:(C.length:Int)≠0:=aD;have Y:=xa4 Y h4 (aA hil) (aA kk) l @cU.eq_1;exact wp (h:=wx b0 (i+1) ⟨c,wg,wn,wn,wn,wn,(by simp [go_sem,Y,Yf,hC,a6,a2]),wn,wn,wn,wj,wj,aD,aD,(by exact HN _ _ _ _)⟩)
 .have hI:i=(if C.length=0 then 0 else min d.h.length 2):=by
   split
   .rename_i h;exact hz h
   .rename_i h;have X:¬ (i<d.h.length/\i<2):=λhh=>h (by rw [h4 hh.1 aD];rfl);omega
  obtain ⟨f,o⟩:=dH (WZ t g.h d.h i);have G:f.length=g.h.length+i:=by rw [<- o];exact j
  clear j;have j:g.h.length+i=f.length:=G.symm;have F:g.h.length+i=f.length:=G.symm;have E:(g.h.length:Int)+(i:Int)=(f.length:Int):=aD;have Y:=xa3 Y j o F E;refine wp (h:=bA (λk e H=>∃ m:List Edge,(e 3=.adr t.c/\e 4=.adr g.c/\e 5=.adr d.c/\e 6=.ptr 0 1 0 0/\e 7=.ptr c 1 0 0/\e 10=dI f.length/\e 11=dI k)/\(H.get 0=some ⟨29,2,[[.nil,.nil]],false⟩)/\(0<H.next)/\(H.get c=some ⟨29,2,[[.own a f.length,.own b m.length]],false⟩)/\(c<H.next)/\(H.get a=some ⟨3,1,f.map cI,false⟩)/\(a<H.next)/\(H.get b=some ⟨145,3,m.map Edge.c,false⟩)/\(b<H.next)/\(k<=2)/\(k<=d.i.length)/\(f.length=0\/t.i.length=0->k=0)/\(a<c/\b<c/\0<c)/\(m=W0 t f g.i d.i k)/\(m.length<=g.i.length+k)) (λk=>2 - k) 0 ⟨g.i,wg,wn,wn,wn,wn,wn,wn,wn,wn,wi,wi,(by intro _;rfl),aD,(by simp [W0]),aD⟩ λI2 M k e H a3=>?_);obtain ⟨m,E2,V,B,O,u,T,z,R,w,hk,c1,a0,c7,hy,b7⟩:=a3;have b2:=xa4 (dJ (aD:0≠c)) (dJ (aD:0≠b)) (dJ (aD:0≠a)) (dJ (aD:c≠b)) (dJ (aD:c≠a)) (dJ (aD:b≠a));have Y:=xa9 Y E2 V (bS B) O (bS u) T (bS z) R (bS w) b2;refine iY (λh9=>?_) λh9=>?_
  .have hkl:k<d.i.length:=aD;have N:0<t.i.length:=aD;have J:0<f.length:=aD;have b6:¬t.i=[]:=by intro h;rw [h] at N;simp at N
   have b5:¬f=[]:=by intro h;rw [h] at J;simp at J
   obtain ⟨x,hx⟩:=dH (d.i[k]);have a5:d.i[k]?.getD (0,0,0)=x:=by rw [aA hkl,<- hx];rfl
   have a1:=lA x.1;have b9:=lA x.2.1;have b8:=lA x.2.2;have t1:=eM (aD:0<=(x.1.toNat:Int)) (aD:(0:Int)<t.i.length);have t2:=eM (aD:0<=(x.2.1.toNat:Int)) (aD:(0:Int)<f.length);have t3:=eM (aD:0<=(x.2.2.toNat:Int)) (aD:(0:Int)<f.length);have hf:((x.2.1.toNat:Int).tmod f.length).toNat<f.length:=aD;have n:((x.2.2.toNat:Int).tmod f.length).toNat<f.length:=aD;have l:(t.i.length:Int)≠0:=aD;have I:(f.length:Int)≠0:=aD;have Z:=Sk H.next;have Y:=xa9 Y h9 (aA hkl) hx a5 @cT3.eq_1 (aA hf) (aA n) l I Z;refine wp (h:=aH (y8 t ht.ok _ _ _) wl ?_);refine iY (λq=>?_) λq=>?_
   .have hE:BX t f x=[mkEd t f.length x]:=by unfold BX nN mkEd;rw [if_pos (by simpa [aA hf,aA n] using q)]
    have Y:=xa1 Y hE @mkEd.eq_1;exact wp (h:=wx M (k+1) ⟨(m++BX t f (d.i[k]?.getD (0,0,0))),wg,wn,wn,wn,wn,wn,wn,wn,wn,wj,wj,aD,aD,(by rw [A8,<- hy]),(by rw [aI];have:=A9 t f (d.i[k]?.getD (0,0,0));omega)⟩)
   .have hE:BX t f x=[]:=by unfold BX nN mkEd;rw [if_neg (by simpa [aA hf,aA n] using q)]
    have Y:=wa Y hE;exact wp (h:=wx M (k+1) ⟨(m++BX t f (d.i[k]?.getD (0,0,0))),wg,wn,wn,wn,wn,wn,wn,wn,wn,wj,wj,aD,aD,(by rw [A8,<- hy]),(by rw [aI];have:=A9 t f (d.i[k]?.getD (0,0,0));omega)⟩)
  .have hK:k=(if f.length=0\/t.i.length=0 then 0 else min d.i.length 2):=by
    split
    .rename_i h;exact a0 h
    .rename_i h;have X:¬ (k<d.i.length/\k<2):=λhh=>h (.inr (by rw [h9 hh.1 aD aD];rfl));omega
   have L:u5 t g d=⟨f,m⟩:=by
    unfold u5;rw [hC,<- hI,o,<- hK,hy]
   exact wv (h:=hQ _ _ (iv L))
end Go.Abs
end
