/- Layers 3 and 21: tests, patterns. · Layer 21: patterns. · La -/
import Derived.Test.YtpdanmkcpjdmjaaGreatZkAF
import Derived.Test.YtpdanmkcpjdmjaaGreatZkAH
import Derived.Test.YtpdanmkcpjdmjaaGreatZkAA
import Derived.Ground.NamesProg
import Derived.Ground.Names2Prog
import Derived.Shelf.Sort.Plain
import Derived.Shelf.Slices.CompactI
import Derived.Shelf.Slices.In.SortNone
import Derived.Test.YtpdanmkcpjdmjaaGreatProg
set_option linter.unusedVariables false
set_option linter.unusedSimpArgs false
section
set_option maxRecDepth 100000
set_option maxHeartbeats 4000000
open Go Go.Proofs Tryz
namespace Go.Abs
def gK {α:Type}(f:α->Int):List α->Int
 | []=>0
 | x :: l=>if f x≠0 then f x else gK f l
theorem lC {α:Type}(f:α->Int){l:List α}{i:Nat}(h:i<l.length):gK f (l.drop i)=if f l[i]≠0 then f l[i] else gK f (l.drop (i+1)):=by
 rw [iB h];rfl
theorem mK {α:Type}(f:α->Int){l:List α}{i:Nat}(h:¬ i<l.length):gK f (l.drop i)=0:=by
 rw [g8 aD];rfl
def termB (n:Int)(x:Term):Bool:=decide (-1<=x.N)&&decide (x.N<n)&&decide (-1000000<=x.add)&&decide (x.add<=1000000)
theorem zF (n:Int)(x:Term):Pua 338 [dI n,.agg [dI x.N,dI x.add]] (.bool (termB n x)):=by
 refine Tz.p0 func338 rfl λQ a Y=>?_;have Y:=wa Y @termB.eq_1;exact wo (h:=a _ _ wy)
def uV (n:Int)(x:Test):Int:=if x.E≠1/\x.E≠2 then 1 else if (termB n x.left&&termB n x.right)=true then 0 else 6
theorem I8 (n:Int)(x:Test):Pua 294 [dI n,.agg x.c] (dI (uV n x)):=by
 refine Tz.p0 func294 rfl λQ d Y=>?_;refine d8 (λg=>?_) λg=>?_
 .exact wv (h:=d _ _ (by simp [go_sem,uV];omega))
 .refine wo (h:=aB (zF n x.left) wl ?_);refine wo (h:=aK (λf=>zF n x.right) (λf=>wl) ?_);refine d8 (λe=>?_) λe=>?_
  .exact wv (h:=d _ _ (by revert e;cases b:termB n x.left<;>cases a:termB n x.right<;>simp [go_sem,uV,b,a]<;>omega))
  .exact wv (h:=d _ _ (by revert e;cases b:termB n x.left<;>cases a:termB n x.right<;>simp [go_sem,uV,b,a]<;>omega))
def kT (n:Int)(l:List Test):Int:=if n<0\/12<n then 6 else if 40<l.length then 3 else gK (uV n) l
theorem EP (n:Int)(l:List Test):Pua 228 [dI n,.list (l.map Test.c)] (dI (kT n l)):=by
 refine Tz.pK ⟨λt=>t==6,λ_=>[]⟩ func228 rfl (λQ a=>?_);have Y:=trivial;refine d8 (λo=>?_) λo=>?_
 .exact wv (h:=a _ _ (by simp [go_sem,kT];omega))
 .refine d8 (λm=>?_) λm=>?_
  .exact wv (h:=a _ _ (by simp [go_sem,kT];omega))
  .refine wo (h:=aY (λi e H=>(e 0=dI n/\e 17=.list (l.map Test.c)/\e 18=dI l.length/\e 19=dI i)/\(i<=l.length)/\(gK (uV n) (l.drop i)=kT n l)) (λi=>l.length - i) 0 ⟨wg,wi,(by rw [kT,if_neg aD,if_neg aD];rfl)⟩ λu d i e H b=>?_);obtain ⟨p,s,j⟩:=b;have Y:=wa Y p;refine dK (λg=>?_) λg=>?_
   .have hst:=j;rw [lC _ g] at hst;have Y:=wa Y g;refine wo (h:=aB (I8 n l[i]) wl ?_);refine d8 (λf=>?_) λf=>?_
    .exact wv (h:=a _ _ (by rw [if_pos (eQ f)] at hst;simp [go_sem,hst]))
    .exact wo (h:=wx d (i+1) ⟨wg,wj,(by rw [if_neg (by simp [f])] at hst;exact hst)⟩)
   .exact wv (h:=a _ _ (by rw [<- j,mK _ aD];simp [go_sem]))
def zX (n:Int)(x:Term):Int:=if termB n x=true then 0 else 6
theorem C1 (n:Int)(x:Term):Pua 318 [dI n,.agg [dI x.N,dI x.add]] (dI (zX n x)):=by
 refine Tz.p0 func318 rfl λQ a Y=>?_;refine d8 (λb=>?_) λb=>?_
 .exact wv (h:=a _ _ (by simp [go_sem,zX,termB];omega))
 .exact wv (h:=a _ _ (by simp [go_sem,zX,termB];omega))
theorem TO (n:Int)(x:Test):Pua 260 [dI n,.agg x.c] (dI (uV n x)):=by
 refine Tz.p0 func260 rfl λQ b Y=>?_;refine d8 (λg=>?_) λg=>?_
 .exact wv (h:=b _ _ (by simp [go_sem,uV];omega))
 .refine wv (h:=aB (C1 n x.left) wl ?_);refine dK (λd=>?_) λd=>?_
  .exact wv (h:=b _ _ (by revert d;cases a:termB n x.left<;>simp [go_sem,uV,zX,a]<;>omega))
  .refine wv (h:=aB (C1 n x.right) wl ?_);exact wv (h:=b _ _ (by revert d;cases a:termB n x.left<;>cases f:termB n x.right<;>simp [go_sem,uV,zX,a,f]<;>omega))
theorem OX (n:Int)(l:List Test):Pua 181 [dI n,.list (l.map Test.c)] (dI (kT n l)):=by
 refine Tz.p0 func181 rfl λQ a Y=>?_;refine d8 (λo=>?_) λo=>?_
 .exact wv (h:=a _ _ (by simp [go_sem,kT];omega))
 .refine d8 (λm=>?_) λm=>?_
  .exact wv (h:=a _ _ (by simp [go_sem,kT];omega))
  .refine wv (h:=aY (λi e H=>(e 0=dI n/\e 1=.list (l.map Test.c)/\e 5=dI i)/\(i<=l.length)/\(gK (uV n) (l.drop i)=kT n l)) (λi=>l.length - i) 0 ⟨wg,wi,(by rw [kT,if_neg aD,if_neg aD];rfl)⟩ λt d i e H b=>?_);obtain ⟨p,s,j⟩:=b;have Y:=wa Y p;refine d8 (λg=>?_) λg=>?_
   .have hst:=j;rw [lC _ g] at hst;have Y:=wa Y g;refine wo (h:=aB (TO n l[i]) wl ?_);refine d8 (λf=>?_) λf=>?_
    .exact wv (h:=a _ _ (by rw [if_pos (eQ f)] at hst;simp [go_sem,hst]))
    .exact wo (h:=wx d (i+1) ⟨wg,wj,(by rw [if_neg (by simp [f])] at hst;exact hst)⟩)
   .exact wv (h:=a _ _ (by rw [<- j,mK _ aD];simp [go_sem]))
theorem jL (n b a:Int):Pua 226 [dI n,dI b,dI a] (.bool (inF n b a)):=by
 refine Tz.p0 func226 rfl λQ c Y=>?_;have Y:=wa Y @inF.eq_1;exact wo (h:=c _ _ wy)
def oB:Attr:=⟨⟨#[]⟩,0,0,[]⟩
def Pattern.E (p:Pattern)(node:Int):Int:=p.j.h[node.toNat]?.getD 0
def lZ (t:Types)(p:Pattern)(node attr:Int):Bool:=decide (0<=node)&&decide (node<p.j.h.length)&&(decide (0<=attr)&&decide (attr<(bI t (p.E node)).length))
def FY (t:Types)(p:Pattern)(node attr:Int):Attr:=if lZ t p node attr=true then (bI t (p.E node))[attr.toNat]?.getD oB else oB
theorem rG {t:Types}(c:t.ok)(a:Int):(bI t a).length<=8:=by
 unfold bI;split
 .rename_i h;obtain ⟨b,e,d⟩:=uC h;exact b.r _ aD
 .simp
theorem Ju (t:Types)(i:t.ok)(p:Pattern)(m:p.j.h.length<=1000)(s:Slot):Pua 227 [t.d,p.d,.agg s.c] (.tup [.agg (FY t p s.node s.J).c,.bool (lZ t p s.node s.J)]):=by
 have l:=rG i (p.E s.node);refine Tz.pK ⟨λt=>t==6,λ_=>[]⟩ func227 rfl (λQ e=>?_);have Y:=trivial;refine wo (h:=aB (jL _ _ _) wl ?_);refine d8 (λg=>?_) λg=>?_
 .simp [inF] at g;have b:lZ t p s.node s.J=false:=by rw [bQ];intro h;simp [lZ] at h;omega
  exact wv (h:=e _ _ (by simp [go_sem,FY,b,oB]))
 .simp [inF] at g;have j:s.node.toNat<p.j.h.length:=aD;have a:p.E s.node=p.j.h[s.node.toNat]:=by simp [Pattern.E,j]
  rw [a] at l;have Y:=xa1 Y (aA j) a;refine wo (h:=aI (oT t i p.j.h[s.node.toNat]) wl ?_);refine wo (h:=aB (jL _ _ _) wl ?_);refine d8 (λf=>?_) λf=>?_
  .simp [inF] at f;have b:lZ t p s.node s.J=false:=by rw [bQ];intro h;simp [lZ,a] at h;omega
   exact wv (h:=e _ _ (by simp [go_sem,FY,b,oB]))
  .simp [inF] at f;have k:s.J.toNat<(bI t p.j.h[s.node.toNat]).length:=aD;have b:lZ t p s.node s.J=true:=by simp [lZ,a];omega
   have Y:=wa Y (aA k);exact wo (h:=e _ _ (by simp [go_sem,FY,b,a,aA k]))
def cB (b:Bool):UN:=[.bool b]
@[go_sem] theorem acL (l:List Bool):D.O (l.map cB)=true:=dN cB (λ_=>rfl) l
attribute [go_sem] cB
theorem Ru (xs:List Bool)(v:Bool):Pua 295 [.list (xs.map cB),.bool v] (dI (idx xs v)):=by
 refine Tz.p0 func295 rfl λQ g Y=>?_;refine wv (h:=?_);repeat first|intro _|refine ⟨iD,?_⟩
 refine aY (λi e H=>(e 0=.list (xs.map cB)/\e 1=.bool v/\e 7=dI xs.length/\e 8=dI i)/\(i<=xs.length)/\(∀ j,j<i->xs[j]?≠some v)) (λi=>xs.length - i) 0 ⟨wg,wi,(by intro j l;omega)⟩ λr d i e H c=>?_;obtain ⟨n,q,a⟩:=c;have Y:=wa Y n;refine dK (λb=>?_) λb=>?_
 .have Y:=wa Y b;refine wv (h:=?_);refine wq (λf=>?_) λf=>?_
  .exact wv (h:=g _ _ (by rw [xF a (by rw [aA b,f])];simp [go_sem]))
  .refine wv (h:=?_);repeat first|intro _|refine ⟨iD,?_⟩
   exact wx d (i+1) ⟨wg,wj,(kP a (by rw [aA b];simpa using λh=>f h.symm))⟩
 .exact wv (h:=g _ _ (by rw [Dv λj l=>a j aD];simp [go_sem]))
theorem Kr (xs:List Bool)(v:Bool):Pua 229 [.list (xs.map cB),.bool v] (.bool (mem xs v)):=by
 refine Tz.p0 func229 rfl λQ a Y=>?_;refine wv (h:=aB (Ru xs v) wl ?_);have Y:=wa Y @mem.eq_1;exact wv (h:=a _ _ wy)
def fQ (t:Types)(g:Graph):Bool:=(!(g.h.any λn=>decide ((t.h.length:Int)<=n)))&&!(g.i.any λx=>decide ((t.i.length:Int)<=x.type))
theorem EW (t:Types)(a:Int):Pua 223 [dI a,.adr t.c] (.bool (decide ((t.h.length:Int)<=a))):=by
 refine Tz.p0 func223 rfl λQ b Y=>?_;exact wo (h:=b _ _ wy)
theorem EV (t:Types)(x:Edge):Pua 225 [.agg x.c,.adr t.c] (.bool (decide ((t.i.length:Int)<=x.type))):=by
 refine Tz.p0 func225 rfl λQ a Y=>?_;exact wo (h:=a _ _ wy)
def j5 (n:Nat)(l:List Slot):List Bool:=(List.range n).map λ(v:Nat)=>l.any λs=>decide (s.x.N=v)
theorem D7 (n:Nat)(l:List Slot):(j5 n l).length=n:=by simp [j5]
theorem Tf (n:Nat):j5 n []=List.replicate n false:=by
 apply fW (by simp [j5]);intro i b a;simp [j5]
theorem Te (n:Nat)(l:List Slot)(s:Slot)(g:0<=s.x.N)(f:s.x.N<n):j5 n (l++[s])=(j5 n l).set s.x.N.toNat true:=by
 apply fW (by simp [j5]);intro i e d;simp only [j5,pI,qL,wQ,List.any_cons,List.any_nil,pC];grind
theorem Tg (n:Nat)(l:List Slot)(s:Slot)(d:¬ 0<=s.x.N):j5 n (l++[s])=j5 n l:=by
 simp only [j5,pI,qL,wQ,List.any_cons,List.any_nil,pC];grind
theorem Qw (n:Nat)(l:List Slot)(s:Slot)(a:s.x.N<n):j5 n (l++[s])=if 0<=s.x.N then (j5 n l).set s.x.N.toNat true else j5 n l:=by
 split
 .exact Te n l s ‹_› a
 .exact Tg n l s ‹_›
def gF (t:Types)(p:Pattern)(s:Slot):Int:=if (lZ t p s.node s.J&&inF s.x.N (-1) (p.vars - 1)&&inF s.x.add (-1000000) 1000000)=true then 0 else 6
def cX (t:Types)(p:Pattern):Int :=
 if (cW t).2≠0 then (cW t).2
 else if graphF p.j≠0 then graphF p.j
 else if fQ t p.j=false then 13
 else if inF p.vars 0 12=false then 6
 else if 10<p.l.length\/10<p.G.length then 3
 else if gK (gF t p) p.l≠0 then 6
 else if kT p.vars p.G≠0 then kT p.vars p.G
 else if mem (j5 p.vars.toNat p.l) false=true then 9 else 0
theorem bR {g:Graph}(h:graphF g=0):g.h.length<=40/\g.i.length<=80:=by grind [graphF]
theorem Va {t:Types}{p:Pattern}{s:Slot}(h:gF t p s=0):s.x.N<p.vars/\-1<=s.x.N:=by grind [gF, inF]
theorem oI (t:Types)(ht:t.ok)(p:Pattern):Pure prog 150 [t.d,p.d] (dI (cX t p)):=by
 refine Tz.pK ⟨fun t=>t==10||t==11,fun _=>[]⟩ func150 rfl (fun Q hQ=>?_);have Y:=trivial;refine wv (h:=aB (mX t ht) wl ?_);refine dK (fun h2=>?_) fun h2=>?_
 ·exact wv (h:=hQ _ _ (by simp [go_sem,cX,h2]))
 ·refine wv (h:=aB (nD p.j) wl ?_)
  refine dK (fun h5=>?_) fun h5=>?_
  ·exact wv (h:=hQ _ _ (by simp [go_sem,cX,h2,h5]))
  ·have hg:=bR h5
   refine wo (h:=aB (gM p.j.h 223 [.adr t.c] (fun a=>decide ((t.h.length:Int)≤a)) (by simp [go_sem]) (by simp [go_sem]) (fun a _=>EW t a)) wl ?_);refine wo (h:=aK (fun hg=>mE p.j.i 225 [.adr t.c] (fun x=>decide ((t.i.length:Int)≤x.type)) (by simp [go_sem]) (by simp [go_sem]) (fun x _=>EV t x)) (fun hg=>wl) ?_);refine d8 (fun h7=>?_) fun h7=>?_
   ·have hT:fQ t p.j=false:=by
     simp [fQ];intro h';rcases h7 with ⟨x,hx,hl⟩|h
     ·exact absurd (h' x hx) (by omega)
     ·exact h
    exact wv (h:=hQ _ _ (by simp [go_sem,cX,h2,h5,hT]))
   ·have hT:fQ t p.j=true:=by simp [fQ];exact h7
    refine wo (h:=aB (jL _ _ _) wl ?_);refine d8 (fun h9=>?_) fun h9=>?_
    ·exact wv (h:=hQ _ _ (by simp [go_sem,cX,h2,h5,hT,h9]))
    ·refine d8 (fun h11=>?_) fun h11=>?_
     ·exact wv (h:=hQ _ _ (by simp [go_sem,cX,h2,h5,hT,h9];omega))
     ·have hin:=h9
      simp [inF] at hin;have hF0:cX t p=if gK (gF t p) p.l≠0 then 6 else if kT p.vars p.G≠0 then kT p.vars p.G else if mem (j5 p.vars.toNat p.l) false=true then 9 else 0:=by
       unfold cX;rw [if_neg (by simp [h2]),if_neg (by simp [h5]),if_neg (by simp [hT]),if_neg (by simp [h9]),if_neg (by omega)]
      refine wo (h:=aY (fun i e H=>(e 2=.adr t.c∧e 3=.adr p.c∧e 8=.own 0 p.vars.toNat∧e 58=.list (p.l.map Slot.c)∧e 59=dI p.l.length∧e 60=dI i)∧(H.get 0=some ⟨4,1,(j5 p.vars.toNat (p.l.take i)).map cB,false⟩)∧(0<H.next)∧(i≤p.l.length)∧(gK (gF t p) (p.l.drop i)=gK (gF t p) p.l)) (fun i=>p.l.length - i) 0 ⟨wg,(by (simp [go_sem,Tf])),wn,wi,(by rfl)⟩ fun I0 hI0 i e H hi0=>?_);obtain ⟨E0,g0_0,n0_0,hi,hL⟩:=hi0;have Y:=wa Y (wa E0 (wa g0_0 (wa (bL n0_0) @D7)));refine dK (fun h15=>?_) fun h15=>?_
      ·have hst:=lC (gF t p) h15
       have hts:=aE h15;have Y:=wa Y h15;refine wo (h:=aB (Ju t ht p (by omega) p.l[i]) wl ?_);refine wo (h:=aK (fun hg=>jL _ _ _) (fun hg=>wl) ?_);refine wo (h:=aK (fun hg=>jL _ _ _) (fun hg=>wl) ?_);refine wo (h:=bC (fun h18=>?_) (fun h18=>?_))
       ·skip
        have hs6:gF t p p.l[i]=6:=by unfold gF;rw [if_neg];revert h18;cases lZ t p p.l[i].node p.l[i].J<;>cases inF p.l[i].x.N (-1) (p.vars - 1)<;>cases inF p.l[i].x.add (-1000000) 1000000<;>simp
        rw [hs6,if_pos (by simp),hL] at hst;exact wv (h:=hQ _ _ (by simp [go_sem,hF0,hst]))
       ·skip
        have hs0:gF t p p.l[i]=0:=by unfold gF;rw [if_pos];revert h18;cases lZ t p p.l[i].node p.l[i].J<;>cases inF p.l[i].x.N (-1) (p.vars - 1)<;>cases inF p.l[i].x.add (-1000000) 1000000<;>simp
        rw [hs0,if_neg (by simp),hL] at hst;have hlt:=Va hs0;have hus:=Qw p.vars.toNat (p.l.take i) p.l[i] (by omega);refine dK (fun h20=>?_) fun h20=>?_
        ·have hfin:j5 p.vars.toNat (p.l.take (i+1))=(j5 p.vars.toNat (p.l.take i)).set p.l[i].x.N.toNat true:=by rw [hts,hus,if_pos (by omega)]
         have hvl:p.l[i].x.N.toNat<(j5 p.vars.toNat (p.l.take i)).length:=by rw [D7];omega
         have Y:=wa Y (aA hvl);exact wo (h:=wx hI0 (i+1) ⟨wg,(by (simp [go_sem,Y,b6,hfin])),wn,wj,(by (exact hst.symm))⟩)
        ·have hfin:j5 p.vars.toNat (p.l.take (i+1))=j5 p.vars.toNat (p.l.take i):=by rw [hts,hus,if_neg (by omega)]
         exact wo (h:=wx hI0 (i+1) ⟨wg,(by (simp [go_sem,Y,b6,hfin])),wn,wj,(by (exact hst.symm))⟩)
      ·have hU:List.take i p.l=p.l:=aG (by omega)
       have hz:gK (gF t p) p.l=0:=by rw [← hL,mK _ (by omega)]
       rw [hU] at g0_0;rw [if_neg (by simp [hz])] at hF0;have Y:=wa E0 (wa g0_0 (wa (bL n0_0) @D7));refine wv (h:=aB (EP p.vars p.G) wl ?_);refine dK (fun h24=>?_) fun h24=>?_
       ·exact wv (h:=hQ _ _ (by rw [hF0,if_pos (by simpa using h24)];simp [go_sem]))
       ·refine wv (h:=dX (Kr (j5 p.vars.toNat p.l) false) wr wl rfl ?_)
        refine dK (fun M6=>?_) fun M6=>?_
        ·exact wv (h:=hQ _ _ (by rw [hF0,if_neg (by simpa using h24),if_pos M6];simp [go_sem]))
        ·exact wv (h:=hQ _ _ (by rw [hF0,if_neg (by simpa using h24),if_neg (by simp [M6])];simp [go_sem]))
def o7 (t:Types)(x:Edge):Bool:=decide (0<=x.type)&&decide (x.type<t.i.length)
def mB (t:Types)(g:Graph):Bool:=(!(g.h.any λa=>!insideF t a))&&!(g.i.any λx=>!o7 t x)
theorem oJ {α:Type}{l:List α}{p:α->Bool}{i:Nat}(h:(l.take i).any p=false)(a:l.length<=i):l.any p=false:=by
 rw [aG a] at h;exact h
theorem u5 (t:Types)(g:Graph):Pua 178 [t.d,g.d] (.bool (mB t g)):=by
 refine Tz.p0 func178 rfl λQ o Y=>?_;refine wv (h:=aY (λi e H=>(e 2=.adr t.c/\e 3=.adr g.c/\e 5=dI i)/\(i<=g.h.length)/\(((g.h.take i).any λa=>!insideF t a)=false)) (λi=>g.h.length - i) 0 ⟨wg,wi,(by rfl)⟩ λC q i e H m=>?_);obtain ⟨y,A,r⟩:=m;have Y:=wa Y y;refine wv (h:=?_);repeat first|intro _|refine ⟨iD,?_⟩
 refine wq (λf=>?_) λf=>?_
 .have Y:=wa Y f;refine d8 (λv=>?_) λv=>?_
  .refine wv (h:=?_);have j:(g.h.any λa=>!insideF t a)=true:=bD.2 ⟨_,aC f,by simp [insideF];omega⟩;exact o _ _ (.inl (by simp only [go_sem,mB,j,JJ,F7]))
  .exact wo (h:=wx q (i+1) ⟨wg,wj,(by rw [dU _ _ _ f,r];simp [insideF];omega)⟩)
 .have hN:=oJ r f;refine wv (h:=aY (λk e H=>(e 2=.adr t.c/\e 3=.adr g.c/\e 6=dI k)/\(k<=g.i.length)/\(((g.i.take k).any λx=>!o7 t x)=false)) (λk=>g.i.length - k) 0 ⟨wg,wi,(by rfl)⟩ λB p k e H l=>?_);obtain ⟨w,z,j⟩:=l;have Y:=wa Y w;refine wv (h:=?_);repeat first|intro _|refine ⟨iD,?_⟩
  refine wq (λb=>?_) λb=>?_
  .have Y:=wa Y b;refine d8 (λu=>?_) λu=>?_
   .refine wv (h:=?_);have n:(g.i.any λx=>!o7 t x)=true:=bD.2 ⟨_,aC b,by simp [o7];omega⟩;exact o _ _ (.inl (by simp only [go_sem,mB,n,JJ,Bool.and_false]))
   .exact wo (h:=wx p (k+1) ⟨wg,wj,(by rw [dU _ _ _ b,j];simp [o7];omega)⟩)
  .refine wv (h:=?_);have s:=oJ j b;exact o _ _ (.inl (by simp only [go_sem,mB,hN,s,Bool.not_false,Bool.and_true]))
theorem LZ {α:Type}{l:List α}{p q:α->Bool}(h:∀ x∈l,p x=q x):l.any p=l.any q:=by grind
theorem dP {g:Graph}(h:graphF g=0):(∀ a∈g.h,0<=a/\a<=99)/\∀ x∈g.i,(0<=x.type/\x.type<=99)/\(0<=x.w/\x.w<g.h.length)/\(0<=x.M/\x.M<g.h.length):=by
 unfold graphF at h;split at h
 .cases h
 .split at h
  .cases h
  .rename_i h1;split at h
   .cases h
   .rename_i h2;simp [iQ,vK] at h1 h2;grind
theorem qQ {t:Types}{g:Graph}(h:graphF g=0):mB t g=fQ t g:=by
 obtain ⟨c,b⟩:=dP h;unfold mB fQ;congr 2
 .exact LZ λx a=>by have:=c x a;rw [aS];simp [insideF];omega
 .exact LZ λx a=>by have:=b x a;rw [aS];simp [o7];omega
theorem J8 (n:Int):Pua 180 [dI n] (.bool (inF n (-1000000) 1000000)):=by
 refine Tz.p0 func180 rfl λQ a Y=>?_;have Y:=wa Y @inF.eq_1;exact wo (h:=a _ _ wy)
theorem RZ {t:Types}{a:Int}(h:¬ given2F t a a=0):bI t a=[]:=by unfold bI;rw [if_neg h]
theorem Q2 (t:Types)(i:t.ok)(p:Pattern)(a b:Int):Pua 179 [t.d,p.d,dI a,dI b] (.tup [.agg (FY t p a b).c,.bool (lZ t p a b)]):=by
 have k:=rG i (p.E a);refine Tz.pK ⟨λt=>t==8,λ_=>[]⟩ func179 rfl (λQ g=>?_);have Y:=trivial;refine d8 (λm=>?_) λm=>?_
 .have f:lZ t p a b=false:=by rw [bQ];intro h;simp [lZ] at h;omega
  exact wv (h:=g _ _ (by simp [go_sem,FY,f,oB]))
 .have hn:a.toNat<p.j.h.length:=aD;have e:p.E a=p.j.h[a.toNat]:=by simp [Pattern.E,hn]
  rw [e] at k;have Y:=xa1 Y (aA hn) e;refine wo (h:=aI (l7 t i p.j.h[a.toNat]) wl ?_);refine d8 (λl=>?_) λl=>?_
  .have f:lZ t p a b=false:=by
    rw [bQ];intro h;simp [lZ,e] at h;by_cases j:given2F t p.j.h[a.toNat] p.j.h[a.toNat]=0
    .omega
    .rw [RZ j] at h;simp at h;omega
   exact wv (h:=g _ _ (by simp [go_sem,FY,f,oB]))
  .have ha:b.toNat<(bI t p.j.h[a.toNat]).length:=aD;have f:lZ t p a b=true:=by simp [lZ,e];omega
   have Y:=wa Y (aA ha);exact wo (h:=g _ _ (by simp [go_sem,FY,f,e,aA ha]))
def jW (p:Pattern)(v:Int):Bool:=p.l.any λs=>decide (s.x.N=v)
theorem MG (p:Pattern)(v:Int):Pua 182 [p.d,dI v] (.bool (jW p v)):=by
 refine Tz.p0 func182 rfl λQ l Y=>?_;refine wv (h:=aY (λi e H=>(e 2=.adr p.c/\e 1=dI v/\e 5=dI i)/\(i<=p.l.length)/\(((p.l.take i).any λs=>decide (s.x.N=v))=false)) (λi=>p.l.length - i) 0 ⟨wg,wi,(by rfl)⟩ λo g i e H b=>?_);obtain ⟨m,n,k⟩:=b;have Y:=wa Y m;refine wv (h:=?_);repeat first|intro _|refine ⟨iD,?_⟩
 refine wq (λa=>?_) λa=>?_
 .have Y:=wa Y a;refine d8 (λj=>?_) λj=>?_
  .refine wv (h:=?_);have f:jW p v=true:=bD.2 ⟨_,aC a,by simpa using j⟩;exact l _ _ (.inl (by simp only [go_sem,f]))
  .exact wo (h:=wx g (i+1) ⟨wg,wj,(by rw [dU _ _ _ a,k];simpa using j)⟩)
 .refine wv (h:=?_);have f:jW p v=false:=oJ k a;exact l _ _ (.inl (by simp only [go_sem,f]))
theorem KH (p:Pattern)(n:Nat):mem (j5 n p.l) false=true↔∃ v:Nat,v<n/\jW p v=false:=by
 rw [mem_iff];simp only [j5,aW,bA,jW]
theorem u3 (t:Types)(F:t.ok)(p:Pattern):Pua 129 [t.d,p.d] (dI (cX t p)):=by
 refine Tz.pK ⟨λt=>t==9||t==10,λ_=>[]⟩ func129 rfl (λQ b=>?_);have Y:=trivial;refine wv (h:=aB (r9 t F) wl ?_);refine dK (λm=>?_) λm=>?_
 .exact wv (h:=b _ _ (by simp [go_sem,cX,m]))
 .refine wv (h:=aB (kH p.j) wl ?_);refine dK (λg=>?_) λg=>?_
  .exact wv (h:=b _ _ (by simp [go_sem,cX,m,g]))
  .refine wo (h:=aB (u5 t p.j) wl ?_);refine d8 (λk=>?_) λk=>?_
   .rw [qQ g] at k;exact wv (h:=b _ _ (by simp [go_sem,cX,m,g,k]))
   .rw [qQ g] at k;refine d8 (λM=>?_) λM=>?_
    .exact wv (h:=b _ _ (by simp [go_sem,cX,m,g,k,inF];omega))
    .refine d8 (λC=>?_) λC=>?_
     .exact wv (h:=b _ _ (by simp [go_sem,cX,m,g,k,inF];omega))
     .have a:cX t p=if gK (gF t p) p.l≠0 then 6 else if kT p.vars p.G≠0 then kT p.vars p.G else if mem (j5 p.vars.toNat p.l) false=true then 9 else 0:=by
       unfold cX;rw [if_neg (by simp [m]),if_neg (by simp [g]),if_neg (by simp [k]),if_neg (by simp [inF];omega),if_neg aD]
      refine wv (h:=aY (λi e H=>(e 2=.adr t.c/\e 3=.adr p.c/\e 8=dI i)/\(i<=p.l.length)/\(gK (gF t p) (p.l.drop i)=gK (gF t p) p.l)) (λi=>p.l.length - i) 0 ⟨wg,wi,(by rfl)⟩ λV B i e H y=>?_);obtain ⟨O,T,z⟩:=y;have Y:=wa Y O;refine d8 (λn=>?_) λn=>?_
      .have hst:=lC (gF t p) n;have Y:=wa Y n;refine wo (h:=aB (Q2 t F p p.l[i].node p.l[i].J) wl ?_);refine wo (h:=aK (λL=>J8 _) (λL=>wl) ?_);refine wo (h:=bC (λf=>?_) (λf=>?_))
       .skip
        have s:gF t p p.l[i]=6:=by
         unfold gF;rw [if_neg];intro h;simp [inF] at h;simp [h.1.1,inF] at f;omega
        rw [s,if_pos dB,z] at hst;exact wv (h:=b _ _ (by simp [go_sem,a,hst]))
       .skip
        have u:gF t p p.l[i]=0:=by
         unfold gF;rw [if_pos];simp [inF] at f ⊢;refine ⟨⟨f.1.1.1,?_⟩,?_⟩<;>omega
        rw [u,if_neg dB,z] at hst;exact wo (h:=wx B (i+1) ⟨wg,wj,(hst.symm)⟩)
      .have hz:gK (gF t p) p.l=0:=by rw [<- z,mK _ aD]
       rw [if_neg (by simp [hz])] at a;refine wv (h:=aB (OX p.vars p.G) wl ?_);refine dK (λl=>?_) λl=>?_
       .exact wv (h:=b _ _ (by rw [a,if_pos (eQ l)];simp [go_sem]))
       .rw [if_neg (eQ l)] at a;refine wv (h:=aY (λv e H=>(e 2=.adr t.c/\e 3=.adr p.c/\e 13=dI v)/\(v<=p.vars.toNat)/\(∀ j:Nat,j<v->jW p j=true)) (λv=>p.vars.toNat - v) 0 ⟨wg,wi,(by intro j S;omega)⟩ λU A v e H x=>?_);obtain ⟨N,R,G⟩:=x;have Y:=wa Y N;refine dK (λq=>?_) λq=>?_
        .have Y:=wa Y q;refine wo (h:=aB (MG p v) wl ?_);refine d8 (λE=>?_) λE=>?_
         .exact wv (h:=b _ _ (by rw [a,if_pos ((KH p _).2 ⟨v,aD,by simpa using E⟩)];simp [go_sem]))
         .exact wo (h:=wx A (v+1) ⟨wg,wj,(kP (p:=λj=>jW p j=true) G (eQ E))⟩)
        .refine wv (h:=?_);have K:¬ mem (j5 p.vars.toNat p.l) false=true:=λh=>by
          obtain ⟨w,P,o⟩:=(KH p _).1 h;rw [G w aD] at o;cases o
         exact b _ _ (by rw [a,if_neg K];simp [go_sem])
end Go.Abs
end
section
namespace Go.Proofs
open Go.Shelf
def Tryz.laysSort_ren:Go.Shelf.Ren:=⟨fun|189=>100|125=>148|257=>147|128=>220|129=>221|294=>211|295=>212|296=>213|297=>214|298=>215|299=>216|216=>217|300=>218|301=>219|328=>286|329=>287|330=>288|331=>289|332=>290|215=>291|343=>330|n=>n,fun|28=>48|3=>3|46=>234|0=>0|51=>301|53=>30|4=>4|183=>295|182=>294|131=>258|5=>5|9=>9|218=>335|222=>339|228=>370|229=>275|n=>n,fun|n=>n⟩
theorem Tryz.laysSort:Go.Proofs.Lays.n189 prog Tryz.laysSort_ren:={
 mixed:=by kernel_rfl
 f125:=func148.trans (congrArg some (by kernel_rfl))
 f128:=func220.trans (congrArg some (by kernel_rfl))
 f129:=func221.trans (congrArg some (by kernel_rfl))
 f189:=func100.trans (congrArg some (by kernel_rfl))
 f215:=func291.trans (congrArg some (by kernel_rfl))
 f216:=func217.trans (congrArg some (by kernel_rfl))
 f257:=func147.trans (congrArg some (by kernel_rfl))
 f294:=func211.trans (congrArg some (by kernel_rfl))
 f295:=func212.trans (congrArg some (by kernel_rfl))
 f296:=func213.trans (congrArg some (by kernel_rfl))
 f297:=func214.trans (congrArg some (by kernel_rfl))
 f298:=func215.trans (congrArg some (by kernel_rfl))
 f299:=func216.trans (congrArg some (by kernel_rfl))
 f300:=func218.trans (congrArg some (by kernel_rfl))
 f301:=func219.trans (congrArg some (by kernel_rfl))
 f328:=func286.trans (congrArg some (by kernel_rfl))
 f329:=func287.trans (congrArg some (by kernel_rfl))
 f330:=func288.trans (congrArg some (by kernel_rfl))
 f331:=func289.trans (congrArg some (by kernel_rfl))
 f332:=func290.trans (congrArg some (by kernel_rfl))
 f343:=func330.trans (congrArg some (by kernel_rfl))
 t0:=underlying0
 a0:=Tryz.isAgg0
 z0:=Tryz.sizeOf0
 v0:=Tryz.zeroValue0
 t3:=underlying3
 a3:=Tryz.isAgg3
 z3:=Tryz.sizeOf3
 v3:=Tryz.zeroValue3
 t4:=underlying4
 a4:=Tryz.isAgg4
 z4:=Tryz.sizeOf4
 v4:=Tryz.zeroValue4
 t5:=underlying5
 a5:=Tryz.isAgg5
 z5:=Tryz.sizeOf5
 v5:=Tryz.zeroValue5
 t9:=underlying9
 a9:=Tryz.isAgg9
 z9:=Tryz.sizeOf9
 v9:=Tryz.zeroValue9
 t28:=underlying48
 a28:=Tryz.isAgg48
 z28:=Tryz.sizeOf48
 v28:=Tryz.zeroValue48
 t46:=underlying234
 a46:=Tryz.isAgg234
 z46:=Tryz.sizeOf234
 v46:=Tryz.zeroValue234
 t51:=underlying301
 a51:=Tryz.isAgg301
 z51:=Tryz.sizeOf301
 v51:=Tryz.zeroValue301
 t53:=underlying30
 a53:=Tryz.isAgg30
 z53:=Tryz.sizeOf30
 v53:=Tryz.zeroValue30
 t131:=underlying258
 a131:=Tryz.isAgg258
 z131:=Tryz.sizeOf258
 v131:=Tryz.zeroValue258
 t182:=underlying294
 a182:=Tryz.isAgg294
 z182:=Tryz.sizeOf294
 v182:=Tryz.zeroValue294
 t183:=underlying295
 a183:=Tryz.isAgg295
 z183:=Tryz.sizeOf295
 v183:=Tryz.zeroValue295
 t218:=underlying335
 a218:=Tryz.isAgg335
 z218:=Tryz.sizeOf335
 v218:=Tryz.zeroValue335
 t222:=underlying339
 a222:=Tryz.isAgg339
 z222:=Tryz.sizeOf339
 v222:=Tryz.zeroValue339
 t228:=underlying370
 a228:=Tryz.isAgg370
 z228:=Tryz.sizeOf370
 v228:=Tryz.zeroValue370
 t229:=underlying275
 a229:=Tryz.isAgg275
 z229:=Tryz.sizeOf275
 v229:=Tryz.zeroValue275 }
def Tryz.laysCompact_ren:Go.Shelf.Ren:=⟨fun|20=>101|n=>n,fun|22=>48|3=>3|4=>4|0=>0|n=>n,fun|n=>n⟩
theorem Tryz.laysCompact:Go.Proofs.Lays2.n20 prog Tryz.laysCompact_ren:={
 mixed:=by kernel_rfl
 f20:=func101.trans (congrArg some (by kernel_rfl))
 t0:=underlying0
 a0:=Tryz.isAgg0
 z0:=Tryz.sizeOf0
 v0:=Tryz.zeroValue0
 t3:=underlying3
 a3:=Tryz.isAgg3
 z3:=Tryz.sizeOf3
 v3:=Tryz.zeroValue3
 t4:=underlying4
 a4:=Tryz.isAgg4
 z4:=Tryz.sizeOf4
 v4:=Tryz.zeroValue4
 t22:=underlying48
 a22:=Tryz.isAgg48
 z22:=Tryz.sizeOf48
 v22:=Tryz.zeroValue48
 i3:=by kernel_rfl }
end Go.Proofs
end
section
set_option maxRecDepth 4000
open Go Go.Proofs Go.Shelf Tryz
namespace Go.Abs
def kB (xs:W3):W3:=xs.mergeSort λx y=>decide (x<=y)
theorem kW (xs:W3):(kB xs).length=xs.length:=List.length_mergeSort xs
theorem CH {G:AHeap}{c:Nat}{ty:TypeId}{xs:W3}{Q:D->AHeap->Prop}(o:G.get c=some ⟨ty,1,xs.map cI,false⟩)(t:xs.length<=1000000)
  (q:Q (.tup []) (G.put c ⟨ty,1,(kB xs).map cI,false⟩)):ACalls prog 100 [.own c xs.length] G Q:=by
 refine Qk ⟨Tryz.f100,func100,rfl,rfl⟩ o (kW xs) (λw v b=>?_) q;rcases b.2 with ⟨rfl,r⟩|⟨g,l,s,rfl,p,a,h,k,j,f⟩
 .have hx:xs=[]:=bT r;subst hx;exact (Any.slices_Sort_int_none Tryz.laysSort none 0 w).mono λe m ⟨i,d⟩=>by
   subst d;exact ⟨i,⟨rfl,rfl,rfl,aZ _,λ_ _ _=>rfl⟩,by simpa [GG,kB] using b⟩
 .have hH:Sort.Holds (Value.int .i64) w g 0 xs.toArray:=holds_of_blockI a (eQ f);refine (Any.slices_Sort_int Tryz.laysSort g 0 l xs w hH (sS.1 a).1 aD).mono λe m ⟨i,n,os,d⟩=>?_;subst d;refine ⟨i,grownBy_sortedI _,?_⟩;have:=ownsRow_sortedI (n:=n) (os:=os) (ts:=kB xs) (kW xs) p a h k (eQ j);unfold GG;rw [kW];exact this
theorem Co (zs:W3):(Lib.compact zs).length<=zs.length:=by
 unfold Lib.compact Lib.compactUpTo;grind
theorem AL {G:AHeap}{f:Nat}{ty:TypeId}{xs:W3}{Q:D->AHeap->Prop}(t:G.get f=some ⟨ty,1,xs.map cI,false⟩)(A:xs.length<=1000000)
  (x:∀ k,Q (.list ((Lib.compact xs).map cI)) (G.put f k)):ACalls prog 101 [.own f xs.length] G Q:=by
 have p:=Co xs;have c:(Lib.compact xs++List.replicate (xs.length - (Lib.compact xs).length) 0).length=xs.length:=by simp;omega
 refine Nx (zs:=Lib.compact xs++List.replicate (xs.length - (Lib.compact xs).length) 0) (m:=(Lib.compact xs).length) ⟨Tryz.f101,func101,rfl,rfl⟩ t c p (λw v a=>?_) (by rw [List.take_left];exact x _);rcases a.2 with ⟨rfl,y⟩|⟨g,r,z,rfl,u,b,d,o,l,i⟩
 .have hx:xs=[]:=bT y;subst hx;exact (Any.slices_Compact_int_empty Tryz.laysCompact none 0 w).mono λe s ⟨j,h⟩=>by
   subst h;exact ⟨⟨_,j,.inl ⟨rfl,rfl⟩⟩,⟨rfl,rfl,rfl,aZ _,λ_ _ _=>rfl⟩,by simpa [GG,Lib.compact,Lib.compactUpTo] using a⟩
 .have hH:Sort.Holds (Value.int .i64) w g 0 xs.toArray:=holds_of_blockI b (eQ i);refine (Any.slices_Compact_int Tryz.laysCompact g 0 r xs w hH aD d).mono λe s ⟨j,q,h⟩=>?_;subst h;refine ⟨⟨_,j,.inr ⟨_,_,_,rfl,rfl⟩⟩,?_,?_⟩
  .have:=grownBy_sortedI (w:=w) (g:=g) (n:=q) (os:=#[]) (Lib.compact xs++List.replicate (xs.length - (Lib.compact xs).length) 0).toArray;exact this
  .have:=ownsRow_sortedI (n:=q) (os:=#[]) (ts:=Lib.compact xs++List.replicate (xs.length - (Lib.compact xs).length) 0) c u b d o (eQ l);rw [Sort.grow_empty] at this;unfold GG;grind
def imagesN (xs:W3):Nat:=(Lib.compact (kB xs)).length
theorem zC (xs:W3)(b:xs.length<=1000000):Pua 300 [dLI xs] (dI (imagesN xs)):=by
 have a:=kW xs;refine Tz.p0 func300 rfl λQ c Y=>?_;refine wv (h:=lG (jK xs b) wl ?_);refine wv (h:=?_);unfold fE;refine CH (ty:=3) (xs:=xs) (by simp [go_sem]) b ?_;refine wo (h:=?_);unfold fE;rw [show xs.length=(kB xs).length from a.symm];refine AL (ty:=3) (xs:=kB xs) (by simp [go_sem]) aD λk=>?_;have Y:=wa Y @imagesN.eq_1;exact wo (h:=c _ _ wy)
end Go.Abs
end
section
set_option maxRecDepth 100000
set_option maxHeartbeats 4000000
open Go Go.Proofs Tryz
namespace Go.Abs
theorem KL (xs:W3):(kB xs).Pairwise (·<=·):=by
 have:=List.pairwise_mergeSort (le:=λ(x y:Int)=>decide (x<=y)) (λa b c e d=>by simp at *;omega) (λa b=>by simp;omega) xs;exact this.imp λh=>by simpa using h
theorem Ay (xs:W3):imagesN xs=xs.length↔xs.Nodup:=by
 have f:(kB xs).Perm xs:=List.mergeSort_perm xs _;rw [<- f.nodup_iff,<- kW xs];unfold imagesN Lib.compact Lib.compactUpTo;rw [aT];have b:=dD.1 (KL xs);generalize kB xs=s at *;have d:(List.filter (Lib.keeps s.toArray) (List.range s.length)).length=s.length↔∀ j,j<s.length->Lib.keeps s.toArray j=true:=by
  have:=List.length_filter_eq_length_iff (p:=Lib.keeps s.toArray) (l:=List.range s.length);grind
 rw [d];have e:∀ j (a:j<s.length),Lib.keeps s.toArray j=true↔(j=0\/s[j]≠s[j - 1]' aD):=λj a=>by
  simp only [Lib.keeps,decide_eq_true_eq];grind
 constructor
 .intro h;rw [eX,dD];intro i j k a g;rcases (e j a).1 (h j a) with h0|h0
  .omega
  .have h1:=b (j - 1) j aD a aD;by_cases c:i=j - 1
   .subst c;omega
   .have h2:=b i (j - 1) k aD aD;omega
 .intro h j a;rw [e j a];by_cases h0:j=0
  .exact .inl h0
  .right
   intro m;have:=(mR h).1 m;omega
def b8:Edge:=⟨0,0,0⟩
def kI (a b:Graph)(m:Part)(i:Nat):Int :=
 if m.h[i]?.getD 0<0\/(b.h.length:Int)<=m.h[i]?.getD 0 then 6
 else if b.h[(m.h[i]?.getD 0).toNat]?.getD 0≠a.h[i]?.getD 0 then 13 else 0
def mapEE (a b:Graph)(m:Part)(i:Nat):Int :=
 if m.i[i]?.getD 0<0\/(b.i.length:Int)<=m.i[i]?.getD 0 then 6
 else if (a.i[i]?.getD b8).type≠(b.i[(m.i[i]?.getD 0).toNat]?.getD b8).type then 13
 else if m.h[(a.i[i]?.getD b8).w.toNat]?.getD 0≠(b.i[(m.i[i]?.getD 0).toNat]?.getD b8).w\/m.h[(a.i[i]?.getD b8).M.toNat]?.getD 0≠(b.i[(m.i[i]?.getD 0).toNat]?.getD b8).M then 11 else 0
def eD (a b:Graph)(m:Part):Int :=
 if graphF a≠0 then graphF a
 else if graphF b≠0 then graphF b
 else if m.h.length≠a.h.length\/m.i.length≠a.i.length then 20
 else if bU (kI a b m) 0 a.h.length≠0 then bU (kI a b m) 0 a.h.length
 else bU (mapEE a b m) 0 a.i.length
theorem p5 (a b:Graph)(m:Part):Pua 233 [a.d,b.d,m.d] (dI (eD a b m)):=by
 refine Tz.pK ⟨λt=>t==13||t==14,λr=>match r with|22=>[(0,10),(1,10),(3,10),(4,10),(5,10),(6,10),(8,10),(9,10),(0,11),(1,11),(3,11),(4,11),(5,11),(6,11),(8,11),(9,11),(10,11),(5,12),(6,12),(8,12),(9,12)]|_=>[]⟩ func233 rfl (λQ l=>?_);have Y:=trivial;refine wv (h:=aB (nD a) wl ?_);refine dK (λo=>?_) λo=>?_
 .exact wv (h:=l _ _ (.inl (by simp [go_sem,eD,o])))
 .refine wv (h:=aB (nD b) wl ?_);refine dK (λw=>?_) λw=>?_
  .exact wv (h:=l _ _ (.inl (by simp [go_sem,eD,o,w])))
  .refine d8 (λO=>?_) λO=>?_
   .exact wv (h:=l _ _ (.inl (by simp [go_sem,eD,o,w,(aD:m.h.length≠a.h.length\/m.i.length≠a.i.length)])))
   .have x:eD a b m=(if bU (kI a b m) 0 a.h.length≠0 then bU (kI a b m) 0 a.h.length else bU (mapEE a b m) 0 a.i.length):=by
     unfold eD;rw [if_neg (by simp [o]),if_neg (by simp [w]),if_neg aD]
    have N:=bR o;have M:=bR w;have z:=(dP o).2;refine wo (h:=aY (λi e H=>(e 3=.adr a.c/\e 4=.adr b.c/\e 5=.adr m.c/\e 42=dLI m.h/\e 43=dI m.h.length/\e 44=dI i)/\(i<=m.h.length)/\(bU (kI a b m) i (a.h.length - i)=bU (kI a b m) 0 a.h.length)) (λi=>m.h.length - i) 0 ⟨wg,wi,(by rfl)⟩ λW D i e H B=>?_);obtain ⟨R,U,I⟩:=B;have Y:=wa Y R;refine dK (λs=>?_) λs=>?_
    .have hn:i<a.h.length:=aD;have f:=eV (kI a b m) hn;rw [I] at f;have j:kI a b m i=(if m.h[i]<0\/(b.h.length:Int)<=m.h[i] then 6 else if b.h[m.h[i].toNat]?.getD 0≠a.h[i] then 13 else 0):=by simp only [kI,aA s,aA hn,Option.getD_some]
     have Y:=xa1 Y s hn;refine d8 (λG=>?_) λG=>?_
     .rw [if_pos aD] at j;rw [j,if_pos aD] at f;exact wv (h:=l _ _ (.inl (by simp [go_sem,x,f])))
     .have hkb:m.h[i].toNat<b.h.length:=aD;rw [if_neg aD,aA hkb,Option.getD_some] at j;have Y:=wa Y (aA hkb);refine d8 (λq=>?_) λq=>?_
      .rw [if_pos q] at j;rw [j,if_pos aD] at f;exact wv (h:=l _ _ (.inl (by simp [go_sem,x,f])))
      .rw [if_neg (eQ q)] at j;rw [j,if_neg aD] at f;exact wo (h:=wx D (i+1) ⟨wg,wj,(f.symm)⟩)
    .have hN0:bU (kI a b m) 0 a.h.length=0:=by rw [<- I,(aD:a.h.length - i=0)];rfl
     rw [hN0,if_neg aD] at x;refine wo (h:=aY (λk e H=>(e 3=.adr a.c/\e 4=.adr b.c/\e 5=.adr m.c/\e 71=dLI m.i/\e 72=dI m.i.length/\e 73=dI k)/\(k<=m.i.length)/\(bU (mapEE a b m) k (a.i.length - k)=eD a b m)) (λk=>m.i.length - k) 0 ⟨wg,wi,(x.symm)⟩ λV C k e H A=>?_);obtain ⟨P,T,J⟩:=A;have Y:=wa Y P;refine dK (λp=>?_) λp=>?_
     .have hn:k<a.i.length:=aD;have f:=eV (mapEE a b m) hn;rw [J] at f;have S:=z _ (aC hn);have v:a.i[k].w.toNat<m.h.length:=aD;have u:a.i[k].M.toNat<m.h.length:=aD;have g:mapEE a b m k=(if m.i[k]<0\/(b.i.length:Int)<=m.i[k] then 6 else if a.i[k].type≠(b.i[m.i[k].toNat]?.getD b8).type then 13 else if m.h[a.i[k].w.toNat]≠(b.i[m.i[k].toNat]?.getD b8).w\/m.h[a.i[k].M.toNat]≠(b.i[m.i[k].toNat]?.getD b8).M then 11 else 0):=by
       simp only [mapEE,aA p,aA hn,Option.getD_some,aA v,aA u]
      have Y:=xa3 Y p hn (aA v) (aA u);refine d8 (λF=>?_) λF=>?_
      .rw [if_pos aD] at g;rw [g,if_pos aD] at f;exact wv (h:=l _ _ (.inl (by simp [go_sem,<- f])))
      .have hkb:m.i[k].toNat<b.i.length:=aD;rw [if_neg aD,aA hkb,Option.getD_some] at g;have Y:=wa Y (aA hkb);refine d8 (λn=>?_) λn=>?_
       .rw [if_pos n] at g;rw [g,if_pos aD] at f;exact wv (h:=l _ _ (.inl (by simp [go_sem,<- f])))
       .rw [if_neg (eQ n)] at g;refine d8 (λE=>?_) λE=>?_
        .rw [if_pos aD] at g;rw [g,if_pos aD] at f;exact wv (h:=l _ _ (.inl (by simp [go_sem,<- f])))
        .rw [if_neg aD] at g;rw [g,if_neg aD] at f;exact wo (h:=wx C (k+1) ⟨wg,wj,(f.symm)⟩)
     .exact wv (h:=l _ _ (.inl (by rw [<- J,(aD:a.i.length - k=0)];rfl)))
def Ca (a b:Graph)(m:Part):Bool:=decide (eD a b m=0)&&(decide m.h.Nodup&&decide m.i.Nodup)
theorem kZ {a b:Graph}{m:Part}(h:eD a b m=0):graphF a=0/\graphF b=0/\m.h.length=a.h.length/\m.i.length=a.i.length:=by grind [eD]
theorem LD (xs:W3):((imagesN xs:Int)==(xs.length:Int))=decide xs.Nodup:=by
 rw [aS];simp only [beq_iff_eq,decide_eq_true_eq];rw [<- Ay];omega
theorem tY (a b:Graph)(m:Part)(g:m.h.length<=1000000)(f:m.i.length<=1000000):Pua 234 [a.d,b.d,m.d] (.bool (Ca a b m)):=by
 refine Tz.p0 func234 rfl λQ e _=>?_;have Y:=@LD;refine wo (h:=aI (p5 a b m) wl ?_);refine wo (h:=dO (λc=>zC m.h g) (λc=>wl) ?_);refine wo (h:=dO (λc=>zC m.i f) (λc=>wl) ?_);exact wo (h:=e _ _ (by simp [go_sem,Ca,qI]))
theorem r8 (a b:Graph)(m:Part):Pua 54 [a.d,b.d,m.d] (dI (eD a b m)):=by
 refine Tz.pK ⟨λt=>t==11||t==12,λr=>match r with|21=>[(0,14),(1,14),(3,14),(4,14),(5,14),(6,14),(7,14),(8,14),(10,14),(11,14),(12,14),(13,14),(0,15),(1,15),(3,15),(4,15),(5,15),(6,15),(7,15),(8,15),(10,15),(11,15),(12,15),(13,15),(14,15),(5,16),(6,16),(7,16),(8,16),(10,16),(11,16),(12,16),(13,16)]|_=>[]⟩ func54 rfl (λQ n=>?_);have Y:=trivial;refine wv (h:=?_);refine aB (kH a) wl ?_;refine wv (h:=?_);refine wq (λs=>?_) λs=>?_
 .refine wv (h:=?_);exact n _ _ (.inl (by simp [go_sem,eD,s]))
 .refine wv (h:=?_);refine aB (kH b) wl ?_;refine wv (h:=?_);refine wq (λx=>?_) λx=>?_
  .refine wv (h:=?_);exact n _ _ (.inl (by simp [go_sem,eD,s,x]))
  .refine wv (h:=?_);repeat first|intro _|refine ⟨iD,?_⟩
   refine wq (λP=>?_) λP=>?_
   .refine wv (h:=?_);exact n _ _ (.inl (by simp [go_sem,eD,s,x,(aD:m.h.length≠a.h.length\/m.i.length≠a.i.length)]))
   .have y:eD a b m=(if bU (kI a b m) 0 a.h.length≠0 then bU (kI a b m) 0 a.h.length else bU (mapEE a b m) 0 a.i.length):=by
     unfold eD;rw [if_neg (by simp [s]),if_neg (by simp [x]),if_neg aD]
    have O:=bR s;have N:=bR x;have A:=(dP s).2;refine wv (h:=?_);refine aY (λi e H=>(e 3=.adr a.c/\e 4=.adr b.c/\e 5=.adr m.c/\e 9=dI i)/\(i<=a.h.length)/\(bU (kI a b m) i (a.h.length - i)=bU (kI a b m) 0 a.h.length)) (λi=>a.h.length - i) 0 ⟨wg,wi,(by rfl)⟩ λX E i e H C=>?_;obtain ⟨S,V,J⟩:=C;have Y:=wa Y S;refine wv (h:=?_);repeat first|intro _|refine ⟨iD,?_⟩
    refine wq (λo=>?_) λo=>?_
    .have hn:i<m.h.length:=aD;have f:=eV (kI a b m) o;rw [J] at f;have j:kI a b m i=(if m.h[i]<0\/(b.h.length:Int)<=m.h[i] then 6 else if b.h[m.h[i].toNat]?.getD 0≠a.h[i] then 13 else 0):=by simp only [kI,aA o,aA hn,Option.getD_some]
     have Y:=xa1 Y o hn;refine wv (h:=?_);repeat first|intro _|refine ⟨iD,?_⟩
     refine wq (λI=>?_) λI=>?_
     .rw [if_pos aD] at j;rw [j,if_pos aD] at f;refine wv (h:=?_);exact n _ _ (.inl (by simp [go_sem,y,f]))
     .have hkb:m.h[i].toNat<b.h.length:=aD;rw [if_neg aD,aA hkb,Option.getD_some] at j;have Y:=wa Y (aA hkb);refine wv (h:=?_);repeat first|intro _|refine ⟨iD,?_⟩
      refine wq (λu=>?_) λu=>?_
      .rw [if_pos u] at j;rw [j,if_pos aD] at f;refine wv (h:=?_);exact n _ _ (.inl (by simp [go_sem,y,f]))
      .rw [if_neg (eQ u)] at j;rw [j,if_neg aD] at f;refine wv (h:=?_);repeat first|intro _|refine ⟨iD,?_⟩
       exact wx E (i+1) ⟨wg,wj,(f.symm)⟩
    .have hN0:bU (kI a b m) 0 a.h.length=0:=by rw [<- J,(aD:a.h.length - i=0)];rfl
     rw [hN0,if_neg aD] at y;refine wv (h:=?_);refine aY (λk e H=>(e 3=.adr a.c/\e 4=.adr b.c/\e 5=.adr m.c/\e 10=dI k)/\(k<=a.i.length)/\(bU (mapEE a b m) k (a.i.length - k)=eD a b m)) (λk=>a.i.length - k) 0 ⟨wg,wi,(y.symm)⟩ λW D k e H B=>?_;obtain ⟨R,U,K⟩:=B;have Y:=wa Y R;refine wv (h:=?_);repeat first|intro _|refine ⟨iD,?_⟩
     refine wq (λl=>?_) λl=>?_
     .have hn:k<m.i.length:=aD;have f:=eV (mapEE a b m) l;rw [K] at f;have T:=A _ (aC l);have w:a.i[k].w.toNat<m.h.length:=aD;have v:a.i[k].M.toNat<m.h.length:=aD;have g:mapEE a b m k=(if m.i[k]<0\/(b.i.length:Int)<=m.i[k] then 6 else if a.i[k].type≠(b.i[m.i[k].toNat]?.getD b8).type then 13 else if m.h[a.i[k].w.toNat]≠(b.i[m.i[k].toNat]?.getD b8).w\/m.h[a.i[k].M.toNat]≠(b.i[m.i[k].toNat]?.getD b8).M then 11 else 0):=by
       simp only [mapEE,aA l,aA hn,Option.getD_some,aA w,aA v]
      have Y:=xa3 Y l hn (aA w) (aA v);refine wv (h:=?_);repeat first|intro _|refine ⟨iD,?_⟩
      refine wq (λG=>?_) λG=>?_
      .rw [if_pos aD] at g;rw [g,if_pos aD] at f;refine wv (h:=?_);exact n _ _ (.inl (by simp [go_sem,<- f]))
      .have hkb:m.i[k].toNat<b.i.length:=aD;rw [if_neg aD,aA hkb,Option.getD_some] at g;have Y:=wa Y (aA hkb);refine wv (h:=?_);repeat first|intro _|refine ⟨iD,?_⟩
       refine wq (λq=>?_) λq=>?_
       .rw [if_pos q] at g;rw [g,if_pos aD] at f;refine wv (h:=?_);exact n _ _ (.inl (by simp [go_sem,<- f]))
       .rw [if_neg (eQ q)] at g;refine wv (h:=?_);repeat first|intro _|refine ⟨iD,?_⟩
        refine wq (λF=>?_) λF=>?_
        .rw [if_pos aD] at g;rw [g,if_pos aD] at f;refine wv (h:=?_);exact n _ _ (.inl (by simp [go_sem,<- f]))
        .rw [if_neg aD] at g;rw [g,if_neg aD] at f;refine wv (h:=?_);repeat first|intro _|refine ⟨iD,?_⟩
         exact wx D (k+1) ⟨wg,wj,(f.symm)⟩
     .refine wv (h:=?_);exact n _ _ (.inl (by rw [<- K,(aD:a.i.length - k=0)];rfl))
theorem pP (l:W3):Pua 55 [dLI l] (.bool (decide l.Nodup)):=by
 refine Tz.p0 func55 rfl λQ s Y=>?_;refine wv (h:=aY (λi e H=>(e 0=dLI l/\e 3=dI i)/\(i<=l.length)/\(∀ (a b:Nat) (d:b<l.length),b<i->(c:a<b)->l[a]≠l[b])) (λi=>l.length - i) 0 ⟨wg,wi,(by intro a b d h;omega)⟩ λB o i e H j=>?_);obtain ⟨w,y,r⟩:=j;have Y:=wa Y w;refine wv (h:=?_);repeat first|intro _|refine ⟨iD,?_⟩
 refine wq (λu=>?_) λu=>?_
 .have Y:=wa Y u;refine wv (h:=aY (λk e H=>(e 0=dLI l/\e 3=dI i/\e 4=dI k)/\(k<=i)/\(∀ a,a<k->l[a]?≠some l[i])) (λk=>i - k) 0 ⟨wg,wi,(by intro a h;omega)⟩ λA n k e H g=>?_);obtain ⟨v,x,q⟩:=g;have Y:=wa Y v;refine dK (λt=>?_) λt=>?_
  .have hkl:k<l.length:=aD;have Y:=xa1 Y t hkl;refine d8 (λp=>?_) λp=>?_
   .refine wv (h:=?_);have f:¬ l.Nodup:=λh=>by
     have:=(mR h).1 p;omega
    exact s _ _ (by simp [go_sem,f])
   .exact wo (h:=wx n (k+1) ⟨wg,wj,(by exact kP q (by rw [aA hkl];simpa using λm=>p m.symm))⟩)
  .have hd':∀ (a b:Nat) (d:b<l.length),b<i+1->(c:a<b)->l[a]≠l[b]:=λa b d h c=>by
    rcases cH b i with h'|h'
    .exact r a b d h' c
    .have:b=i:=aD;subst this;exact λm=>q a aD (by rw [aA aD,m])
   exact wo (h:=wx o (i+1) ⟨wg,wj,(by exact hd')⟩)
 .refine wv (h:=?_);have f:l.Nodup:=by
   rw [eX,dD];exact λa b z d c=>r a b d aD c
  exact s _ _ (by simp [go_sem,f])
def Jv (l:W3)(n:Int)(i:Nat):Int :=
 if l[i]?.getD 0<0\/n<=l[i]?.getD 0 then 6 else if 0<i/\l[i]?.getD 0<=l[i - 1]?.getD 0 then 12 else 0
def EX (l:W3)(n:Int):Int:=bU (Jv l n) 0 l.length
theorem eI {f:Nat->Int}:∀ (n k:Nat),bU f k n=0->∀ j,k<=j->j<k+n->f j=0
 | 0,k,_=>λj h1 h2=>by omega
 | n+1,k,h=>λj h1 h2=>by
  unfold bU at h;split at h
  .rename_i hne;exact absurd h hne
  .rename_i hz;rcases Nat.eq_or_lt_of_le h1 with h3|h3
   .subst h3;exact bB λhne=>hz hne
   .exact eI n (k+1) h j h3 aD
theorem Cu {l:W3}{n:Int}(h:EX l n=0):(∀ x∈l,0<=x/\x<n)/\l.Pairwise (· < ·):=by
 have b:=eI _ _ h;have e:∀ i (a:i<l.length),(0<=l[i]/\l[i]<n)/\(∀ h0:0<i,l[i - 1]<l[i]):=λi a=>by
  have:=b i aD aD;unfold Jv at this;grind
 refine ⟨λx c=>?_,dD.2 λi j a f d=>?_⟩
 .obtain ⟨i,a,rfl⟩:=aQ c;exact (e i a).1
 .induction j with
  | zero=>omega
  | succ j ih =>
   grind
theorem Bp (l:W3)(n:Int):Pua 352 [dLI l,dI n] (dI (EX l n)):=by
 refine Tz.p0 func352 rfl λQ g Y=>?_;refine wv (h:=?_);repeat first|intro _|refine ⟨iD,?_⟩
 refine aY (λi e H=>(e 0=dLI l/\e 1=dI n/\e 7=dLI l/\e 8=dI l.length/\e 9=dI i)/\(i<=l.length)/\(bU (Jv l n) i (l.length - i)=EX l n)) (λi=>l.length - i) 0 ⟨wg,wi,(by rfl)⟩ λv j i e H f=>?_;obtain ⟨r,u,m⟩:=f;have Y:=wa Y r;refine wv (h:=?_);refine wq (λc=>?_) λc=>?_
 .have hst:=eV (Jv l n) c;rw [m] at hst;have a:Jv l n i=(if l[i]<0\/n<=l[i] then 6 else if 0<i/\l[i]<=l[i - 1]?.getD 0 then 12 else 0):=by simp only [Jv,aA c,Option.getD_some]
  have b:i - 1<l.length:=aD;rw [aA b,Option.getD_some] at a;have d:((i:Int) - 1).toNat=i - 1:=aD;have Y:=xa2 Y c d (aA b);refine wv (h:=?_);repeat first|intro _|refine ⟨iD,?_⟩
  refine wq (λq=>?_) λq=>?_
  .rw [if_pos aD] at a;rw [a,if_pos aD] at hst;refine wv (h:=?_);exact g _ _ (.inl (by simp [go_sem,hst]))
  .rw [if_neg aD] at a;refine wv (h:=?_);repeat first|intro _|refine ⟨iD,?_⟩
   refine wq (λp=>?_) λp=>?_
   .rw [if_pos aD] at a;rw [a,if_pos aD] at hst;refine wv (h:=?_);exact g _ _ (.inl (by simp [go_sem,hst]))
   .rw [if_neg aD] at a;rw [a,if_neg aD] at hst;refine wv (h:=?_);repeat first|intro _|refine ⟨iD,?_⟩
    exact wx j (i+1) ⟨wg,wj,(hst.symm)⟩
 .refine wv (h:=?_);exact g _ _ (.inl (by rw [<- m,(aD:l.length - i=0)];rfl))
theorem y7 (l:W3)(n:Int):Pua 176 [dLI l,dI n] (dI (EX l n)):=by
 refine Tz.p0 func176 rfl λQ g Y=>?_;refine wv (h:=?_);refine aY (λi e H=>(e 0=dLI l/\e 1=dI n/\e 5=dI i)/\(i<=l.length)/\(bU (Jv l n) i (l.length - i)=EX l n)) (λi=>l.length - i) 0 ⟨wg,wi,(by rfl)⟩ λv j i e H f=>?_;obtain ⟨r,u,m⟩:=f;have Y:=wa Y r;refine wv (h:=?_);repeat first|intro _|refine ⟨iD,?_⟩
 refine wq (λc=>?_) λc=>?_
 .have hst:=eV (Jv l n) c;rw [m] at hst;have a:Jv l n i=(if l[i]<0\/n<=l[i] then 6 else if 0<i/\l[i]<=l[i - 1]?.getD 0 then 12 else 0):=by simp only [Jv,aA c,Option.getD_some]
  have b:i - 1<l.length:=aD;rw [aA b,Option.getD_some] at a;have d:((i:Int) - 1).toNat=i - 1:=aD;have Y:=xa2 Y c d (aA b);refine wv (h:=?_);repeat first|intro _|refine ⟨iD,?_⟩
  refine wq (λq=>?_) λq=>?_
  .rw [if_pos aD] at a;rw [a,if_pos aD] at hst;refine wv (h:=?_);exact g _ _ (.inl (by simp [go_sem,hst]))
  .rw [if_neg aD] at a;refine wv (h:=?_);repeat first|intro _|refine ⟨iD,?_⟩
   refine wq (λp=>?_) λp=>?_
   .rw [if_pos aD] at a;rw [a,if_pos aD] at hst;refine wv (h:=?_);exact g _ _ (.inl (by simp [go_sem,hst]))
   .rw [if_neg aD] at a;rw [a,if_neg aD] at hst;refine wv (h:=?_);repeat first|intro _|refine ⟨iD,?_⟩
    exact wx j (i+1) ⟨wg,wj,(hst.symm)⟩
 .refine wv (h:=?_);exact g _ _ (.inl (by rw [<- m,(aD:l.length - i=0)];rfl))
theorem K7 (l:W3)(v:Int):Pua 177 [dLI l,dI v] (.bool (mem l v)):=by
 refine Tz.p0 func177 rfl λQ m Y=>?_;refine wv (h:=aY (λi e H=>(e 0=dLI l/\e 1=dI v/\e 5=dI i)/\(i<=l.length)/\(∀ j,j<i->l[j]?≠some v)) (λi=>l.length - i) 0 ⟨wg,wi,(by intro j k;omega)⟩ λq f i e H d=>?_);obtain ⟨o,p,a⟩:=d;have Y:=wa Y o;refine wv (h:=?_);repeat first|intro _|refine ⟨iD,?_⟩
 refine wq (λb=>?_) λb=>?_
 .have Y:=wa Y b;refine d8 (λg=>?_) λg=>?_
  .refine wv (h:=?_);have c:mem l v=true:=(mem_iff l v).2 (g ▸ aC b);exact m _ _ (by simp [go_sem,c])
  .exact wo (h:=wx f (i+1) ⟨wg,wj,(by exact kP a (by rw [aA b];simpa using g))⟩)
 .refine wv (h:=?_);have c:mem l v=false:=by rw [bQ];intro h;obtain ⟨j,k,n⟩:=aQ ((mem_iff l v).1 h);exact a j aD (by rw [aA k,n])
  exact m _ _ (by simp [go_sem,c])
theorem Fx (l:W3)(v:Int):Pua 74 [dLI l,dI v] (dI (idx l v)):=by
 refine Tz.p0 func74 rfl λQ g Y=>?_;refine wv (h:=aY (λi e H=>(e 0=dLI l/\e 1=dI v/\e 5=dI i)/\(i<=l.length)/\(∀ j,j<i->l[j]?≠some v)) (λi=>l.length - i) 0 ⟨wg,wi,(by intro j k;omega)⟩ λo d i e H c=>?_);obtain ⟨m,n,a⟩:=c;have Y:=wa Y m;refine wv (h:=?_);repeat first|intro _|refine ⟨iD,?_⟩
 refine wq (λb=>?_) λb=>?_
 .have Y:=wa Y b;refine d8 (λf=>?_) λf=>?_
  .exact wv (h:=g _ _ (by rw [xF a (by rw [aA b,f])];simp [go_sem]))
  .exact wo (h:=wx d (i+1) ⟨wg,wj,(by exact kP a (by rw [aA b];simpa using f))⟩)
 .exact wv (h:=g _ _ (by rw [Dv λj k=>a j aD];simp [go_sem]))
mutual
theorem kS {p:Cond->Prop}(h:∀ c:Cond,(∀ k∈c.s,p k)->p c):∀ c:Cond,p c
 | .mk k l m q=>h _ (L4 h l)
theorem L4 {p:Cond->Prop}(h:∀ c:Cond,(∀ k∈c.s,p k)->p c):∀ l:List Cond,∀ k∈l,p k
 | []=>λk hk=>absurd hk (by simp)
 | c :: l=>λk hk=>by
  rcases aV.1 hk with h1|h1
  ·rw [h1];exact kS h c
  ·exact L4 h l k h1
end
def bareB (c:Cond):Bool:=decide ((c.map.h.length:Int)+c.map.i.length+c.o.j.h.length+c.o.j.i.length+c.o.l.length+c.o.G.length=0)&&decide (c.o.vars=0)
structure Cond.bD (c:Cond):Prop where
 m1:c.map.h.length<=1000000
 m2:c.map.i.length<=1000000
 p1:c.o.j.h.length<=1000000
 p2:c.o.j.i.length<=1000000
 p3:c.o.l.length<=1000000
 p4:c.o.G.length<=1000000
theorem Jf (c:Cond)(a:c.bD):Pua 340 [.agg c.c] (.bool (bareB c)):=by
 obtain ⟨j,i,g,f,e,d⟩:=a;refine Tz.pK ⟨λt=>t==3,λ_=>[]⟩ func340 rfl (λQ b=>?_);have Y:=@Cond.A;have Y:=wa Y @bareB.eq_1;exact wo (h:=b _ _ wy)
theorem IG (xs:List Cond)(g:FuncId)(b:UN)(p:Cond->Bool)(u:D.L b=true)(t:∀ x∈xs,Pure prog g (.agg x.c :: b) (.bool (p x))) :
  Pua 368 [.list (xs.map Cond.c),.fn g b] (dI (ED xs p)):=by
 refine aU (Tz.c0 func368 rfl ?_);simp [go_sem,seval,dI];intro m;refine fT (ι:=Nat) (λi e H=>H=.an/\i<=xs.length/\e 0=.list (xs.map Cond.c)/\e 1=.fn g b/\e 7=dI xs.length/\e 8=dI i/\(∀ j x,j<i->xs[j]?=some x->p x=false)) (λi=>xs.length - i) 0 (by simp [go_sem,seval,dI]) ?_;intro i e H ⟨v,z,q,o,n,k,l⟩;subst v;simp [go_sem,seval,n,k,dI];refine f9 (λd=>?_) (λs=>?_)
 .have hgx:=t xs[i] (aC d);simp [go_sem,seval,q,o,k,dI,dLI,d,Cond.A] at hgx ⊢;refine aB hgx (by simp [go_sem,u]) ?_;simp [go_sem,seval];refine bC (λh=>?_) (λh=>?_)
  .simp [go_sem,seval];rw [q6 l d h]
  .simp [go_sem,seval,q,o,n,k,dI];refine ⟨dL aD aD,i+1,aD,aD,aD,λj x r y=>?_⟩;grind
 .simp [go_sem,seval];rw [q7 λj x r=>l j x aD]
theorem DL (xs:List Cond)(g:FuncId)(a:UN)(p:Cond->Bool)(d:D.L a=true)(e:D.P (.list (xs.map Cond.c))=true)(f:∀ x∈xs,Pure prog g (.agg x.c :: a) (.bool (p x))) :
  Pua 341 [.list (xs.map Cond.c),.fn g a] (.bool (xs.any p)):=by
 refine aU (Tz.c0 func341 rfl ?_);simp [go_sem,seval];refine aB (IG xs g a p d f) (by simp only [D.L,e,gW];simp [D.P,d]) ?_;simp [go_sem,seval,dI,uA]
def sX (c:Cond):Bool :=
 if c.E=1 then decide ((c.s.length:Int)=0)&&bareB c
 else if c.E=2 then decide ((c.s.length:Int)=1)&&bareB c
 else if c.E=3\/c.E=4 then decide (1<=(c.s.length:Int))&&bareB c
 else decide (c.E=5)&&decide ((c.s.length:Int)=1)
mutual
def NJ:Cond->Bool
 | .mk k l m p=>sX (.mk k l m p)&&WM l
def WM:List Cond->Bool
 | []=>true
 | c :: l=>NJ c&&WM l
end
theorem WL (l:List Cond):WM l=l.all NJ:=by
 induction l with
 | nil=>rfl
 | cons a l ih=>simp [WM,ih]
theorem vX (c:Cond):NJ c=(sX c&&c.s.all NJ):=by cases c;simp [NJ,WL,Cond.s]
mutual
def Cond.ok:Cond->Prop
 | .mk k l m p=>(Cond.mk k l m p).bD/\Cond.b8 l
def Cond.b8:List Cond->Prop
 | []=>True
 | c :: l=>c.ok/\Cond.b8 l
end
theorem ND (l:List Cond):Cond.b8 l↔∀ c∈l,c.ok:=by
 induction l with
 | nil=>simp [Cond.b8]
 | cons a l ih=>simp [Cond.b8,ih]
theorem sI (c:Cond):c.ok↔c.bD/\∀ k∈c.s,k.ok:=by cases c;simp [Cond.ok,ND,Cond.s]
theorem wf1 (c:Cond)(h:Pua 301 [.agg c.c] (.bool (NJ c))):Pua 342 [.agg c.c] (.bool (!NJ c)):=by
 refine Tz.p0 func342 rfl λQ a _=>?_;have Y:=@Cond.A;refine wo (h:=aB ((by simpa [Cond.A,go_sem] using h)) wl ?_);exact wo (h:=a _ _ wy)
theorem AK:∀ c:Cond,c.ok->Pua 301 [.agg c.c] (.bool (NJ c)):=by
 refine kS λc s v=>?_;obtain ⟨t,u⟩:=(sI c).1 v;have a:=DL c.s 342 [] (λk=>!NJ k) rfl (by simp [go_sem]) (λk r=>wf1 k (s k r (u k r)));have e:∀ l:Int,l=c.E->Pua 340 [.agg [dI l,.list (c.s.map Cond.c),dLI c.map.h,dLI c.map.i,dLI c.o.j.h,.list (c.o.j.i.map Edge.c),.list (c.o.l.map Slot.c),dI c.o.vars,.list (c.o.G.map Test.c)]] (.bool (bareB c)):=by
  intro l m;have:=Jf c t;rwa [Cond.A,<- m] at this
 have b:(!(c.s.any λk=>!NJ k))=c.s.all NJ:=by simp [List.not_any_eq_all_not]
 refine Tz.p0 func301 rfl λQ g _=>?_;have Y:=@Cond.A;refine d8 (λq=>?_) λq=>?_
 .have Y:=wa Y q;refine wo (h:=aK (λd=>(e _ aD)) (λd=>wl) ?_);refine wo (h:=aK (λd=>a) (λd=>wl) ?_);exact wo (h:=g _ _ (by simp [go_sem,vX,<- b,sX,Y]))
 .have Y:=wa Y q;refine dK (λp=>?_) λp=>?_
  .have Y:=wa Y p;refine wo (h:=aK (λd=>(e _ aD)) (λd=>wl) ?_);refine wo (h:=aK (λd=>a) (λd=>wl) ?_);exact wo (h:=g _ _ (by simp [go_sem,vX,<- b,sX,Y]))
  .have Y:=wa Y p;refine dK (λo=>?_) λo=>?_
   .have Y:=wa Y o;refine wo (h:=aK (λd=>(e _ aD)) (λd=>wl) ?_);refine wo (h:=aK (λd=>a) (λd=>wl) ?_);exact wo (h:=g _ _ (by simp [go_sem,vX,<- b,sX,Y]))
   .have Y:=wa Y o;refine dK (λn=>?_) λn=>?_
    .have Y:=wa Y n;refine wo (h:=aK (λd=>(e _ aD)) (λd=>wl) ?_);refine wo (h:=aK (λd=>a) (λd=>wl) ?_);exact wo (h:=g _ _ (by simp [go_sem,vX,<- b,sX,Y]))
    .have Y:=wa Y n;refine dK (λf=>?_) λf=>?_
     .have Y:=wa Y f;refine wo (h:=aK (λd=>a) (λd=>wl) ?_);exact wo (h:=g _ _ (by simp [go_sem,vX,<- b,sX,Y]))
     .have Y:=wa Y f;refine wo (h:=aK (λd=>a) (λd=>wl) ?_);exact wo (h:=g _ _ (by simp [go_sem,vX,<- b,sX,Y]))
end Go.Abs
end
