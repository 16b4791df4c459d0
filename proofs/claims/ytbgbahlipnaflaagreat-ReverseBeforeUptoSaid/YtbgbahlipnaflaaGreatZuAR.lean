/- Hosts of the program: node, Valid. · Values of the program:  -/
import Derived.Test.YtbgbahlipnaflaaGreatZuAG
import Derived.Test.YtbgbahlipnaflaaGreatZuAQ
import Derived.Test.YtbgbahlipnaflaaGreatZuAA
import Derived.Laws.Externs
set_option linter.unusedVariables false
set_option linter.unusedSimpArgs false
section
set_option maxRecDepth 100000
set_option maxHeartbeats 4000000
open Go Go.Proofs Tryz
namespace Go.Abs
theorem Tw (t:Types)(q:t.ok)(a:Int)(y:0<=a)(vs:V2):Pua 237 [t.d,dI a,dLI vs] (dI (i5 t a vs)):=by
 refine Tz.pK ⟨λt=>t==10,λ_=>[]⟩ func237 rfl (λQ i=>?_);have Y:=trivial;refine wv (h:=?_);repeat first|intro _|refine ⟨iI,?_⟩
 refine wq (λw=>?_) λw=>?_
 .have hE:i5 t a vs=6:=by unfold i5;rw [if_pos aD]
  exact wv (h:=i _ _ (by simp [go_sem,hE]))
 .have hkn:a.toNat<t.h.length:=aD;have u:xO t a.toNat=t.h[a.toNat].e7:=by simp [xO,aA hkn]
  have b:i5 t a vs=if xO t a.toNat=true then 13 else if vs.length≠(bQ t a).length then 20 else bV (C6 (bQ t a) vs) 0 (bQ t a).length:=by unfold i5;rw [if_neg aD]
  rw [u] at b;have Y:=xa1 Y (aA hkn) @NodeTy.c.eq_1;refine wv (h:=?_);repeat first|intro _|refine ⟨iI,?_⟩
  refine wq (λn=>?_) λn=>?_
  .rw [if_pos (bZ n)] at b;exact wv (h:=i _ _ (by simp [go_sem,b]))
  .rw [if_neg (bZ n)] at b;refine wv (h:=aB (nO t q a) wl ?_);refine wv (h:=?_);repeat first|intro _|refine ⟨iI,?_⟩
   refine wq (λv=>?_) λv=>?_
   .rw [if_pos aD] at b;exact wv (h:=i _ _ (by simp [go_sem,b]))
   .rw [if_neg aD] at b;have r:vs.length=(bQ t a).length:=aD;refine wo (h:=bC (λk e H=>(e 3=.adr t.c/\e 2=dLI vs/\e 33=.list ((bQ t a).map Attr.c)/\e 34=dI (bQ t a).length/\e 35=dI k)/\(k<=(bQ t a).length)/\(bV (C6 (bQ t a) vs) k ((bQ t a).length - k)=i5 t a vs)) (λk=>(bQ t a).length - k) 0 ⟨wg,wi,(by exact b.symm)⟩ λz m k e H l=>?_);obtain ⟨x,s,p⟩:=l;have Y:=wa Y x;refine dR (λj=>?_) λj=>?_
    .have hv:k<vs.length:=aD;have f:=fN (C6 (bQ t a) vs) j;rw [p] at f;have g:C6 (bQ t a) vs k=if vs[k]<(bQ t a)[k].ap\/(bQ t a)[k].a8<vs[k] then 6 else 0:=by simp only [C6,aA hv,aA j,Option.getD_some]
     have Y:=xa3 Y j (aA hv) (aA j) @Attr.c.eq_1;refine wv (h:=?_);repeat first|intro _|refine ⟨iI,?_⟩
     refine wq (λo=>?_) λo=>?_
     .rw [if_pos aD] at g;rw [g,if_pos aD] at f;exact wv (h:=i _ _ (by simp [go_sem,f]))
     .rw [if_neg aD] at g;rw [g,if_neg aD] at f;exact wo (h:=wx m (k+1) ⟨wg,wj,(by exact f.symm)⟩)
    .have hZ:i5 t a vs=0:=by rw [<- p,(aD:(bQ t a).length - k=0)];rfl
     exact wv (h:=i _ _ (by simp [go_sem,hZ]))
theorem BW (t:Types)(w:t.ok)(h:Host):Pua 149 [t.d,h.d] (.tup [dI (l5 t h).1,dI (l5 t h).2]):=by
 refine Tz.pK ⟨λt=>t==13,λ_=>[]⟩ func149 rfl (λQ l=>?_);have Y:=wa @Host.d.eq_1 @Host.c.eq_1;refine wv (h:=aB (nM t w) wl ?_);refine dR (λD=>?_) λD=>?_
 .have hE:l5 t h=(-1,(dA t).2):=by unfold l5;rw [if_pos (bZ D)]
  exact wv (h:=l _ _ (by simp [go_sem,hE]))
 .have hE0:l5 t h=if graphF h.i≠0 then (-1,graphF h.i) else if h.k.length≠h.i.h.length then (-1,20) else if (iK (FW t h) 0 h.i.h.length).2≠0 then iK (FW t h) 0 h.i.h.length else iK (Tx t h) 0 h.i.j.length:=by unfold l5;rw [if_neg (bZ D)]
  refine wv (h:=aB (nW h.i) wl ?_);refine dR (λs=>?_) λs=>?_
  .rw [if_pos (bZ s)] at hE0;exact wv (h:=l _ _ (by simp [go_sem,hE0]))
  .rw [if_neg (bZ s)] at hE0;have q:graphF h.i=0:=by simpa using s
   have p:=dX q;have I:=bI q;refine eJ (λJ=>?_) λJ=>?_
   .rw [if_pos aD] at hE0;exact wv (h:=l _ _ (by simp [go_sem,hE0]))
   .rw [if_neg aD] at hE0;refine wo (h:=bC (λi e H=>(e 2=.adr t.c/\e 3=.adr h.c/\e 38=dLI h.i.h/\e 39=dI h.i.h.length/\e 40=dI i)/\(i<=h.i.h.length)/\(iK (FW t h) i (h.i.h.length - i)=iK (FW t h) 0 h.i.h.length)) (λi=>h.i.h.length - i) 0 ⟨wg,wi,(by rfl)⟩ λP C i e H A=>?_);obtain ⟨L,N,G⟩:=A;have Y:=wa Y L;refine dR (λg=>?_) λg=>?_
    .have hv:i<h.k.length:=aD;have y:0<=h.i.h[i]:=(p.1 _ (aC g)).1;have a:=s8 (FW t h) g;rw [G] at a;have r:FW t h i=i5 t h.i.h[i] h.k[i]:=by simp only [FW,aA hv,aA g,Option.getD_some]
     have Y:=xa3 Y g (aA hv) (aA g) @cL.eq_1;refine wo (h:=aI (Tw t w h.i.h[i] y h.k[i]) wl ?_);refine eJ (λk=>?_) λk=>?_
     .rw [r,if_pos (bZ k)] at a;rw [a,if_pos (bZ k)] at hE0;exact wv (h:=l _ _ (by simp [go_sem,hE0]))
     .rw [r,if_neg (bZ k)] at a;exact wo (h:=wx C (i+1) ⟨wg,wj,(by exact a.symm)⟩)
    .have hN0:iK (FW t h) 0 h.i.h.length=(-1,0):=by rw [<- G,(aD:h.i.h.length - i=0)];rfl
     rw [hN0,if_neg aE] at hE0;refine wo (h:=bC (λj e H=>(e 2=.adr t.c/\e 3=.adr h.c/\e 60=.list (h.i.j.map Edge.c)/\e 61=dI h.i.j.length/\e 62=dI j)/\(j<=h.i.j.length)/\(iK (Tx t h) j (h.i.j.length - j)=l5 t h)) (λj=>h.i.j.length - j) 0 ⟨wg,wi,(by exact hE0.symm)⟩ λO B j e H z=>?_);obtain ⟨K,M,F⟩:=z;have Y:=wa Y K;refine dR (λf=>?_) λf=>?_
     .obtain ⟨x,v⟩:=c6 (h.i.j[j]);have u:=(p.2 _ (aC f)).2;rw [<- v] at u;have o:x.w.toNat<h.i.h.length:=aD;have n:x.M.toNat<h.i.h.length:=aD;have a:=s8 (Tx t h) f;rw [F] at a;have b:Tx t h j=if (t.j.length:Int)<=x.type then 6 else if pP t x.type h.i.h[x.w.toNat] h.i.h[x.M.toNat]=true then 0 else 13:=by simp only [Tx,gN,aA f,Option.getD_some,<- v,aA o,aA n]
      have Y:=xa4 Y f (aA f) (Eq.symm v) (aA o) (aA n);refine eJ (λE=>?_) λE=>?_
      .rw [if_pos aD] at b;rw [b,if_pos aD] at a;exact wv (h:=l _ _ (by simp [go_sem,a]))
      .rw [if_neg aD] at b;refine wo (h:=aI (GF t w x.type h.i.h[x.w.toNat] h.i.h[x.M.toNat]) wl ?_);refine eJ (λm=>?_) λm=>?_
       .rw [if_neg (bZ m)] at b;rw [b,if_pos aD] at a;exact wv (h:=l _ _ (by simp [go_sem,a]))
       .rw [if_pos (bZ m)] at b;rw [b,if_neg aD] at a;exact wo (h:=wx B (j+1) ⟨wg,wj,(by exact a.symm)⟩)
     .have hZ:l5 t h=(-1,0):=by rw [<- F,(aD:h.i.j.length - j=0)];rfl
      exact wv (h:=l _ _ (by simp [go_sem,hZ]))
end Go.Abs
end
section
set_option maxRecDepth 60000
set_option maxHeartbeats 4000000
open Go Go.Proofs Tryz
namespace Go.Abs
def R0 (s:Int):Int:=if s<0 then -1 else 0
def OU (s:Int):Int:=s % 18446744073709551616
theorem TT (x y:Int)(b:0<=x)(a:0<=y)(w:World):(callFunc 373 #[.int .u64 x,.int .u64 y,.int .u64 0]).run prog w =
  .ok (.value (.tuple #[.int .u64 ((x+y+0) % 18446744073709551616),.int .u64 ((x+y+0) / 18446744073709551616)])) w:=by
 rw [run_callFunc_extern func373 (by kernel_rfl) (by kernel_rfl) (by kernel_rfl) (e:=add64Entry) (by kernel_rfl),run_add64 x y 0 b a aD aD];rfl
open RowKit in
theorem PV (a b:Int)(j : -4000000<=a/\a<=4000000)(i : -4000000<=b/\b<=4000000)(w:World) :
  Calls prog 321 #[.int .i64 a,.int .i64 b] w λe w'=>e=.returned (.tuple #[.int .i64 (R0 (a+b)),.int .u64 (OU (a+b))])/\w'=w:=by
 have h:=TT (IntKind.u64.wrap a) (IntKind.u64.wrap b) (by rw [IntKind.wrap_u64];omega) (by rw [IntKind.wrap_u64];omega) w;simp only [Int.add_zero] at h
 go_enter func321,ntmps321
 go_wp2
 have d:IntKind.u64.wrap a=if a<0 then a+18446744073709551616 else a:=by rw [IntKind.wrap_u64];split<;>omega
 have c:IntKind.u64.wrap b=if b<0 then b+18446744073709551616 else b:=by rw [IntKind.wrap_u64];split<;>omega
 have g:wrap64 (a / 9223372036854775808+b / 9223372036854775808+wrap64 ((IntKind.u64.wrap a+IntKind.u64.wrap b) / 18446744073709551616))=R0 (a+b):=by
  rw [d,c];unfold R0 wrap64
  repeat' split
  all_goals omega
 have f:(IntKind.u64.wrap a+IntKind.u64.wrap b) % 18446744073709551616=OU (a+b):=by
  rw [d,c];unfold OU
  repeat' split
  all_goals omega
 rw [g,f]
 go_ret2
 exact ⟨rfl,rfl⟩
theorem yZ (a b:Int)(o : -4000000<=a/\a<=4000000)(n : -4000000<=b/\b<=4000000):Pua 321 [dI a,dI b] (.tup [dI (R0 (a+b)),.int .u64 (OU (a+b))]):=by
 refine ⟨⟨Tryz.f321,func321,rfl,rfl⟩,λM w c s h=>?_⟩;have l:c=[.int .i64 a,.int .i64 b]:=by
  obtain ⟨m,k⟩:=h;match c,m with
  | [x,y],_ =>
   have q:=k 0 x _ rfl rfl;have i:=k 1 y _ rfl rfl;cases q
   cases i
   rfl
 subst l;exact (PV a b o n w).mono λe r ⟨i,p⟩=>⟨_,i,.tup _ _ rfl (λj u d f g=>by
  match j with
  | 0=>simp at f g;subst f;subst g;exact .int _ _
  | 1=>simp at f g;subst f;subst g;exact .int _ _
  | j+2=>simp at f),by subst p;exact ⟨rfl,rfl,rfl,bF _,λ_ _=>rfl⟩⟩
theorem vL (x:Term)(vs:V2)(g:qV x vs.length)(i:Sm vs):Pua 320 [.agg x.c,.adr [dLI vs]] (.tup [dI (R0 (dM x vs)),.int .u64 (OU (dM x vs)),.bool true]):=by
 have a:=g;obtain ⟨⟨o,n⟩,m,l⟩:=a;refine Tz.p0 func320 rfl λQ d _=>?_;have Y:=@Term.c.eq_1;refine dR (λk=>?_) λk=>?_
 .have b:dM x vs=0+x.add:=by unfold dM;rw [if_pos aD];omega
  refine wv (h:=aB (yZ 0 x.add aD aD) wl ?_);exact wv (h:=d _ _ (by simp [go_sem,b]))
 .have hk:x.O.toNat<vs.length:=aD;have j:=i.get hk;have b:dM x vs=vs[x.O.toNat]+x.add:=by unfold dM;rw [if_neg aD,aA hk];rfl
  have f:¬ x.O<0:=aD;have e:¬ (vs.length:Int)<=x.O:=aD;have Y:=xa2 Y (aA hk) f e;refine wo (h:=aI (yZ vs[x.O.toNat] x.add j aD) wl ?_);exact wo (h:=d _ _ (by simp [go_sem,b]))
theorem Iy (a:Int):Pua 374 [.int .u64 a] (.bool false):=by
 refine Tz.p0 func374 rfl λQ b Y=>?_;exact wv (h:=b _ _ wy)
theorem MA (a b:Int):Pua 324 [.int .u64 a,.int .u64 b] (dI (cmp1 a b)):=by
 refine Tz.p0 func324 rfl λQ e Y=>?_;refine wv (h:=aB (Iy a) wl ?_);refine wv (h:=aB (Iy b) wl ?_);refine dR (λd=>?_) λd=>?_
 .have Y:=xa1 Y d @cmp1.eq_1;exact wv (h:=e _ _ wy)
 .refine dR (λc=>?_) λc=>?_
  .have Y:=xa2 Y d c @cmp1.eq_1;exact wv (h:=e _ _ wy)
  .have Y:=xa2 Y d c @cmp1.eq_1;exact wv (h:=e _ _ wy)
def Wa (a b:Int):Int:=VK [cmp1 (R0 a) (R0 b),cmp1 (OU a) (OU b)]
theorem V9 {a b:Int}(f : -10000000<=a/\a<=10000000)(e : -10000000<=b/\b<=10000000):Wa a b=if a<b then -1 else if b<a then 1 else 0:=by
 have d:OU a=if a<0 then a+18446744073709551616 else a:=by unfold OU;split<;>omega
 have c:OU b=if b<0 then b+18446744073709551616 else b:=by unfold OU;split<;>omega
 unfold Wa;simp only [VK,cmp1,R0,d,c]
 repeat' split
 all_goals omega
theorem GL {x:Term}{vs:V2}(a:qV x vs.length)(b:Sm vs) : -10000000<=dM x vs/\dM x vs<=10000000:=by
 obtain ⟨⟨g,f⟩,e,d⟩:=a;unfold dM;split
 .omega
 .have hk:x.O.toNat<vs.length:=aD;have c:=b.get hk;rw [aA hk,Option.getD_some];omega
theorem xG (x:Test)(vs:V2)(i:IQ x vs.length)(b:Sm vs):Pua 241 [.agg x.c,dLI vs] (.bool (A6 x vs)):=by
 obtain ⟨m,f,d⟩:=i;have g:=V9 (GL f b) (GL d b);have a:Wa (dM x.left vs) (dM x.right vs)=VK [cmp1 (R0 (dM x.left vs)) (R0 (dM x.right vs)),cmp1 (OU (dM x.left vs)) (OU (dM x.right vs))]:=rfl;obtain ⟨o,j⟩:=c6 (Wa (dM x.left vs) (dM x.right vs));rw [<- j] at g a;have k:A6 x vs=(decide (x.B=1)&&decide (o<=0)||decide (x.B=2)&&decide (o=0)):=by
  unfold A6;rw [g,aT];simp;constructor
  .rintro (⟨h1,h2⟩|⟨h1,h2⟩)
   .left;refine ⟨h1,?_⟩;split<;>(try split)<;>omega
   .right;refine ⟨h1,?_⟩;rw [h2];simp
  .rintro (⟨h1,h2⟩|⟨h1,h2⟩)
   .left;refine ⟨h1,?_⟩;split at h2<;>(try split at h2)<;>omega
   .right;refine ⟨h1,?_⟩;split at h2<;>(try split at h2)<;>omega
 refine Tz.p0 func241 rfl λQ l _=>?_;have Y:=@Test.c.eq_1;refine wv (h:=?_);refine aB (vL x.left vs f b) wl ?_;refine wv (h:=?_);refine aB (vL x.right vs d b) wl ?_;refine wv (h:=?_);repeat first|intro _|refine ⟨iI,?_⟩
 refine aB (Pr (R0 (dM x.left vs)) (R0 (dM x.right vs))) wl ?_;refine wv (h:=?_);repeat first|intro _|refine ⟨iI,?_⟩
 refine aB (MA (OU (dM x.left vs)) (OU (dM x.right vs))) wl ?_;refine wv (h:=?_);repeat first|intro _|refine ⟨iI,?_⟩
 refine aB ((by have e:=Yr [cmp1 (R0 (dM x.left vs)) (R0 (dM x.right vs)),cmp1 (OU (dM x.left vs)) (OU (dM x.right vs))];rw [<- a] at e;exact e)) wl ?_;refine wv (h:=?_);repeat first|intro _|refine ⟨iI,?_⟩
 exact l _ _ (by simp [go_sem,k]<;>(first|rfl|(rw [aT];simp)))
theorem mY (x:Term)(vs:V2)(e:qV x vs.length)(f:Sm vs):Pua 240 [.agg x.c,dLI vs] (dI (dM x vs)):=by
 have a:=e;obtain ⟨⟨l,k⟩,j,i⟩:=a;refine Tz.p0 func240 rfl λQ b _=>?_;have Y:=@Term.c.eq_1;refine dR (λd=>?_) λd=>?_
 .exact wv (h:=b _ _ (by simp [go_sem,dM,d]))
 .have hk:x.O.toNat<vs.length:=aD;have g:=f.get hk;have Y:=wa Y (aA hk);exact wo (h:=b _ _ (by simp [go_sem,dM,(aD:¬ x.O<0),aA hk]))
theorem n7 (x:Term)(vs:V2)(d:qV x vs.length)(e:Sm vs):Pua 334 [.agg x.c,dLI vs] (.tup [dI (dM x vs),dI 0]):=by
 have a:=d;obtain ⟨⟨k,j⟩,i,g⟩:=a;have b:inF x.O (-1) ((vs.length:Int) - 1)=true:=by unfold inF;simp;omega
 refine Tz.p0 func334 rfl λQ f _=>?_;have Y:=wa @Term.c.eq_1 b;refine wo (h:=aB (kC x.O (-1) ((vs.length:Int) - 1)) wl ?_);refine wo (h:=aB (mY x vs d e) wl ?_);exact wo (h:=f _ _ wy)
end Go.Abs
end
section
set_option maxRecDepth 100000
set_option maxHeartbeats 4000000
open Go Go.Proofs Tryz
namespace Go.Abs
theorem G1 (t:Types)(a:Int):Pua 370 [dI a,.adr t.c] (.bool (decide ((t.h.length:Int)<=a))):=by
 refine Tz.p0 func370 rfl λQ b Y=>?_;exact wo (h:=b _ _ wy)
theorem G0 (t:Types)(x:Edge):Pua 371 [.agg x.c,.adr t.c] (.bool (decide ((t.j.length:Int)<=x.type))):=by
 refine Tz.p0 func371 rfl λQ a Y=>?_;exact wo (h:=a _ _ wy)
theorem Bi (t:Types)(g:Graph):Pua 318 [t.d,g.d] (.bool (fV t g)):=by
 refine Tz.p0 func318 rfl λQ e Y=>?_;refine wo (h:=aB (g7 g.h 370 [.adr t.c] (λa=>decide ((t.h.length:Int)<=a)) (by simp [go_sem]) (by simp [go_sem]) (λa _=>G1 t a)) wl ?_);refine wo (h:=aH (λb=>mT g.j 371 [.adr t.c] (λx=>decide ((t.j.length:Int)<=x.type)) (by simp [go_sem]) (by simp [go_sem]) (λx _=>G0 t x)) (λb=>wl) ?_);exact wo (h:=e _ _ (by simp [go_sem,fV];rw [aT];simp))
theorem J2 (t:Types){g:Graph}(d:graphF g=0):fV t g=mR t g:=by
 have c:=dX d;have f:(g.h.any λn=>decide ((t.h.length:Int)<=n))=g.h.any λa=>!insideF t a:=by
  rw [aT,bB,bB];constructor<;>rintro ⟨a,b,h⟩<;>refine ⟨a,b,?_⟩<;>have:=c.1 a b<;>simp [insideF] at h ⊢<;>omega
 have e:(g.j.any λx=>decide ((t.j.length:Int)<=x.type))=g.j.any λx=>!pR t x:=by
  rw [aT,bB,bB];constructor<;>rintro ⟨a,b,h⟩<;>refine ⟨a,b,?_⟩<;>have:=(c.2 a b).1<;>simp [pR] at h ⊢<;>omega
 unfold fV mR;rw [f,e]
def Yc (p g:Graph)(i:Nat):Int:=if i=0 then graphF p else graphF g
theorem Ya (p g:Graph):bV (Yc p g) 0 2=if graphF p≠0 then graphF p else if graphF g≠0 then graphF g else 0:=by simp [bV,Yc]
theorem s6 (t:Types)(z:t.ok)(p g:Graph):Pua 238 [t.d,p.d,g.d] (dI (eL t p g)):=by
 refine Tz.pK ⟨λt=>t==10,λ_=>[]⟩ func238 rfl (λQ m=>?_);have Y:=trivial;refine wv (h:=aB (nM t z) wl ?_);refine dR (λs=>?_) λs=>?_
 .have hA:eL t p g=(dA t).2:=by unfold eL;rw [if_pos (bZ s)]
  exact wv (h:=m _ _ (by simp [go_sem,hA]))
 .have hA:eL t p g=if graphF p≠0 then graphF p else if graphF g≠0 then graphF g else if (!mR t p||!mR t g)=true then 13 else 0:=by unfold eL;rw [if_neg (bZ s)]
  refine wo (h:=bC (λi e H=>(e 3=.adr t.c/\e 4=.adr p.c/\e 5=.adr g.c/\e 22=.list [p.c,g.c]/\e 23=dI 2/\e 24=dI i)/\(i<=2)/\(bV (Yc p g) i (2 - i)=bV (Yc p g) 0 2)) (λi=>2 - i) 0 ⟨wg,wi,(by rfl)⟩ λE r i e H o=>?_);obtain ⟨B,C,u⟩:=o;have Y:=wa Y B;refine dR (λv=>?_) λv=>?_
  .have hi2:i<2:=aD;have a:=fN (Yc p g) hi2;rw [u] at a;obtain ⟨x,y,j⟩:∃ x:Graph,[[D.list (p.h.map cI),D.list (p.j.map Edge.c)],[D.list (g.h.map cI),D.list (g.j.map Edge.c)]][i]?=some [D.list (x.h.map cI),D.list (x.j.map Edge.c)]/\Yc p g i=graphF x:=by
    rcases bX i 1 with h|h
    .obtain rfl:i=0:=aD;exact ⟨p,rfl,rfl⟩
    .obtain rfl:i=1:=aD;exact ⟨g,rfl,rfl⟩
   have q:=nW x;have Y:=xa1 Y v y;refine wo (h:=aB (q) wl ?_);refine eJ (λn=>?_) λn=>?_
   .have hR:eL t p g=graphF x:=by
     rw [j,if_pos (bZ n),Ya] at a;rw [hA];by_cases w:graphF p=0
     .rw [if_neg (by simp [w])] at a ⊢;by_cases l:graphF g=0
      .rw [if_neg (by simp [l])] at a;exact absurd a.symm n
      .rw [if_pos l] at a ⊢;exact a
     .rw [if_pos w] at a ⊢;exact a
    exact wv (h:=m _ _ (by simp [go_sem,hR]))
   .rw [j,if_neg (bZ n)] at a;exact wo (h:=wx r (i+1) ⟨wg,wj,(by exact a.symm)⟩)
  .have hz:bV (Yc p g) 0 2=0:=by rw [<- u,(aD:2 - i=0)];rfl
   have f:graphF p=0:=eZ _ _ hz 0 aD aD;have k:graphF g=0:=eZ _ _ hz 1 aD aD;rw [if_neg (bZ f),if_neg (bZ k),<- J2 t f,<- J2 t k] at hA;refine wo (h:=aB (Bi t p) wl ?_);refine wo (h:=aH (λA=>Bi t g) (λA=>wl) ?_);refine eJ (λb=>?_) λb=>?_
   .rw [if_pos (by simpa [pZ] using b)] at hA;exact wv (h:=m _ _ (by simp [go_sem,hA]))
   .rw [if_neg (by simpa [pZ] using b)] at hA;exact wv (h:=m _ _ (by simp [go_sem,hA]))
/-! ### below -/
def sX (n:Nat)(l:V2):List Bool:=(List.range n).map λ(b:Nat)=>mem l (b:Int)
@[go_sem] theorem Tm (n:Nat)(l:V2):(sX n l).length=n:=by simp [sX]
theorem Tl (n:Nat):sX n []=List.replicate n false:=by
 apply e9 (by simp [sX]);intro i b a;simp [sX,AP]
theorem QF (n:Nat)(l:V2)(x:Int)(c:0<=x):sX n (l++[x])=(sX n l).set x.toNat true:=by
 apply e9 (by simp [sX]);intro i b a;rw [A4];simp only [sX,g9,qY,wY];split
 .rename_i h;rw [c7];right;simp;omega
 .rename_i h;rw [show decide ((i:Int)=x)=false by simp;omega,sL]
def LU (t:Types)(a:Nat):List Bool:=sX t.h.length (lB t a)
def sV (t:Types)(n:Nat):UE:=(List.range n).map λa=>[.list ((LU t a).map cB)]
def belowD (t:Types):D:=.list (sV t t.h.length)
theorem Qk (t:Types)(n:Nat):sV t (n+1)=sV t n++[[.list ((LU t n).map cB)]]:=by simp [sV,dO]
@[go_sem] theorem Y2 (t:Types)(n:Nat):(sV t n).length=n:=by simp [sV]
@[go_sem] theorem Uq (t:Types)(n:Nat):D.R (sV t n)=true:=by
 unfold sV;exact dY (λa=>[.list ((LU t a).map cB)]) (λa=>by simp [D.J,go_sem]) _
theorem TM {t:Types}{a:Int}{x:Int}(h:x∈lB t a):0<=x/\x<t.h.length:=by
 unfold lB at h;split at h
 .simp at h;omega
 .cases h
theorem Ri (t:Types)(a:Int):(lB t a).length<=t.h.length:=by
 unfold lB;split
 .rw [aR];exact fB (jF _ _) aE
 .simp
@[go_sem] theorem Zn (t:Types):(belowD t).Q=true:=Uq t _
theorem CA (t:Types)(w:t.ok):Pua 326 [t.d] (belowD t):=by
 have x:=w.ca;refine Tz.pK ⟨λt=>t==3||t==5||t==19,λ_=>[]⟩ func326 rfl (λQ A=>?_);have Y:=trivial;refine wo (h:=bC (λi e H=>(e 1=.adr t.c/\e 11=.list (t.h.map NodeTy.c)/\e 12=dI t.h.length/\e 3=.own 0 i/\e 13=dI i)/\(H.get 0=some ⟨252,1,sV t i,false⟩)/\(0<H.next)/\(i<=t.h.length)) (λi=>t.h.length - i) 0 ⟨wg,(by simp [go_sem,sV]),wn,wi⟩ λG u i e H p=>?_);obtain ⟨C,m,f,E⟩:=p;have Y:=xa2 Y C m (cW f);refine dR (λy=>?_) λy=>?_
 .have hll:=Ri t i;have Y:=wa Y y;refine wo (h:=aB (Np t w i) wl ?_);refine wo (h:=bC (λk e H=>∃ q:Nat,(e 1=.adr t.c/\e 11=.list (t.h.map NodeTy.c)/\e 12=dI t.h.length/\e 3=.own 0 i/\e 13=dI i/\e 4=dI i/\e 5=.own q t.h.length/\e 26=dLI (lB t i)/\e 27=dI (lB t i).length/\e 28=dI k)/\(H.get 0=some ⟨252,1,sV t i,false⟩)/\(0<H.next)/\(H.get q=some ⟨4,1,(sX t.h.length ((lB t i).take k)).map cB,false⟩)/\(q<H.next)/\(k<=(lB t i).length)/\(0<q)) (λk=>(lB t i).length - k) 0 ⟨H.next,wg,wn,wn,(by simp [go_sem,Tl]),wn,wi,wi⟩ λF s k e H o=>?_);obtain ⟨q,B,l,b,j,a,D,z⟩:=o;have v:=dZ (aD:q≠0);have Y:=xa5 Y B l (cW b) j (cW a) v;refine dR (λg=>?_) λg=>?_
  .have hbx:=TM (aC g);have r:(lB t i)[k].toNat<(sX t.h.length ((lB t i).take k)).length:=by rw [Tm];omega
   have n:sX t.h.length ((lB t i).take (k+1))=(sX t.h.length ((lB t i).take k)).set (lB t i)[k].toNat true:=by rw [List.take_succ_eq_append_getElem g,QF _ _ _ hbx.1]
   have Y:=xa4 Y g (aA g) (aA r) hbx.1 hbx.2;exact wo (h:=wx s (k+1) ⟨q,wg,wn,wn,(by simp [go_sem,Y,n,dB,cB]),wn,wj,wj⟩)
  .have hke:(lB t i).take k=lB t i:=aG aD;have Y:=wa Y hke;exact wo (h:=wx u (i+1) ⟨wg,(by simp [go_sem,Y,Qk,LU]),wn,wj⟩)
 .exact wv (h:=A _ _ (by simp [go_sem,Y,belowD,(aD:i=t.h.length)]))
theorem Mu {t:Types}(a:(dA t).2=0){k:Int}(h:0<=k/\k<t.h.length):given2F t k k=0:=by
 unfold given2F;rw [if_neg (by rw [a];simp),if_pos (by simp [insideF];omega)]
@[go_sem] theorem Z1 (t:Types)(a:Nat):(LU t a).length=t.h.length:=by simp [LU,sX]
theorem Ke {t:Types}{a:Int}(h:0<=a/\a<t.h.length):(sV t t.h.length)[a.toNat]?=some [.list ((LU t a.toNat).map cB)]:=by
 unfold sV;rw [aM,mU aD];rfl
theorem Rh {t:Types}(d:(dA t).2=0){a b:Int}(e:0<=a/\a<t.h.length)(f:0<=b/\b<t.h.length):mem (lB t a) b=uT t a b:=by
 unfold lB uT;rw [if_pos (Mu d e),aT,mem_iff,aX];constructor
 .rintro ⟨k,c,rfl⟩;rw [fY] at c;simpa using c.2
 .intro h;exact ⟨b.toNat,by rw [fY];exact ⟨by simp;omega,h⟩,aD⟩
theorem NM {t:Types}(e:(dA t).2=0){a b:Int}(d:0<=a/\a<t.h.length)(c:0<=b/\b<t.h.length):(LU t a.toNat)[b.toNat]?=some (uT t a b):=by
 unfold LU sX;rw [aM,mU aD,eD,Int.toNat_of_nonneg d.1,Int.toNat_of_nonneg c.1,Rh e d c]
theorem Cz (t:Types)(L:t.ok)(p g:Graph)(u:G17 t p g)(K:(dA t).2=0)(m:Part):Pua 244 [t.d,p.d,g.d,m.d] (dI (matchE t p g m false)):=by
 have P:=bI u.gp;have O:=bI u.gg;have y:=(dX u.gp).2;refine Tz.pK ⟨λt=>t==14||t==15,λr=>match r with|17=>[(0,10),(1,10),(3,10),(4,10),(5,10),(6,10),(8,10),(9,10),(0,11),(1,11),(3,11),(4,11),(5,11),(6,11),(8,11),(9,11),(10,11),(5,12),(6,12),(8,12),(9,12)]|_=>[]⟩ func244 rfl (λQ l=>?_);have Y:=@belowD.eq_1;refine eJ (λS=>?_) λS=>?_
 .have hM:matchE t p g m false=20:=by unfold matchE;rw [if_pos aD]
  exact wv (h:=l _ _ (by simp [go_sem,hM]))
 .have hM:matchE t p g m false=(if bV (mNE t p g m) 0 p.h.length≠0 then bV (mNE t p g m) 0 p.h.length else if bV (mapEE p g m) 0 p.j.length≠0 then bV (mapEE p g m) 0 p.j.length else if false=true/\(¬ m.h.Nodup\/¬ m.j.Nodup) then 5 else 0):=by unfold matchE;rw [if_neg aD]
  have N:m.h.length=p.h.length:=aD;have M:m.j.length=p.j.length:=aD;refine wv (h:=aB (CA t L) wl ?_);refine wo (h:=bC (λi e H=>(e 4=.adr t.c/\e 5=.adr p.c/\e 6=.adr g.c/\e 7=.adr m.c/\e 9=.list (sV t t.h.length)/\e 35=dLI m.h/\e 36=dI m.h.length/\e 37=dI i)/\(i<=m.h.length)/\(bV (mNE t p g m) i (p.h.length - i)=bV (mNE t p g m) 0 p.h.length)) (λi=>m.h.length - i) 0 ⟨wg,wi,(by rfl)⟩ λI0 D i e H A=>?_);obtain ⟨U,X,I⟩:=A;have Y:=wa Y U;refine dR (λv=>?_) λv=>?_
  .have hn:i<p.h.length:=aD;have a:=fN (mNE t p g m) hn;rw [I] at a;have f:mNE t p g m i=(if m.h[i]<0\/(g.h.length:Int)<=m.h[i] then 6 else if uT t p.h[i] (g.h[m.h[i].toNat]?.getD 0)=true then 0 else 13):=by simp only [mNE,aA v,aA hn,Option.getD_some]
   have s:=u.tp _ (aC hn);have Y:=xa2 Y v (aA v) (aA hn);refine eJ (λR=>?_) λR=>?_
   .rw [if_pos aD] at f;rw [f,if_pos aD] at a;rw [a,if_pos aD] at hM;exact wv (h:=l _ _ (by simp [go_sem,hM]))
   .have hkb:m.h[i].toNat<g.h.length:=aD;rw [if_neg aD,aA hkb,Option.getD_some] at f;have B:=u.tg _ (aC hkb);have w:=Ke s;have x:=NM K s B;have Y:=xa2 Y (aA hkb) w x;refine eJ (λE=>?_) λE=>?_
    .rw [if_neg (bZ E)] at f;rw [f,if_pos aD] at a;rw [a,if_pos aD] at hM;exact wv (h:=l _ _ (by simp [go_sem,hM]))
    .rw [if_pos (bZ E)] at f;rw [f,if_neg aD] at a;exact wo (h:=wx D (i+1) ⟨wg,wj,(by exact a.symm)⟩)
  .have hN0:bV (mNE t p g m) 0 p.h.length=0:=by rw [<- I,(aD:p.h.length - i=0)];rfl
   rw [hN0,if_neg aD] at hM;refine wo (h:=bC (λk e H=>(e 4=.adr t.c/\e 5=.adr p.c/\e 6=.adr g.c/\e 7=.adr m.c/\e 9=.list (sV t t.h.length)/\e 69=dLI m.j/\e 70=dI m.j.length/\e 71=dI k)/\(k<=m.j.length)/\(bV (mapEE p g m) k (p.j.length - k)=bV (mapEE p g m) 0 p.j.length)) (λk=>m.j.length - k) 0 ⟨wg,wi,(by rfl)⟩ λZ C k e H z=>?_);obtain ⟨T,W,J⟩:=z;have Y:=wa Y T;refine dR (λj=>?_) λj=>?_
   .have hn:k<p.j.length:=aD;have a:=fN (mapEE p g m) hn;rw [J] at a;have V:=y _ (aC hn);have q:p.j[k].w.toNat<m.h.length:=aD;have o:p.j[k].M.toNat<m.h.length:=aD;have b:mapEE p g m k=(if m.j[k]<0\/(g.j.length:Int)<=m.j[k] then 6 else if p.j[k].type≠(g.j[m.j[k].toNat]?.getD cY).type then 13 else if m.h[p.j[k].w.toNat]≠(g.j[m.j[k].toNat]?.getD cY).w\/m.h[p.j[k].M.toNat]≠(g.j[m.j[k].toNat]?.getD cY).M then 11 else 0):=by
     simp only [mapEE,aA j,aA hn,Option.getD_some,aA q,aA o]
    have Y:=xa4 Y j (aA j) (aA hn) (aA q) (aA o);refine eJ (λG=>?_) λG=>?_
    .rw [if_pos aD] at b;rw [b,if_pos aD] at a;rw [a,if_pos aD] at hM;exact wv (h:=l _ _ (by simp [go_sem,hM]))
    .have hkb:m.j[k].toNat<g.j.length:=aD;rw [if_neg aD,aA hkb,Option.getD_some] at b;have Y:=wa Y (aA hkb);refine eJ (λn=>?_) λn=>?_
     .rw [if_pos n] at b;rw [b,if_pos aD] at a;rw [a,if_pos aD] at hM;exact wv (h:=l _ _ (by simp [go_sem,hM]))
     .rw [if_neg (bZ n)] at b;refine eJ (λF=>?_) λF=>?_
      .rw [if_pos aD] at b;rw [b,if_pos aD] at a;rw [a,if_pos aD] at hM;exact wv (h:=l _ _ (by simp [go_sem,hM]))
      .rw [if_neg aD] at b;rw [b,if_neg aD] at a;exact wo (h:=wx C (k+1) ⟨wg,wj,(by exact a.symm)⟩)
   .have hE0:bV (mapEE p g m) 0 p.j.length=0:=by rw [<- J,(aD:p.j.length - k=0)];rfl
    rw [hE0,if_neg aD] at hM;rw [if_neg aE] at hM;exact wv (h:=l _ _ (by simp [go_sem,hM]))
/-! ### the finder -/
theorem Jd (i:Nat):Pua 403 [.nil,dI i] (dI (-1)):=by
 refine Tz.p0 func403 rfl λQ a Y=>?_;exact wv (h:=a _ _ wy)
theorem LJ (l:V2){i:Nat}(h:i<l.length):Pua 403 [dLI l,dI i] (dI l[i]):=by
 have a:l≠[]:=λe=>by rw [e] at h;simp at h
 refine Tz.p0 func403 rfl λQ b _=>?_;have Y:=wa (aA h) a;exact wo (h:=b _ _ wy)
def GivD (d:D)(l:V2)(n:Nat):Prop:=d.Q=true/\∀ i,i<n->Pure prog 403 [d,dI i] (dI (l[i]?.getD (-1)))
theorem GivD.nil (n:Nat):GivD .nil (List.replicate n (-1)) n:=⟨rfl,λi hi=>by
 have:=Jd i;rw [wI,if_pos hi];exact this⟩
theorem GivD.list (l:V2):GivD (dLI l) l l.length:=⟨qO l,λi hi=>by rw [aA hi];exact LJ l hi⟩
theorem LI (k n:Int):Pua 421 [dI k,.adr [dI n]] (.bool (decide (k < -1)||decide (n<=k))):=by
 refine Tz.p0 func421 rfl λQ a Y=>?_;exact wo (h:=a _ _ wy)
theorem KX {f:Nat->Int}{c:Int}(h:∀ j,f j=0\/f j=c):∀ n k,bV f k n=0\/bV f k n=c
 | 0,k=>.inl rfl
 | n+1,k=>by
  unfold bV;split
  .rename_i h1;exact .inr ((h k).resolve_left h1)
  .exact KX h n (k+1)
theorem OF (l:V2)(n:Int):oL l n=if (l.any λk=>decide (k < -1)||decide (n<=k))=true then 6 else 0:=by
 by_cases h:(l.any λk=>decide (k < -1)||decide (n<=k))=true
 .rw [if_pos h];rcases KX (f:=CZ n l) (c:=6) (λj=>by unfold CZ;split<;>simp) l.length 0 with h0|h0
  .obtain ⟨x,d,a⟩:=bB.1 h;obtain ⟨i,e,rfl⟩:=aN d;have:=eZ _ _ h0 i aD aD;unfold CZ at this;rw [aA e,Option.getD_some] at this;simp only [c7,decide_eq_true_eq] at a;rw [if_pos a] at this;cases this
  .exact h0
 .rw [if_neg h];refine iM _ _ λj _ g=>?_;unfold CZ;rw [if_neg];intro a;have b:j<l.length:=aD;rw [aA b,Option.getD_some] at a;exact h (bB.2 ⟨_,aC b,by simpa using a⟩)
theorem EM (l:V2)(n:Int):Pua 420 [dLI l,dI n] (dI (oL l n)):=by
 refine Tz.p0 func420 rfl λQ b Y=>?_;refine wv (h:=aB (g7 l 421 [.adr [dI n]] (λk=>decide (k < -1)||decide (n<=k)) (by simp [go_sem]) (by simp [go_sem]) (λk _=>LI k n)) wl ?_);refine dR (λa=>?_) λa=>?_
 .have hO:oL l n=6:=by rw [OF,if_pos (bZ a)]
  exact wv (h:=b _ _ (by simp [go_sem,hO]))
 .have hO:oL l n=0:=by rw [OF,if_neg (bZ a)]
  exact wv (h:=b _ _ (by simp [go_sem,hO]))
def Srch.a2 (S:Srch)(most:Int)(pn pe ns es ou:D):UN:=[dLI S.p.h,.list (S.p.j.map Edge.c),dLI S.g.h,.list (S.g.j.map Edge.c),.list (sV S.t S.t.h.length),pn,pe,.bool S.inj,dI most,ns,es,ou]
def FZ (S:Srch)(l:V2)(i k:Nat):Bool:=At S.pe i k&&Aq S l i k
theorem EN (S:Srch)(a:Int)(r pe es s:D)(j:r.Q=true)(q:es.Q=true)(n:s.Q=true)(l:V2)(i k:Nat)(o:i<S.p.j.length)(w:k<S.g.j.length)
  (b:GivD pe S.pe S.p.j.length) (B:0<=S.p.j[i].w) (y:S.p.j[i].w.toNat<l.length) (x:0<=S.p.j[i].M) (e:S.p.j[i].M.toNat<l.length) :
  Pua 405 [.adr (S.a2 a r pe (dLI l) es s),dI i,dI k] (.bool (FZ S l i k)):=by
 have m:=b.1;obtain ⟨v,u⟩:=c6 (S.pe[i]?.getD (-1));have d:=b.2 i o;rw [<- u] at d;have f:At S.pe i k=(decide (v<0)||decide (v=(k:Int))):=by unfold At;rw [<- u]
 have C:Aq S l i k=(decide (S.g.j[k].type=S.p.j[i].type)&&(decide (S.g.j[k].w=l[S.p.j[i].w.toNat])&&decide (S.g.j[k].M=l[S.p.j[i].M.toNat]))):=by
  simp only [Aq,Yk,Vc,aA w,aA o,Option.getD_some,aA y,aA e];simp
 refine Tz.pK ⟨λt=>t==7,λ_=>[]⟩ func405 rfl (λQ z=>?_);have Y:=xa8 @Srch.a2.eq_1 (aA o) (aA w) (aA y) (aA e) @Edge.c.eq_1 j q n m;refine wo (h:=aB (d) wl ?_);refine eJ (λA=>?_) λA=>?_
 .have hE:FZ S l i k=false:=by unfold FZ;rw [f,show decide (v<0)=false by simp;omega,show decide (v=(k:Int))=false by simp;omega];rfl
  exact wv (h:=z _ _ (by simp [go_sem,hE]))
 .have hE:FZ S l i k=Aq S l i k:=by
   unfold FZ;rw [f];rcases Int.lt_or_le v 0 with h|h
   .simp [h]
   .simp [A h]
  exact wo (h:=z _ _ (by simp [go_sem,hE,C,Db,kY]))
theorem FJ (S:Srch)(L:graphF S.p=0)(U:graphF S.g=0)(a:Int)(r s es u:D)(f:r.Q=true)(n:es.Q=true)(m:u.Q=true)(l:V2)(v:GivD s S.pe S.p.j.length) :
  Pua 404 [.adr (S.a2 a r s (dLI l) es u)] (.bool (vC S l)):=by
 have w:=v.1;have B:=(dX L).2;have T:=bI L;have R:=bI U;have V:D.J (S.a2 a r s (dLI l) es u)=true:=by simp [go_sem,Srch.a2,D.J,f,n,m,w]
 refine Tz.pK ⟨λt=>t==5,λ_=>[]⟩ func404 rfl (λQ O=>?_);have Y:=xa3 @Srch.a2.eq_1 f n m w;refine wo (h:=bC (λi e H=>(e 0=.adr (S.a2 a r s (dLI l) es u)/\e 3=dI ((l.length:Int) - 1)/\e 18=.list (S.p.j.map Edge.c)/\e 19=dI S.p.j.length/\e 20=dI i)/\(i<=S.p.j.length)/\(∀ j,j<i->Hy S l j=true)) (λi=>S.p.j.length - i) 0 ⟨wg,wi,(by intro j C;omega)⟩ λI0 x i e H F=>?_);obtain ⟨Z,hi,I⟩:=F;have Y:=wa Y Z;refine dR (λq=>?_) λq=>?_
 .have hxi:=(B _ (aC q)).2;have o:Hy S l i=(decide (max S.p.j[i].w S.p.j[i].M≠(l.length:Int) - 1)||(List.range S.g.j.length).any (FZ S l i)):=by
   unfold Hy;rw [aA q,Option.getD_some];rfl
  have Y:=xa2 Y q (aA q) @Edge.c.eq_1;refine eJ (λP=>?_) λP=>?_
  .have hKi:Hy S l i=true:=by rw [o];simp;omega
   exact wo (h:=wx x (i+1) ⟨wg,wj,(by intro j C;rcases bX j i with hji|hji;exact I j hji;(obtain rfl:j=i:=aD;exact hKi))⟩)
  .have hf:S.p.j[i].w.toNat<l.length:=aD;have G:S.p.j[i].M.toNat<l.length:=aD;have A:=hxi.1.1;have z:=hxi.2.1;have W:=q;have Y:=wa Y P;refine wo (h:=bC (λk e H=>(e 0=.adr (S.a2 a r s (dLI l) es u)/\e 3=dI ((l.length:Int) - 1)/\e 18=.list (S.p.j.map Edge.c)/\e 19=dI S.p.j.length/\e 20=dI i/\e 4=dI i/\e 6=.bool false/\e 37=dI S.g.j.length/\e 38=dI k)/\(k<=S.g.j.length)/\((List.range k).any (FZ S l i)=false)) (λk=>S.g.j.length - k) 0 ⟨wg,wi,(by rfl)⟩ λI2 J k e H E=>?_);obtain ⟨X,hk,N⟩:=E;have Y:=wa Y X;refine dR (λy=>?_) λy=>?_
   .obtain ⟨fb,M⟩:∃ b,b=FZ S l i k:=⟨_,rfl⟩;have Y:=wa Y y;refine wv (h:=aB (EN S a r s es u f n m l i k W y v A hf z G) wl ?_);refine dR (λd=>?_) λd=>?_
    .have hKi:Hy S l i=true:=by
      rw [o,c7];right;exact bB.2 ⟨k,by simpa using y,by simpa using d⟩
     exact wo (h:=wx x (i+1) ⟨wg,wj,(by intro j C;rcases bX j i with hji|hji;exact I j hji;(obtain rfl:j=i:=aD;exact hKi))⟩)
    .have hfb:FZ S l i k=false:=by simpa using d
     have Y:=wa Y d;exact wo (h:=wx J (k+1) ⟨wg,wj,(by rw [AB,N,hfb];rfl)⟩)
   .have hb0:(List.range S.g.j.length).any (FZ S l i)=false:=by rw [(aD:S.g.j.length=k)];exact N
    have K:vC S l=false:=by
     simp only [vC,sK,aW];exact ⟨i,q,by rw [o,hb0];simp;omega⟩
    exact wo (h:=O _ _ (by simp [go_sem,K]))
 .have K:vC S l=true:=by
   simp only [vC,b9,aW];exact λj C=>I j aD
  exact wv (h:=O _ _ (by simp [go_sem,K]))
def K6 (S:Srch)(N:Nat)(ns es:V2)(out:List Part):List Part:=if ns.length<S.p.h.length then RG S N (S.p.h.length - ns.length) ns out else Ja S N ns (S.p.j.length - es.length) es out
theorem Uv (S:Srch){N:Nat}(d:Nat)(l:V2){a:List Part}(h:N<=a.length):RG S N d l a=a:=by cases d<;>simp only [RG,if_pos h]
theorem If (S:Srch){N:Nat}(ns es:V2){a:List Part}(h:N<=a.length):K6 S N ns es a=a:=by
 unfold K6;split;exact Uv S _ _ h;exact GR _ _ _ h
theorem Ie (S:Srch)(N:Nat)(ns:V2)(a:List Part):K6 S N ns [] a=RG S N (S.p.h.length - ns.length) ns a:=by
 unfold K6;split
 .rfl
 .rename_i h;rw [(aD:S.p.h.length - ns.length=0)];simp only [RG,jQ,Nat.sub_zero];split
  .rename_i h2;exact GR _ _ _ h2
  .rfl
structure FdS (f a b o:Nat) (S:Srch) (N:Nat) (pn pe:D) (ns es:V2) (out:List Part) (H:AHeap):Prop where
 bf:H.get f=some ⟨393,12,[S.a2 N pn pe (.own a ns.length) (.own b es.length) (.own o out.length)],false⟩
 ba:H.get a=some ⟨3,1,ns.map cI,false⟩
 bb:H.get b=some ⟨3,1,es.map cI,false⟩
 bo:H.get o=some ⟨36,2,out.map Part.c,false⟩
 le:out.length<=N
 nf:f<H.next/\a<H.next/\b<H.next/\o<H.next
 d:(f≠a/\f≠b/\f≠o)/\(a≠b/\a≠o)/\b≠o
@[go_sem] theorem Yl (H:AHeap)(i:Nat):(H.drop i).next=H.next:=rfl
@[go_sem] theorem Zj (H:AHeap)(i j:Nat):(H.drop i).get j=if j=i then none else H.get j:=rfl
theorem wO {H:AHeap}{d:D}(h:d.Q=true):fW H d=d:=by cases d<;>first|rfl|simp [D.Q] at h
def VE (S:Srch)(N:Nat)(pn pe:D)(f o m:Nat):Prop :=
  ∀ (ns es:V2) (out:List Part) (a b:Nat) (G:AHeap) (Q:D->AHeap->Prop),(S.p.h.length - ns.length)+(S.p.j.length - es.length)=m->ns.length<=S.p.h.length->es.length<=S.p.j.length->(ns.length<S.p.h.length->es=[])->FdS f a b o S N pn pe ns es out G ->
  (∀ a' b' H',FdS f a' b' o S N pn pe ns es (K6 S N ns es out) H'->Q (.tup []) H')->ACalls prog 372 [.ptr f 1 0 0] G Q
theorem LN (S:Srch)(A:G17 S.t S.p S.g)(hv:(dA S.t).2=0)(N:Nat)(hN:N<=5001)(pn E:D)(X:GivD pn S.pn S.p.h.length)(Z:GivD E S.pe S.p.j.length)(f o:Nat)(m:Nat)(ih:∀ k,k<m->VE S N pn E f o k)(ns es:V2)(i:List Part)(a b:Nat)(G:AHeap)(Q:D->AHeap->Prop)(hm:(S.p.h.length - ns.length)+(S.p.j.length - es.length)=m)(f5:ns.length<=S.p.h.length)(f0:es.length<=S.p.j.length)(c4:ns.length<S.p.h.length->es=[])(hF:FdS f a b o S N pn E ns es i G)
  (hQ:∀ a' b' H',FdS f a' b' o S N pn E ns es (K6 S N ns es i) H'->Q (.tup []) H') (c5:ns.length<S.p.h.length) :
  ACalls prog 372 [.ptr f 1 0 0] G Q:=by
 have f9:=bI A.gp;have f8:=bI A.gg;have g0:∀ x∈S.p.j,(0<=x.w/\x.w<S.p.h.length)/\(0<=x.M/\x.M<S.p.h.length):=λx hx=>((dX A.gp).2 x hx).2;obtain ⟨gf,ga,gb,go,a5,⟨lf,la,lb,lo⟩,⟨d1,d2,d3⟩,⟨d4,d5⟩,d6⟩:=hF;have ff:=cW lf;have fa:=cW la;have fb:=cW lb;have fo:=cW lo;have w:=X.1;have F:=Z.1;have b6:∀ H:AHeap,fW H pn=pn:=λH=>wO w;have W:∀ H:AHeap,fW H E=E:=λH=>wO F;refine (Tz.cK ⟨λ_=>false,λr=>match r with|0=>[(2,16),(3,16),(4,16)]|_=>[]⟩ func372 rfl ?_);have e8:=xa4 (dZ (aD:o≠b)) (dZ (aD:o≠a)) (dZ (aD:o≠f)) (dZ (aD:b≠a)) (dZ (aD:b≠f)) (dZ (aD:a≠f));have Y:=xa3 gf ga gb go (xb0 ff fa fb fo @Part.c.eq_1 @Srch.a2.eq_1 w F b6 W c5 e8);refine mA (λh1=>?_) λh1=>?_
 .have hX:K6 S N ns es i=i:=If S _ _ aD;refine wv (h:=?_);exact hQ a b _ (by rw [hX];exact ⟨gf,ga,gb,go,a5,⟨by first|exact lf|(simp;omega),by first|exact la|(simp;omega),by first|exact lb|(simp;omega),by first|exact lo|(simp;omega)⟩,⟨d1,d2,d3⟩,⟨d4,d5⟩,d6⟩)
 .have hnf:¬ N<=i.length:=aD;have c9:=c4 aD;subst c9;obtain ⟨U,b9⟩:∃ U,S.p.h.length - ns.length=U+1:=⟨S.p.h.length - ns.length - 1,aD⟩;have C:ns.length<S.p.h.length:=aD;have a7:=A.tp _ (aC C);have b4:=Ke a7;obtain ⟨v,V⟩:=c6 (S.pn[ns.length]?.getD (-1));have a6:=X.2 ns.length C;rw [<- V] at a6;have a0:∀ j (hj:j<S.g.h.length),Kt S ns j=((decide (v<0)||decide (v=(j:Int)))&&(!(S.inj&&mem ns j)&&uT S.t S.p.h[ns.length] S.g.h[j])):=λj hj=>by
   simp only [Kt,At,<- V,aA hj,aA C,Option.getD_some]
  have Y:=xa1 Y (aA C) b4;refine wp (h:=bC (λj e H=>∃ s:Nat,∃ q:Nat,∃ n:List Part,(e 0=.ptr f 1 0 0/\e 2=dI ns.length/\e 61=dLI S.g.h/\e 62=dI S.g.h.length/\e 63=dI j)/\(H.get f=some ⟨393,12,[S.a2 N pn E (.own s ns.length) (.own q 0) (.own o n.length)],false⟩)/\(f<H.next)/\(H.get s=some ⟨3,1,ns.map cI,false⟩)/\(s<H.next)/\(H.get q=some ⟨3,1,[],false⟩)/\(q<H.next)/\(H.get o=some ⟨36,2,n.map Part.c,false⟩)/\(o<H.next)/\(f≠s)/\(f≠q)/\(s≠q)/\(s≠o)/\(q≠o)/\(j<=S.g.h.length)/\(n.length<=N)/\(n=(List.range j).foldl (λn k=>if (Kt S ns k&&vC S (ns++[(k:Int)]))=true then RG S N U (ns++[(k:Int)]) n else n) i)) (λj=>S.g.h.length - j) 0 ⟨a,b,i,wg,wn,wn,wn,wn,wn,wn,wn,wn,wi,wi,wi,wi,wi,wi,(by exact a5),(by rfl)⟩ λI1 K j e H c0=>?_);obtain ⟨s,q,n,E1,b0,R,O,J,M,I,a9,P,e1,e2,e3,e4,e5,hj,l,B⟩:=c0;have e7:=xa4 (dZ (aD:o≠q)) (dZ (aD:o≠s)) (dZ (aD:o≠f)) (dZ (aD:q≠s)) (dZ (aD:q≠f)) (dZ (aD:s≠f));have Y:=xa9 Y E1 b0 (cW R) O (cW J) M (cW I) a9 (cW P) e7;refine dR (λh5=>?_) λh5=>?_
  .have hEj:=a0 j h5;have c7:=A.tg _ (aC h5);have b5:=NM hv a7 c7;have Y:=xa2 Y h5 (aA h5) b5;refine wp (h:=aB (a6) wl ?_);refine wp (h:=JG (λhg=>f6 ns j) wr (λhg=>wl) (λhg=> rfl) rfl wrd ?_);refine mA (λh8=>?_) λh8=>?_
   .have hE:(Kt S ns j&&vC S (ns++[(j:Int)]))=false:=by
     have:Kt S ns j=false:=by
      rw [hEj,bK];intro hT;simp at hT;obtain ⟨c1,c2,c3⟩:=hT;rcases h8 with (⟨k1,T⟩|k1)|⟨k1,T⟩
      .rcases c1 with c1|c1
       .omega
       .exact T c1
      .rw [k1] at c3;cases c3
      .rcases c2 with c2|c2
       .rw [k1] at c2;cases c2
       .rw [T] at c2;cases c2
     rw [this];rfl
    obtain ⟨u,d⟩:∃ x,x=n:=⟨_,rfl⟩;obtain ⟨a2,z⟩:∃ x,x=s:=⟨_,rfl⟩;obtain ⟨b2,y⟩:∃ x,x=q:=⟨_,rfl⟩;have Y:=xa2 Y d z y;exact wp (h:=wx K (j+1) ⟨a2,b2,u,wg,wn,wn,wn,wn,wn,wn,wn,wn,wj,wj,wj,wj,wj,wj,(by rw [d];first|exact l|exact Qy A.gp _ _ l),(by rw [eV,<- B,d];first|rw [if_pos hE]|rw [if_neg (by rw [hE];simp)])⟩)
   .have hO:Kt S ns j=true:=by
     obtain ⟨⟨k1,T⟩,k3⟩:=h8;have c1:(decide (v<0)||decide (v=(j:Int)))=true:=by simp;omega
     have c2:(S.inj&&mem ns (j:Int))=false:=by cases hI:S.inj;rfl;simp [k3 hI]
     rw [hEj,c1,T,c2];rfl
    have a4:(S.p.h.length - (ns++[(j:Int)]).length)+(S.p.j.length - ([]:V2).length)=m - 1:=by simp at hm ⊢;omega
    obtain ⟨m',b7⟩:∃ x,x=m - 1:=⟨_,rfl⟩;rw [<- b7] at a4;have Y:=wa Y h8;refine wp (h:=Fo (FJ S A.gp A.gg N pn E (dLI []) (.list (n.map Part.c)) w (by simp [D.Q,go_sem]) (by simp [D.Q,wV]) (ns++[(j:Int)]) Z) Zr wl rfl ?_);refine mA (λL=>?_) λL=>?_
    .have hE:(Kt S ns j&&vC S (ns++[(j:Int)]))=true:=by rw [hO,L];rfl
     obtain ⟨u,d⟩:∃ x,x=RG S N U (ns++[(j:Int)]) n:=⟨_,rfl⟩;have b8:S.p.h.length - (ns.length+1)=U:=aD;have Y:=xa1 Y b8 (Eq.symm d);refine wv (h:=?_);unfold f7;refine ih m' aD (ns++[(j:Int)]) [] n s q _ _ a4 (by simp;omega) aE (λ_=>rfl) ⟨by simp [go_sem,Y],by simp [go_sem,Y],by simp [go_sem,Y],by simp [go_sem,Y],l,⟨by simp [go_sem];omega,by simp [go_sem];omega,by simp [go_sem];omega,by simp [go_sem];omega⟩,⟨e1,e2,d3⟩,⟨e3,e4⟩,e5⟩ (λa3 b3 H3 a8=>?_);rw [Ie] at a8;obtain ⟨d7,d9,d8,d0,e9,⟨f2,f4,f3,f1⟩,⟨x1,x2,x3⟩,⟨x4,x5⟩,x6⟩:=a8;have e0:=xa2 (cW (aD:f<H3.next)) (cW (aD:a3<H3.next)) (cW (aD:b3<H3.next)) (cW (aD:o<H3.next));have e6:=xa4 (dZ (aD:o≠b3)) (dZ (aD:o≠a3)) (dZ (aD:o≠f)) (dZ (aD:b3≠a3)) (dZ (aD:b3≠f)) (dZ (aD:a3≠f));obtain ⟨a2,z⟩:∃ x,x=H3.next:=⟨_,rfl⟩;obtain ⟨b2,y⟩:∃ x,x=b3:=⟨_,rfl⟩;have Y:=xa7 Y d7 d9 d8 d0 e0 e6 z y;exact wp (h:=HF (Ghosts.trunc (.refl _) f 0 9 a3 ns.length _ _ _ (by simp [go_sem,Y];rfl) rfl rfl (by simp [go_sem,Y];rfl) (by simp [go_sem,Y]) rfl aD) (j+1) aD ((K _ _ _).2 ⟨a2,b2,u,wg,wn,wn,wn,wn,wn,wn,wn,wn,wj,wj,wj,wj,wj,wj,(by rw [d];first|exact l|exact Qy A.gp _ _ l),(by rw [eV,<- B,d];first|rw [if_pos hE]|rw [if_neg (by rw [hE];simp)])⟩))
    .have hE:(Kt S ns j&&vC S (ns++[(j:Int)]))=false:=by rw [hO,L];rfl
     obtain ⟨u,d⟩:∃ x,x=n:=⟨_,rfl⟩;obtain ⟨a2,z⟩:∃ x,x=H.next+41:=⟨_,rfl⟩;obtain ⟨b2,y⟩:∃ x,x=q:=⟨_,rfl⟩;have Y:=xa2 Y d z y;exact wp (h:=HF (Ghosts.trunc (.refl _) f 0 9 s ns.length _ _ _ (by simp [go_sem,Y];rfl) rfl rfl (by simp [go_sem,Y];rfl) (by simp [go_sem,Y]) rfl aD) (j+1) aD ((K _ _ _).2 ⟨a2,b2,u,wg,wn,wn,wn,wn,wn,wn,wn,wn,wj,wj,wj,wj,wj,wj,(by rw [d];first|exact l|exact Qy A.gp _ _ l),(by rw [eV,<- B,d];first|rw [if_pos hE]|rw [if_neg (by rw [hE];simp)])⟩))
  .have hJ:j=S.g.h.length:=aD;have c8:K6 S N ns [] i=n:=by rw [Ie,b9];simp only [RG];rw [if_neg hnf,B,hJ]
   refine wv (h:=?_);exact hQ s q _ (by rw [c8];exact ⟨by assumption,by assumption,by assumption,by assumption,l,⟨by assumption,by assumption,by assumption,by assumption⟩,⟨e1,e2,d3⟩,⟨e3,e4⟩,e5⟩)
theorem aeB (a k:Nat):a+(k+1) - (a+1)=k+1 - 1:=aD
theorem aeA (a k:Nat):a+(k+1) - (a+1)=k:=aD
theorem ad9 (a k:Nat):a+(k+1) - a=k+1:=aD
theorem LM (S:Srch)(hG:G17 S.t S.p S.g)(hv:(dA S.t).2=0)(N:Nat)(hN:N<=5001)(A pe:D)(b4:GivD A S.pn S.p.h.length)(W:GivD pe S.pe S.p.j.length)(f o:Nat)(m:Nat)(ih:∀ k,k<m->VE S N A pe f o k)(ns es:V2)(i:List Part)(a b:Nat)(G:AHeap)(Q:D->AHeap->Prop)(hm:(S.p.h.length - ns.length)+(S.p.j.length - es.length)=m)(f2:ns.length<=S.p.h.length)(e7:es.length<=S.p.j.length)(f5:ns.length<S.p.h.length->es=[])(hF:FdS f a b o S N A pe ns es i G)
  (hQ:∀ a' b' H',FdS f a' b' o S N A pe ns es (K6 S N ns es i) H'->Q (.tup []) H') (y:¬ ns.length<S.p.h.length) (c4:es.length<S.p.j.length) :
  ACalls prog 372 [.ptr f 1 0 0] G Q:=by
 have f4:=bI hG.gp;have f3:=bI hG.gg;have b8:∀ x∈S.p.j,(0<=x.w/\x.w<S.p.h.length)/\(0<=x.M/\x.M<S.p.h.length):=λx hx=>((dX hG.gp).2 x hx).2;obtain ⟨gf,ga,gb,go,a4,⟨lf,la,lb,lo⟩,⟨d1,d2,d3⟩,⟨d4,d5⟩,d6⟩:=hF;have ff:=cW lf;have fa:=cW la;have fb:=cW lb;have fo:=cW lo;have u:=b4.1;have B:=W.1;have b0:∀ H:AHeap,fW H A=A:=λH=>wO u;have V:∀ H:AHeap,fW H pe=pe:=λH=>wO B;refine (Tz.cK ⟨λ_=>false,λr=>match r with|0=>[(2,16),(3,16),(4,16)]|_=>[]⟩ func372 rfl ?_);have e0:=xa4 (dZ (aD:o≠b)) (dZ (aD:o≠a)) (dZ (aD:o≠f)) (dZ (aD:b≠a)) (dZ (aD:b≠f)) (dZ (aD:a≠f));have Y:=xa4 gf ga gb go ff (xb0 fa fb fo @Part.c.eq_1 @Srch.a2.eq_1 u B b0 V y c4 e0);refine mA (λh1=>?_) λh1=>?_
 .have hX:K6 S N ns es i=i:=If S _ _ aD;refine wv (h:=?_);exact hQ a b _ (by rw [hX];exact ⟨gf,ga,gb,go,a4,⟨by first|exact lf|(simp;omega),by first|exact la|(simp;omega),by first|exact lb|(simp;omega),by first|exact lo|(simp;omega)⟩,⟨d1,d2,d3⟩,⟨d4,d5⟩,d6⟩)
 .have hnf:¬ N<=i.length:=aD;obtain ⟨w,a5⟩:∃ w,S.p.j.length - es.length=w+1:=⟨S.p.j.length - es.length - 1,aD⟩;have Z:m=w+1:=by rw [<- hm,Nat.sub_eq_zero_of_le (Gv.1 y),fA,a5]
  have J:S.p.j.length=es.length+(w+1):=aD;clear hm a5;have C:es.length<S.p.j.length:=aD;have a6:=b8 _ (aC C);have c3:S.p.j[es.length].w.toNat<ns.length:=aD;have c0:S.p.j[es.length].M.toNat<ns.length:=aD;refine wp (h:=bC (λj e H=>∃ s:Nat,∃ q:Nat,∃ l:List Part,(e 0=.ptr f 1 0 0/\e 6=dI es.length/\e 162=.list (S.g.j.map Edge.c)/\e 163=dI S.g.j.length/\e 164=dI j)/\(H.get f=some ⟨393,12,[S.a2 N A pe (.own s ns.length) (.own q es.length) (.own o l.length)],false⟩)/\(f<H.next)/\(H.get s=some ⟨3,1,ns.map cI,false⟩)/\(s<H.next)/\(H.get q=some ⟨3,1,es.map cI,false⟩)/\(q<H.next)/\(H.get o=some ⟨36,2,l.map Part.c,false⟩)/\(o<H.next)/\(f≠s)/\(f≠q)/\(s≠q)/\(s≠o)/\(q≠o)/\(j<=S.g.j.length)/\(l.length<=N)/\(l=(List.range j).foldl (λl k=>if RN S ns es k=true then Ja S N ns w (es++[(k:Int)]) l else l) i)) (λj=>S.g.j.length - j) 0 ⟨a,b,i,wg,wn,wn,wn,wn,wn,wn,wn,wn,wi,wi,wi,wi,wi,wi,(by exact a4),(by rfl)⟩ λI3 a7 j e H b9=>?_);obtain ⟨s,q,l,E3,a9,T,P,F,O,E,a8,R,e1,e2,e3,e4,e5,hj,n,I⟩:=b9;have d9:=xa4 (dZ (aD:o≠q)) (dZ (aD:o≠s)) (dZ (aD:o≠f)) (dZ (aD:q≠s)) (dZ (aD:q≠f)) (dZ (aD:s≠f));have Y:=xa9 Y E3 a9 (cW T) P (cW F) O (cW E) a8 (cW R) d9;refine dR (λM=>?_) λM=>?_
  .have hEj:RN S ns es j=(FZ S ns es.length j&&!(S.inj&&mem es j)):=by
    simp only [RN,FZ];cases At S.pe es.length j<;>cases Aq S ns es.length j<;>cases (S.inj&&mem es j)<;>rfl
   have Y:=wa Y M;refine wp (h:=Fo (EN S N A pe (dLI es) (.list (l.map Part.c)) u (by simp [D.Q,go_sem]) (by simp [D.Q,wV]) ns es.length j C M W a6.1.1 c3 a6.2.1 c0) Zr wl rfl ?_);refine wp (h:=Mx (λhg=>f6 es j) wr (λhg=>wl) (λhg=> rfl) ?_);refine mA (λz=>?_) λz=>?_
   .have hE:RN S ns es j=false:=by
     rw [hEj];rcases z with U|⟨U,k2⟩
     .rw [U];rfl
     .rw [U,k2];simp
    obtain ⟨v,d⟩:∃ x,x=l:=⟨_,rfl⟩;obtain ⟨a2,L⟩:∃ x,x=s:=⟨_,rfl⟩;obtain ⟨b2,K⟩:∃ x,x=q:=⟨_,rfl⟩;have Y:=xa2 Y d L K;exact wp (h:=wx a7 (j+1) ⟨a2,b2,v,wg,wn,wn,wn,wn,wn,wn,wn,wn,wj,wj,wj,wj,wj,wj,(by rw [d];first|exact n|exact D0 _ _ _ _ n),(by rw [eV,<- I,d];first|rw [if_pos hE]|rw [if_neg (by rw [hE];simp)])⟩)
   .have hE:RN S ns es j=true:=by
     obtain ⟨U,k2⟩:=z;have c2:(S.inj&&mem es (j:Int))=false:=by cases hI:S.inj;rfl;simp [k2 hI]
     rw [hEj,U,c2];rfl
    have a0:(S.p.h.length - ns.length)+(S.p.j.length - (es++[(j:Int)]).length)=m - 1:=by
     rw [Nat.sub_eq_zero_of_le (Gv.1 y),aQ,List.length_singleton,fA,J,Z];exact aeB _ _
    have X:m - 1<m:=by rw [Z];exact Nat.lt_succ_self w
    obtain ⟨m',b5⟩:∃ x,x=m - 1:=⟨_,rfl⟩;rw [<- b5] at a0 X;obtain ⟨v,d⟩:∃ x,x=Ja S N ns w (es++[(j:Int)]) l:=⟨_,rfl⟩;have c1:K6 S N ns (es++[(j:Int)]) l=v:=by
     have b6:S.p.j.length - (es++[(j:Int)]).length=w:=by
      rw [aQ,List.length_singleton,J];exact aeA _ _
     rw [d];unfold K6;rw [if_neg (aD:¬ ns.length<S.p.h.length),b6]
    have Y:=xa1 Y z c1;refine wp (h:=?_);unfold f7;refine ih m' X ns (es++[(j:Int)]) l s q _ _ a0 aD (by simp;omega) (λh=>absurd h aD) ⟨by simp [go_sem,Y],by simp [go_sem,Y],by simp [go_sem,Y],by simp [go_sem,Y],n,⟨by simp [go_sem];omega,by simp [go_sem];omega,by simp [go_sem];omega,by simp [go_sem];omega⟩,⟨e1,e2,d3⟩,⟨e3,e4⟩,e5⟩ (λa3 b3 H3 c6=>?_);obtain ⟨c8,d0,c9,c7,e6,⟨e9,f1,f0,e8⟩,⟨x1,x2,x3⟩,⟨x4,x5⟩,x6⟩:=c6;have d7:=xa2 (cW (aD:f<H3.next)) (cW (aD:a3<H3.next)) (cW (aD:b3<H3.next)) (cW (aD:o<H3.next));have d8:=xa4 (dZ (aD:o≠b3)) (dZ (aD:o≠a3)) (dZ (aD:o≠f)) (dZ (aD:b3≠a3)) (dZ (aD:b3≠f)) (dZ (aD:a3≠f));obtain ⟨a2,L⟩:∃ x,x=a3:=⟨_,rfl⟩;obtain ⟨b2,K⟩:∃ x,x=H3.next:=⟨_,rfl⟩;have Y:=xa7 Y c8 d0 c9 c7 d7 d8 L K;exact wp (h:=HF (Ghosts.trunc (.refl _) f 0 10 b3 es.length _ _ _ (by simp [go_sem,Y];rfl) rfl rfl (by simp [go_sem,Y];rfl) (by simp [go_sem,Y]) rfl aD) (j+1) aD ((a7 _ _ _).2 ⟨a2,b2,v,wg,wn,wn,wn,wn,wn,wn,wn,wn,wj,wj,wj,wj,wj,wj,(by rw [d];first|exact n|exact D0 _ _ _ _ n),(by rw [eV,<- I,d];first|rw [if_pos hE]|rw [if_neg (by rw [hE];simp)])⟩))
  .have hJ:j=S.g.j.length:=aD;have b7:S.p.j.length - es.length=w+1:=by
    rw [J];exact ad9 _ _
   have c5:K6 S N ns es i=l:=by unfold K6;rw [if_neg y,b7];simp only [Ja];rw [if_neg hnf,I,hJ]
   refine wv (h:=?_);exact hQ s q _ (by rw [c5];exact ⟨by assumption,by assumption,by assumption,by assumption,n,⟨by assumption,by assumption,by assumption,by assumption⟩,⟨e1,e2,d3⟩,⟨e3,e4⟩,e5⟩)
theorem LL (S:Srch)(A:G17 S.t S.p S.g)(hv:(dA S.t).2=0)(N:Nat)(hN:N<=5001)(j l:D)(s:GivD j S.pn S.p.h.length)(u:GivD l S.pe S.p.j.length)(f o:Nat)(m:Nat)(ih:∀ k,k<m->VE S N j l f o k)(ns es:V2)(d:List Part)(a b:Nat)(G:AHeap)(Q:D->AHeap->Prop)(hm:(S.p.h.length - ns.length)+(S.p.j.length - es.length)=m)(a0:ns.length<=S.p.h.length)(J:es.length<=S.p.j.length)(a4:ns.length<S.p.h.length->es=[])(hF:FdS f a b o S N j l ns es d G)
  (K:∀ a' b' H',FdS f a' b' o S N j l ns es (K6 S N ns es d) H'->Q (.tup []) H') (y:¬ ns.length<S.p.h.length) (w:¬ es.length<S.p.j.length) :
  ACalls prog 372 [.ptr f 1 0 0] G Q:=by
 have a2:=bI A.gp;have a1:=bI A.gg;have a3:∀ x∈S.p.j,(0<=x.w/\x.w<S.p.h.length)/\(0<=x.M/\x.M<S.p.h.length):=λx Z=>((dX A.gp).2 x Z).2;obtain ⟨M,P,O,L,v,⟨E,I,F,C⟩,⟨X,W,V⟩,⟨U,T⟩,R⟩:=hF;have ff:=cW E;have fa:=cW I;have fb:=cW F;have fo:=cW C;have e:=s.1;have i:=u.1;have q:∀ H:AHeap,fW H j=j:=λH=>wO e;have n:∀ H:AHeap,fW H l=l:=λH=>wO i;refine (Tz.cK ⟨λ_=>false,λr=>match r with|0=>[(2,16),(3,16),(4,16)]|_=>[]⟩ func372 rfl ?_);have B:=xa4 (dZ (aD:o≠b)) (dZ (aD:o≠a)) (dZ (aD:o≠f)) (dZ (aD:b≠a)) (dZ (aD:b≠f)) (dZ (aD:a≠f));have Y:=xa4 M P O L ff (xb0 fa fb fo @Part.c.eq_1 @Srch.a2.eq_1 e i q n y w B);refine mA (λh1=>?_) λh1=>?_
 .have z:K6 S N ns es d=d:=If S _ _ aD;refine wv (h:=?_);exact K a b _ (by rw [z];exact ⟨M,P,O,L,v,⟨by first|exact E|(simp;omega),by first|exact I|(simp;omega),by first|exact F|(simp;omega),by first|exact C|(simp;omega)⟩,⟨X,W,V⟩,⟨U,T⟩,R⟩)
 .have hnf:¬ N<=d.length:=aD;have z:K6 S N ns es d=d++[⟨ns,es⟩]:=by
   unfold K6;rw [if_neg aD,(aD:S.p.j.length - es.length=0)];simp only [Ja];rw [if_neg hnf]
  refine wp (h:=?_);refine n3 (gG ns aD) (by simp [go_sem,Y,dLI]) (by simp [go_sem]) (KT _) rfl (by simp [go_sem]) ?_;refine wp (h:=?_);refine n3 (gG es aD) (by simp [go_sem,Y,dLI]) (by simp [go_sem]) (KT _) rfl (by simp [go_sem]) ?_;refine wp (h:=?_);exact K a b _ (by rw [z];exact ⟨by simp [go_sem,Y],by simp [go_sem,Y],by simp [go_sem,Y],by simp [go_sem,Y],by simp;omega,⟨by simp [go_sem];omega,by simp [go_sem];omega,by simp [go_sem];omega,by simp [go_sem];omega⟩,⟨X,W,V⟩,⟨U,T⟩,R⟩)
theorem ND (S:Srch)(v:G17 S.t S.p S.g)(q:(dA S.t).2=0)(N:Nat)(u:N<=5001)(l n:D)(e:GivD l S.pn S.p.h.length)(h:GivD n S.pe S.p.j.length)(f o:Nat) :
  ∀ (m:Nat) (ns es:V2) (c:List Part) (a b:Nat) (G:AHeap) (Q:D->AHeap->Prop),(S.p.h.length - ns.length)+(S.p.j.length - es.length)=m->ns.length<=S.p.h.length->es.length<=S.p.j.length->(ns.length<S.p.h.length->es=[])->FdS f a b o S N l n ns es c G ->
  (∀ a' b' H',FdS f a' b' o S N l n ns es (K6 S N ns es c) H'->Q (.tup []) H')->ACalls prog 372 [.ptr f 1 0 0] G Q:=by
 intro m;induction m using Nat.strongRecOn with
 | _ m ih =>
 intro ns es c a b G Q r i d j w s;by_cases k:ns.length<S.p.h.length
 .exact LN S v q N u l n e h f o m ih ns es c a b G Q r i d j w s k
 .by_cases hc2:es.length<S.p.j.length
  .exact LM S v q N u l n e h f o m ih ns es c a b G Q r i d j w s k hc2
  .exact LL S v q N u l n e h f o m ih ns es c a b G Q r i d j w s k hc2
theorem LK (S:Srch)(v:G17 S.t S.p S.g)(x:S.t.ok)(w:(dA S.t).2=0)(N:Nat)(B:N<=5001)(l m:D)(f:GivD l S.pn S.p.h.length)(j:GivD m S.pe S.p.j.length)(n:l.cell=true)(o:m.cell=true){L:List Part}(C:L=(yR S).take N) :
  Pua 319 [S.t.d,S.p.d,S.g.d,.agg [l,m],.bool S.inj,dI N] (.list (L.map Part.c)):=by
 have q:K6 S N [] [] []=L:=by rw [Ie,Qz v.gp N _ _ _ aE,C];simp [yR]
 have e:=f.1;have i:=j.1;have a:=n;have b:=o;unfold D.cell at a b;refine vY (by first|rfl|(simp [go_sem];done)) (λQ A=>(Tz.cK ⟨λt=>t==22,λ_=>[]⟩ func319 rfl ?_));have Y:=xa3 e i @belowD.eq_1 a b;refine wv (h:=aI (CA S.t x) wl ?_);refine wv (h:=?_);refine yO (.step (.step (.step (.refl _) 8 0 9 3 1 _ _ (by simp [go_sem];rfl) rfl rfl rfl) 8 0 10 3 1 _ _ (by simp [go_sem];rfl) rfl rfl rfl) 8 0 11 36 2 _ _ (by simp [go_sem];rfl) rfl rfl rfl) ?_;simp [go_sem];unfold f7;refine ND S v w N B l m f j 8 12 _ [] [] [] 10 11 _ _ rfl aE aE (λ_=>rfl) ⟨by simp [go_sem,Srch.a2,Graph.c,dLI,dI],by simp [go_sem],by simp [go_sem],by simp [go_sem],by simp,by simp [go_sem],by simp,by simp,by simp⟩ (λH G I k=>?_);rw [q] at k;obtain ⟨s,F,E,r,u,y,z⟩:=k;have Y:=xa2 Y s r @Srch.a2.eq_1;refine wv (h:=?_);exact A _ _ (by simp [go_sem,Y,mL,OJ])
theorem G2 (t:Types)(y:t.ok)(x:(dA t).2=0)(p g:Graph)(z:G17 t p g)(n r:V2)(inj:Bool)(m o:D)(f:GivD m n p.h.length)(j:GivD o r p.j.length)(k:m.cell=true)(l:o.cell=true){w:List Part × Int}(v:w=F6 (yR ⟨t,p,g,n,r,inj⟩)) :
  Pua 239 [t.d,p.d,g.d,.agg [m,o],.bool inj] (.tup [.list (w.1.map Part.c),dI w.2]):=by
 obtain ⟨L,u⟩:=c6 ((yR ⟨t,p,g,n,r,inj⟩).take 5001);have q:w=if 5000<L.length then ([],3) else (L,0):=by rw [v];unfold F6;rw [<- u]
 have e:=f.1;have i:=j.1;have a:=k;have b:=l;unfold D.cell at a b;refine Tz.p0 func239 rfl λQ s _=>?_;have Y:=xa2 e i a b;refine wv (h:=aB (LK ⟨t,p,g,n,r,inj⟩ z y x 5001 aD m o f j k l u) wl ?_);refine eJ (λA=>?_) λA=>?_
 .rw [if_pos aD] at q;exact wv (h:=s _ _ (by simp [go_sem,q]))
 .rw [if_neg aD] at q;exact wv (h:=s _ _ (by simp [go_sem,q]))
theorem AT {t:Types}{p g:Graph}(h:eL t p g=0):(dA t).2=0:=by
 unfold eL at h;split at h
 .exact absurd h (by assumption)
 .rename_i h1;simpa using h1
theorem Qb (t:Types)(f:t.ok)(p g:Graph)(inj:Bool):Pua 151 [t.d,p.d,g.d,.bool inj] (.tup [.list ((mJ t p g inj).1.map Part.c),dI (mJ t p g inj).2]):=by
 refine Tz.p0 func151 rfl λQ i Y=>?_;refine wv (h:=aB (s6 t f p g) wl ?_);refine dR (λa=>?_) λa=>?_
 .have b:mJ t p g inj=([],eL t p g):=by unfold mJ;rw [if_pos (bZ a)]
  exact wv (h:=i _ _ (by simp [go_sem,b]))
 .have hG:=nX (bZ a);have j:=AT (bZ a);obtain ⟨w,e⟩:=c6 (F6 (yR ⟨t,p,g,List.replicate p.h.length (-1),List.replicate p.j.length (-1),inj⟩));have b:mJ t p g inj=w:=by unfold mJ;rw [if_neg (bZ a),e]
  refine wv (h:=aB (G2 t f j p g hG _ _ inj .nil .nil (GivD.nil _) (GivD.nil _) rfl rfl e) wl ?_);exact wv (h:=i _ _ (by simp [go_sem,b]))
theorem Je (t:Types)(k:t.ok)(p g:Graph)(q:Part)(inj:Bool):Pua 417 [t.d,p.d,g.d,q.d,.bool inj] (.tup [.list ((oS t p g q inj).1.map Part.c),dI (oS t p g q inj).2]):=by
 refine Tz.p0 func417 rfl λQ f Y=>?_;refine wv (h:=aB (s6 t k p g) wl ?_);refine dR (λb=>?_) λb=>?_
 .have a:oS t p g q inj=([],eL t p g):=by unfold oS;rw [if_pos (bZ b)]
  exact wv (h:=f _ _ (by simp [go_sem,a]))
 .have hG:=nX (bZ b);have l:=AT (bZ b);refine eJ (λm=>?_) λm=>?_
  .have a:oS t p g q inj=([],20):=by unfold oS;rw [if_neg (bZ b),if_pos aD]
   exact wv (h:=f _ _ (by simp [go_sem,a]))
  .have hq:q.h.length=p.h.length/\q.j.length=p.j.length:=aD;refine wo (h:=aB (EM q.h g.h.length) wl ?_);refine eJ (λi=>?_) λi=>?_
   .have a:oS t p g q inj=([],oL q.h g.h.length):=by unfold oS;rw [if_neg (bZ b),if_neg aD,if_pos (bZ i)]
    exact wv (h:=f _ _ (by simp [go_sem,a]))
   .have h7':oL q.h g.h.length=0:=by simpa using i
    refine wo (h:=aB (EM q.j g.j.length) wl ?_);refine eJ (λe=>?_) λe=>?_
    .have a:oS t p g q inj=([],oL q.j g.j.length):=by unfold oS;rw [if_neg (bZ b),if_neg aD,if_neg aD,if_pos (bZ e)]
     exact wv (h:=f _ _ (by simp [go_sem,a]))
    .have h10':oL q.j g.j.length=0:=by simpa using e
     obtain ⟨w,j⟩:=c6 (F6 (yR ⟨t,p,g,q.h,q.j,inj⟩));have a:oS t p g q inj=w:=by unfold oS;rw [if_neg (bZ b),if_neg aD,if_neg aD,if_neg aD,j]
     refine wv (h:=aB (G2 t k l p g hG q.h q.j inj (dLI q.h) (dLI q.j) (hq.1 ▸ GivD.list q.h) (hq.2 ▸ GivD.list q.j) rfl rfl j) wl ?_);exact wv (h:=f _ _ (by simp [go_sem,a]))
theorem U9 (l:List Edge):∀ d∈(l.map Edge.c).flatten,d.bd=true:=by
 intro d a;rw [jX] at a;obtain ⟨c,b,a⟩:=a;rw [aX] at b;obtain ⟨x,_,rfl⟩:=b;simp only [Edge.c,aV,gH,or_false] at a;rcases a with rfl|rfl|rfl<;>rfl
theorem FK (t:Types)(B:t.ok)(p g:Graph)(m:Part):Pua 154 [t.d,p.d,g.d,m.d] (.tup [(A9 t p g m).d,dI (checkE t p g m false)]):=by
 refine Tz.pK ⟨λt=>t==8||t==12,λr=>match r with|11=>[(0,7),(1,7)]|_=>[]⟩ func154 rfl (λQ y=>?_);have Y:=trivial;refine wv (h:=aB (s6 t B p g) wl ?_);refine dR (λf=>?_) λf=>?_
 .have b:checkE t p g m false=eL t p g:=by unfold checkE;rw [if_pos (bZ f)]
  have n:A9 t p g m=⟨[],[]⟩:=by unfold A9;rw [if_neg (by rw [b];simpa using f)]
  exact wv (h:=y _ _ (by simp [go_sem,n,b]))
 .have hG:=nX (bZ f);have D:=AT (bZ f);have G:=bI hG.gp;have F:=bI hG.gg;have b:checkE t p g m false=matchE t p g m false:=by unfold checkE;rw [if_neg (bZ f)]
  refine wv (h:=aB (Cz t B p g hG D m) wl ?_);refine dR (λA=>?_) λA=>?_
  .have n:A9 t p g m=⟨[],[]⟩:=by unfold A9;rw [if_neg (by rw [b];simpa using A)]
   exact wv (h:=y _ _ (by simp [go_sem,n,b]))
  .have hM:matchE t p g m false=0:=by simpa using A
   obtain ⟨⟨J,I⟩,w,E⟩:=AQ hM;have n:A9 t p g m=kU p g m:=by unfold A9;rw [if_pos (by rw [b];exact hM)]
   refine wv (h:=?_);refine ID (yM p.j aD) (by simp [go_sem]) (by simp [go_sem]) (U9 _) ?_;refine wp (h:=rE (Ghosts.step (Ghosts.refl _) 1 0 0 3 1 _ _ (rfl) rfl rfl rfl) (λi e H=>∃ a:V2,(e 4=.adr t.c/\e 5=.adr p.c/\e 6=.adr g.c/\e 7=.adr m.c/\e 8=.ptr 0 1 0 0/\e 12=.ptr 1 1 0 0/\e 37=dLI m.h/\e 38=dI m.h.length/\e 39=dI i)/\(H.get 0=some ⟨29,2,[[.nil,.nil]],false⟩)/\(0<H.next)/\(H.get 1=some ⟨29,2,[[.own 2 a.length,.list (p.j.map Edge.c)]],false⟩)/\(1<H.next)/\(H.get 2=some ⟨3,1,a.map cI,false⟩)/\(2<H.next)/\(i<=m.h.length)/\(a=(m.h.take i).map (gN g))) (λi=>m.h.length - i) 0 ⟨([]),wg,wn,wn,wn,wn,wn,wn,wi,(by rfl)⟩ λN z i e H x=>?_);obtain ⟨a,L,u,l,s,k,q,j,M,v⟩:=x;have Y:=xa6 Y L u (cW l) s (cW k) q (cW j);refine dR (λo=>?_) λo=>?_
   .have hmi:=w _ (aC o);have K:m.h[i].toNat<g.h.length:=aD;have C:a.length=i:=by rw [v];simp;omega
    have Y:=xa3 Y o (aA o) (aA K) @gN.eq_1;exact wp (h:=wx z (i+1) ⟨(a++[gN g m.h[i]]),wg,wn,wn,wn,wn,wn,wn,wj,(by rw [j5 _ o,<- v])⟩)
   .have hX:a=m.h.map (gN g):=by rw [v,lH _ aD]
    exact wv (h:=y _ _ (by simp [go_sem,Y,n,b,hM,kU,Graph.d,Graph.c,hX,dLI]))
end Go.Abs
end
