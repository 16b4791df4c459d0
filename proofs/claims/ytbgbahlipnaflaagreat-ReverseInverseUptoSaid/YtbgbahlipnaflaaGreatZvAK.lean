/- Layer 24: rules. · Layer 24: rules, continued. · Layer 24, t -/
import Derived.Test.YtbgbahlipnaflaaGreatZvAG
import Derived.Test.YtbgbahlipnaflaaGreatZvAJ
import Derived.Test.YtbgbahlipnaflaaGreatZvAA
import Derived.Test.YtbgbahlipnaflaaGreatZvAI
set_option linter.unusedVariables false
set_option linter.unusedSimpArgs false
section
set_option maxRecDepth 100000
set_option maxHeartbeats 4000000
open Go Go.Proofs Tryz
namespace Go.Abs
attribute [go_sem] Rule.c Rule.d
@[go_sem] theorem aiI (o:Option Attr)(e d b a:D):((Option.map Attr.c o).getD [e,d,b,a]).length=4:=by cases o<;>rfl
@[go_sem] theorem aiG (o:Option NodeTy)(e d b a:D):((Option.map NodeTy.c o).getD [e,d,b,a]).length=4:=by cases o<;>rfl
@[go_sem] theorem ad8 (o:Option EdgeTy)(h g f e d b a:D):((Option.map EdgeTy.c o).getD [h,g,f,e,d,b,a]).length=7:=by cases o<;>rfl
@[go_sem] theorem agD (o:Option Edge)(d b a:D):((Option.map Edge.c o).getD [d,b,a]).length=3:=by cases o<;>rfl
@[go_sem] theorem aiE (o:Option Slot)(e d b a:D):((Option.map Slot.c o).getD [e,d,b,a]).length=4:=by cases o<;>rfl
@[go_sem] theorem aiD (o:Option Test)(f e d b a:D):((Option.map Test.c o).getD [f,e,d,b,a]).length=5:=by cases o<;>rfl
@[go_sem] theorem agC (o:Option Stage)(b a:D):((Option.map Stage.c o).getD [b,a]).length=2:=by cases o<;>rfl
@[go_sem] theorem ajM (o:Option Int)(a:D):((Option.map cI o).getD [a]).length=1:=by cases o<;>rfl
@[go_sem] theorem ajK (o:Option ByteArray)(a:D):((Option.map cS o).getD [a]).length=1:=by cases o<;>rfl
@[go_sem] theorem aiH (o:Option Bool)(a:D):((Option.map cB o).getD [a]).length=1:=by cases o<;>rfl
theorem PP (t:Types)(a:Int):Pua 355 [dI a,.adr t.c] (.bool (decide ((t.h.length:Int)<=a))):=by
 refine Tz.p0 func355 rfl λQ b Y=>?_;exact wo (h:=b _ _ wy)
theorem PO (t:Types)(x:Edge):Pua 356 [.agg x.c,.adr t.c] (.bool (decide ((t.i.length:Int)<=x.type))):=by
 refine Tz.p0 func356 rfl λQ a Y=>?_;exact wo (h:=a _ _ wy)
theorem SI (t:Types)(g:Graph):Pua 294 [t.d,g.d] (.bool (fZ t g)):=by
 have j:=iD g.h 355 [.adr t.c] (λa=>decide ((t.h.length:Int)<=a)) eq eq (λa _=>PP t a);have i:=nD g.i 356 [.adr t.c] (λx=>decide ((t.i.length:Int)<=x.type)) eq eq (λx _=>PO t x);have e:fZ t g=((!(g.h.any λn=>decide ((t.h.length:Int)<=n)))&&!(g.i.any λx=>decide ((t.i.length:Int)<=x.type))):=rfl;rw [e];refine Tz.p0 func294 rfl λQ f Y=>?_;refine wo (h:=aB (j) wl ?_);refine wo (h:=aK (λb=>i) (λb=>wl) ?_);exact wo (h:=f _ _ wy)
def sameSlot (x y:Slot):Bool:=decide (y.node=x.node)&&decide (y.J=x.J)
theorem SJ (x y:Slot):Pua 358 [.agg y.c,.adr x.c] (.bool (sameSlot x y)):=by
 refine Tz.p0 func358 rfl λQ a Y=>?_;have Y:=wa Y @sameSlot.eq_1;exact wo (h:=a _ _ wy)
def uR (t:Types)(p:Pattern)(i:Nat):Int:=match p.l[i]? with
 | some s=>if g5 t p s≠0 then 6 else if ((p.l.take i).any (sameSlot s))=true then 5 else 0
 | none=>0
theorem Bt {t:Types}{p:Pattern}{i:Nat}(h:i<p.l.length):uR t p i=if g5 t p p.l[i]≠0 then 6 else if ((p.l.take i).any (sameSlot p.l[i]))=true then 5 else 0:=by
 unfold uR;rw [aA h]
theorem Vw (t:Types)(l:t.ok)(r:Rule)(s:r.right.j.h.length<=1000)(i:Nat)(k:i<r.right.l.length):Pua 295 [t.d,r.d,dI i] (dI (uR t r.right i)):=by
 have a:=Bt (t:=t) k;have e:=sB l (r.right.D r.right.l[i].node);have b:=wR (r.right.l.take i) 358 [.adr r.right.l[i].c] (sameSlot r.right.l[i]) eq (by simp only [D.Q];exact Im _) (λy _=>SJ r.right.l[i] y);refine Tz.pK ⟨λt=>t==7||t==10,λ_=>[]⟩ func295 rfl (λQ g=>?_);have Y:=wa (aA k) k;refine eP (λq=>?_) λq=>?_
 .have hE:g5 t r.right r.right.l[i]≠0:=by
   unfold g5;rw [if_neg];decide;intro h;simp [mT] at h;omega
  rw [if_pos hE] at a;exact wv (h:=g _ _ (iq a))
 .have hn:r.right.l[i].node.toNat<r.right.j.h.length:=aD;have f:r.right.D r.right.l[i].node=r.right.j.h[r.right.l[i].node.toNat]:=by simp [Pattern.D,hn]
  rw [f] at e;have Y:=xa1 Y (aA hn) f;refine wo (h:=aH (n3 t l r.right.j.h[r.right.l[i].node.toNat]) wl ?_);refine eP (λp=>?_) λp=>?_
  .have hE:g5 t r.right r.right.l[i]≠0:=by
    unfold g5;rw [if_neg];decide;intro h;simp [mT,inF,f] at h;omega
   rw [if_pos hE] at a;exact wv (h:=g _ _ (iq a))
  .have hE:g5 t r.right r.right.l[i]=0:=by
    unfold g5;rw [if_pos];simp [mT,inF,f];omega
   rw [if_neg aD] at a;have o:(i:Int)<=r.right.l.length:=aD;refine wo (h:=s4 (b) wr wl rfl ?_);refine eP (λe=>?_) λe=>?_
   .exact wv (h:=g _ _ (by rw [a,if_pos (by rw [bF];exact e)];simp [go_sem]))
   .exact wv (h:=g _ _ (by rw [a,if_neg (by rw [bF];rintro ⟨x,n,m⟩;have:=e x n;rw [this] at m;cases m)];simp [go_sem]))
def iV (t:Types)(r:Rule):Int :=
 if graphF r.right.j≠0 then graphF r.right.j
 else if fZ t r.right.j=false then 13
 else if r.right.vars≠r.left.vars\/0<r.right.G.length then 1
 else if 10<r.right.l.length then 3
 else bW (uR t r.right) 0 r.right.l.length
theorem SK (t:Types)(o:t.ok)(r:Rule):Pua 226 [t.d,r.d] (dI (iV t r)):=by
 refine Tz.p0 func226 rfl λQ b Y=>?_;refine wv (h:=aB (oA r.right.j) wl ?_);refine dR (λg=>?_) λg=>?_
 .exact wv (h:=b _ _ (.inl (by simp [go_sem,iV,g])))
 .have hg:=bK g;refine wo (h:=aB (SI t r.right.j) wl ?_);refine eP (λf=>?_) λf=>?_
  .exact wv (h:=b _ _ (.inl (by simp [go_sem,iV,g,f])))
  .refine eP (λl=>?_) λl=>?_
   .have hR:iV t r=1:=by unfold iV;rw [if_neg aD,if_neg (iw f),if_pos aD]
    exact wv (h:=b _ _ (.inl (iq hR)))
   .have h6':¬ (r.right.vars≠r.left.vars\/0<r.right.G.length):=by
     rintro (h|h)
     .exact h l.1
     .have:=l.2;simp [this] at h
    refine eP (λp=>?_) λp=>?_
    .have hR:iV t r=3:=by unfold iV;rw [if_neg aD,if_neg (iw f),if_neg h6',if_pos aD]
     exact wv (h:=b _ _ (.inl (iq hR)))
    .have hR:iV t r=bW (uR t r.right) 0 r.right.l.length:=by unfold iV;rw [if_neg aD,if_neg (iw f),if_neg h6',if_neg aD]
     refine wo (h:=bA (λi e H=>(e 2=.adr t.c/\e 3=.adr r.c/\e 46=dI r.right.l.length/\e 47=dI i)/\(i<=r.right.l.length)/\(bW (uR t r.right) i (r.right.l.length - i)=iV t r)) (λi=>r.right.l.length - i) 0 ⟨wg,wi,(by exact hR.symm)⟩ λu k i e H j=>?_);obtain ⟨q,s,n⟩:=j;have Y:=wa Y q;refine dR (λa=>?_) λa=>?_
     .have hst:=n;rw [fR _ a] at hst;have Y:=wa Y a;refine wv (h:=aB (Vw t o r aD i a) wl ?_);refine dR (λm=>?_) λm=>?_
      .rw [if_pos aD] at hst;exact wv (h:=b _ _ (.inl (iq hst)))
      .rw [if_neg aD] at hst;exact wo (h:=wx k (i+1) ⟨wg,wj,(by exact hst)⟩)
     .exact wv (h:=b _ _ (.inl (by rw [<- n,(aD:r.right.l.length - i=0)];rfl)))
def bH (l:V2)(n:Nat):V2:=((List.range n).filter λ(i:Nat)=>!mem l i).map λ(b:Nat)=>(b:Int)
theorem mX {l:V2}{n:Nat}{x:Int}(h:x∈bH l n):0<=x/\x<n:=by
 simp only [bH,aT,d8,aV] at h;grind
theorem mY (l:V2)(n:Nat):(bH l n).length<=n:=by
 unfold bH;rw [aR];exact dZ (jM _ _) aE
theorem vV (l:V2)(n:Nat)(q:n<=1000000):Pua 141 [dLI l,dI n] (dLI (bH l n)):=by
 refine Tz.pK ⟨λt=>t==5,λ_=>[]⟩ func141 rfl (λQ o=>?_);have Y:=trivial;refine wv (h:=bA (λi e H=>∃ a:V2,(e 0=dLI l/\e 7=dI n/\e 5=.own 0 a.length/\e 8=dI i)/\(H.get 0=some ⟨3,1,a.map cI,false⟩)/\(0<H.next)/\(i<=n)/\(a.length<=i)/\(a=((List.range i).filter λ(b:Nat)=>!mem l b).map (λ(b:Nat)=>(b:Int)))) (λi=>n - i) 0 ⟨([]),wg,wn,wn,wi,aE,(by rfl)⟩ λu d i e H j=>?_);obtain ⟨a,p,f,c,s,r,g⟩:=j;have Y:=xa2 Y p f (bS c);refine dR (λm=>?_) λm=>?_
 .have Y:=wa Y m;refine wo (h:=aB (gF l i) wl ?_);refine eP (λk=>?_) λk=>?_
  .have Y:=wa Y k;exact wo (h:=wx d (i+1) ⟨(a++(if (!mem l i)=true then [(i:Int)] else [])),wg,wn,wn,wj,ik,(by rw [c6,<- g])⟩)
  .have Y:=wa Y k;exact wo (h:=wx d (i+1) ⟨(a++(if (!mem l i)=true then [(i:Int)] else [])),wg,wn,wn,wj,ik,(by rw [c6,<- g])⟩)
 .exact wv (h:=o _ _ (by simp [go_sem,Y,bH];rw [g,(aD:i=n)];simp))
def keptF (r:Rule):Int :=
 if subF r.left.j r.q≠0 then subF r.left.j r.q
 else if eR (cJ r.left.j r.q) r.right.j r.s≠0 then eR (cJ r.left.j r.q) r.right.j r.s
 else if BW (cJ r.left.j r.q) r.right.j r.s=false then 11 else 0
structure Rule.ok (r:Rule):Prop where
 name:r.name.size<=100000
 k1:r.q.h.length<=1000000
 k2:r.q.i.length<=1000000
 i1:r.s.h.length<=1000000
 i2:r.s.i.length<=1000000
 cond:r.cond.ok
 size:r.cond.size<=1000000
theorem Vy (r:Rule)(k:r.ok):Pua 227 [r.d] (dI (keptF r)):=by
 obtain ⟨_,f,e,i,g,_,_⟩:=k;refine Tz.pK ⟨λt=>t==3||t==4,λ_=>[]⟩ func227 rfl (λQ b=>?_);have Y:=trivial;refine wv (h:=aB (EZ r.left.j r.q f e) wl ?_);refine dR (λa=>?_) λa=>?_
 .have Y:=xa1 Y a @keptF.eq_1;exact wv (h:=b _ _ wy)
 .refine wv (h:=aB (qW (cJ r.left.j r.q) r.right.j r.s) wl ?_);refine dR (λc=>?_) λc=>?_
  .have Y:=xa2 Y a c @keptF.eq_1;exact wv (h:=b _ _ wy)
  .refine wo (h:=aB (uY (cJ r.left.j r.q) r.right.j r.s i g) wl ?_);refine eP (λj=>?_) λj=>?_
   .have Y:=xa3 Y a c j @keptF.eq_1;exact wv (h:=b _ _ wy)
   .have Y:=xa3 Y a c j @keptF.eq_1;exact wv (h:=b _ _ wy)
def absB (t:Types)(g:Graph)(i:Int):Bool:=((t.h[(gN g i).toNat]?).map (·.eb)).getD false
def unfitB (t:Types)(g:Graph)(k:Int):Bool:=!p6 t (g.i[k.toNat]?.getD cH).type (gN g (g.i[k.toNat]?.getD cH).w) (gN g (g.i[k.toNat]?.getD cH).M)
def pX (t:Types)(g:Graph)(nodes edges:V2):Bool:=(!(nodes.any (absB t g)))&&!(edges.any (unfitB t g))
theorem kF {t:Types}{g:Graph}(b:graphF g=0)(h:fZ t g=true):(∀ a∈g.h,0<=a/\a<t.h.length)/\∀ x∈g.i,(0<=x.type/\x.type<t.i.length)/\(0<=x.w/\x.w<g.h.length)/\(0<=x.M/\x.M<g.h.length):=by
 obtain ⟨d,c⟩:=dY b;simp [fZ] at h;simp_all
theorem Lf (t:Types)(g:Graph)(l:graphF g=0)(j:fZ t g=true)(i:Int)(f:0<=i)(e:i<g.h.length):Pua 143 [dI i,.adr t.c,.adr g.c] (.bool (absB t g i)):=by
 have a:i.toNat<g.h.length:=aD;have d:=(kF l j).1 _ (aC a);have b:g.h[i.toNat].toNat<t.h.length:=aD;refine Tz.p0 func143 rfl λQ k _=>?_;have Y:=wa (aA a) (aA b);have Y:=xa1 Y @absB.eq_1 @gN.eq_1;exact wo (h:=k _ _ wy)
theorem Le (t:Types)(d:t.ok)(g:Graph)(n:graphF g=0)(l:fZ t g=true)(k:Int)(i:0<=k)(f:k<g.i.length):Pua 144 [dI k,.adr g.c,.adr t.c] (.bool (unfitB t g k)):=by
 have b:k.toNat<g.i.length:=aD;have e:=(kF n l).2 _ (aC b);have j:g.i[k.toNat].w.toNat<g.h.length:=aD;have a:g.i[k.toNat].M.toNat<g.h.length:=aD;refine Tz.pK ⟨λt=>t==5,λ_=>[]⟩ func144 rfl (λQ m=>?_);have Y:=xa1 (aA b) (aA j) (aA a);refine wo (h:=aH (H5 t d _ _ _) wl ?_);have Y:=xa1 Y @unfitB.eq_1 @gN.eq_1;exact wo (h:=m _ _ wy)
theorem Dv (t:Types)(o:t.ok)(g:Graph)(n:graphF g=0)(m:fZ t g=true)(a b:V2)(e:∀ i∈a,0<=i/\i<g.h.length)(l:∀ k∈b,0<=k/\k<g.i.length):Pua 80 [t.d,g.d,dLI a,dLI b] (.bool (pX t g a b)):=by
 have w:=iD a 143 [.adr t.c,.adr g.c] (absB t g) eq eq (λi j=>Lf t g n m i (e i j).1 (e i j).2);have s:=iD b 144 [.adr g.c,.adr t.c] (unfitB t g) eq eq (λk f=>Le t o g n m k (l k f).1 (l k f).2);have r:pX t g a b=((!(a.any (absB t g)))&&!(b.any (unfitB t g))):=rfl;generalize a.any (absB t g)=u at *;generalize b.any (unfitB t g)=v at *;rw [r];refine Tz.p0 func80 rfl λQ q Y=>?_;refine wo (h:=aB (w) wl ?_);refine wo (h:=aK (λp=>s) (λp=>wl) ?_);exact wo (h:=q _ _ wy)
def Rule.N (r:Rule):V2:=bH r.s.h r.right.j.h.length
def Rule.ad (r:Rule):V2:=bH r.s.i r.right.j.i.length
def Rule.bj (r:Rule):V2:=bH r.q.h r.left.j.h.length
def Rule.bl (r:Rule):V2:=bH r.q.i r.left.j.i.length
theorem NZ (r:Rule)(c:r.right.j.h.length<=1000000)(b:r.right.j.i.length<=1000000):Pua 228 [r.d] (.tup [dLI r.N,dLI r.ad]):=by
 refine Tz.p0 func228 rfl λQ a Y=>?_;refine wo (h:=aH (vV r.s.h _ c) wl ?_);refine wo (h:=aH (vV r.s.i _ b) wl ?_);have Y:=xa1 Y @Rule.N.eq_1 @Rule.ad.eq_1;exact wo (h:=a _ _ wy)
theorem NY (r:Rule)(c:r.left.j.h.length<=1000000)(b:r.left.j.i.length<=1000000):Pua 79 [r.d] (.tup [dLI r.bj,dLI r.bl]):=by
 refine Tz.p0 func79 rfl λQ a Y=>?_;refine wo (h:=aH (vV r.q.h _ c) wl ?_);refine wo (h:=aH (vV r.q.i _ b) wl ?_);have Y:=xa1 Y @Rule.bj.eq_1 @Rule.bl.eq_1;exact wo (h:=a _ _ wy)
def ruleF (t:Types)(r:Rule):Int :=
 if (dG t).2≠0 then (dG t).2
 else if lJ r.name=false then 2
 else if c9 t r.left≠0 then c9 t r.left
 else if iV t r≠0 then iV t r
 else if keptF r≠0 then keptF r
 else if pX t r.right.j r.N r.ad=false then 13
 else condF t r.left r.cond
theorem Bv {t:Types}{r:Rule}(h:iV t r=0):graphF r.right.j=0/\fZ t r.right.j=true:=by
 unfold iV at h;grind
theorem IA (t:Types)(k:t.ok)(r:Rule)(m:r.ok):Pua 139 [t.d,r.d] (dI (ruleF t r)):=by
 have l:=Ad t k r.left r.cond m.cond m.size;rw [Cond.A] at l;refine Tz.p0 func139 rfl λQ e Y=>?_;refine wv (h:=aB (nZ t k) wl ?_);refine dR (λc=>?_) λc=>?_
 .have Y:=xa1 Y c @ruleF.eq_1;exact wv (h:=e _ _ wy)
 .refine wo (h:=aB (qI r.name m.name) wl ?_);refine eP (λf=>?_) λf=>?_
  .have Y:=xa2 Y c f @ruleF.eq_1;exact wv (h:=e _ _ wy)
  .refine wv (h:=aB (pN t k r.left) wl ?_);refine dR (λj=>?_) λj=>?_
   .have Y:=xa3 Y c f j @ruleF.eq_1;exact wv (h:=e _ _ wy)
   .refine wv (h:=aB (SK t k r) wl ?_);refine dR (λa=>?_) λa=>?_
    .have Y:=xa4 Y c f j a @ruleF.eq_1;exact wv (h:=e _ _ wy)
    .have hg:=Bv a;have o:=bK hg.1;refine wv (h:=aB (Vy r m) wl ?_);refine dR (λb=>?_) λb=>?_
     .have Y:=xa5 Y c f j a b @ruleF.eq_1;exact wv (h:=e _ _ wy)
     .refine wv (h:=aB (NZ r aD aD) wl ?_);refine wo (h:=aB (Dv t k r.right.j hg.1 hg.2 r.N r.ad (λi n=>mX n) (λi n=>mX n)) wl ?_);refine eP (λg=>?_) λg=>?_
      .have Y:=xa6 Y c f j a b g @ruleF.eq_1;exact wv (h:=e _ _ wy)
      .refine wv (h:=aB (l) wl ?_);have Y:=xa6 Y c f j a b g @ruleF.eq_1;exact wv (h:=e _ _ wy)
theorem Eb {l:V2}{v:Int}(e:l.Pairwise (· < ·))(f:mem l v=true):idx l v=pI l v:=by
 obtain ⟨i,d,g⟩:=aO ((mem_iff l v).1 f);have a:=dF.1 e;rw [yB (i:=i) (λj c h=>by
   have b:j<l.length:=aD;rw [aA b] at h;have:=a j i b d c;simp at h;omega) (by rw [aA d,g])]
 rw [Un (n:=i) (λj c h=>by have:=a j i c d h;omega) aD (λ_=>by omega)]
theorem rX {α:Type}{f:α->Int}:∀ {l:List α},iB f l=0->∀ x∈l,f x=0
 | [],_,x,hx=>by cases hx
 | a :: l,h,x,hx=>by
  unfold iB at h;split at h
  .rename_i h1;exact absurd h h1
  .rename_i h1;rcases aW.1 hx with h2|h2
   .subst h2;omega
   .exact rX h x h2
theorem E7 {g:Graph}{p:Part}(h:subF g p=0):∀ k∈p.i,mem p.h (g.i[k.toNat]?.getD cH).w=true/\mem p.h (g.i[k.toNat]?.getD cH).M=true:=by
 unfold subF sR at h;split at h
 .rename_i h1;exact absurd h h1
 .split at h
  .rename_i h2;exact absurd h h2
  .split at h
   .rename_i h3;exact absurd h h3
   .intro k hk;have:=rX h k hk;unfold Bf at this;grind
theorem wZ (g:Graph)(p:Part)(hl:p.h.length<=1000000)(a2:p.i.length<=1000000):Pua 114 [g.d,p.d] (.tup [(cJ g p).d,(Gr g p).d,dI (subF g p)]):=by
 refine Tz.pK ⟨λt=>t==4||t==5||t==8||t==11||t==76||t==80,λr=>match r with|8=>[(0,11),(1,11)]|12=>[(0,9),(1,9),(2,9),(3,9),(5,9),(6,9),(7,9),(8,9)]|13=>[(0,15),(1,15)]|14=>[(0,1),(1,2),(1,3),(0,4),(0,5),(1,5),(2,5),(3,5),(4,5),(1,6),(4,6),(5,6),(1,7),(4,7),(5,7),(0,8)]|_=>[]⟩ func114 rfl (λQ hQ=>?_);have Y:=trivial;refine wv (h:=aB (AP g p) wl ?_);refine dR (λC=>?_) λC=>?_
 .exact wv (h:=hQ _ _ (by simp [go_sem,cJ,Gr,C]))
 .obtain ⟨hg,hs,P,R⟩:=nQ C;have n:=E7 C;refine wv (h:=l9 (Ghosts.step (Ghosts.refl _) 2 0 0 3 1 _ _ (rfl) rfl rfl rfl) (λi e H=>∃ b:V2,(e 2=.adr g.c/\e 3=.adr p.c/\e 4=.ptr 0 1 0 0/\e 5=.ptr 1 1 0 0/\e 8=.ptr 2 1 0 0/\e 9=dI i)/\(H.get 0=some ⟨29,2,[[.nil,.nil]],false⟩)/\(0<H.next)/\(H.get 1=some ⟨36,2,[[.nil,.nil]],false⟩)/\(1<H.next)/\(H.get 2=some ⟨29,2,[[.own 3 b.length,.nil]],false⟩)/\(2<H.next)/\(H.get 3=some ⟨3,1,b.map cI,false⟩)/\(3<H.next)/\(i<=p.h.length)/\(b=(p.h.take i).map (gN g))) (λi=>p.h.length - i) 0 ⟨([]),wg,wn,wn,wn,wn,wn,wn,wn,wn,wi,(by rfl)⟩ λI0 V i e H T=>?_);obtain ⟨b,E0,L,A,J,y,f,w,F,u,hi,O⟩:=T;have Y:=xa8 Y E0 L (bS A) J (bS y) f (bS w) F (bS u);refine iY (λM=>?_) λM=>?_
  .have hin':=P _ (aC M);have hk:p.h[i].toNat<g.h.length:=aD;have a1:b.length=i:=by rw [O];simp;omega
   have Y:=xa2 Y M (aA hk) @gN.eq_1;exact wp (h:=wx V (i+1) ⟨(b++[gN g p.h[i]]),wg,wn,wn,wn,wn,wn,wn,wn,wn,wj,(by rw [j8 _ M,<- O])⟩)
  .have hX:b=p.h.map (gN g):=by rw [O,lS _ aD]
   refine wv (h:=l9 (Ghosts.step (Ghosts.refl _) 2 0 1 145 3 _ _ (f) rfl rfl rfl) (λk e H=>∃ j:Nat,∃ l:List Edge,(e 2=.adr g.c/\e 3=.adr p.c/\e 4=.ptr 0 1 0 0/\e 5=.ptr 1 1 0 0/\e 8=.ptr 2 1 0 0/\e 10=dI k)/\(H.get 0=some ⟨29,2,[[.nil,.nil]],false⟩)/\(0<H.next)/\(H.get 1=some ⟨36,2,[[.nil,.nil]],false⟩)/\(1<H.next)/\(H.get 2=some ⟨29,2,[[.own 3 b.length,.own j l.length]],false⟩)/\(2<H.next)/\(H.get 3=some ⟨3,1,b.map cI,false⟩)/\(3<H.next)/\(H.get j=some ⟨145,3,l.map Edge.c,false⟩)/\(j<H.next)/\(k<=p.i.length)/\(l=(p.i.take k).map (gEd g p))/\(j≠0)/\(j≠1)/\(j≠2)/\(j≠3)) (λk=>p.i.length - k) 0 ⟨H.next,([]),wg,wn,wn,wn,wn,wn,wn,wn,wn,wn,wn,wi,(by rfl),aD,aD,aD,aD⟩ λI2 U k e H m=>?_);obtain ⟨j,l,E2,K,z,I,x,G,v,E,s,D,q,hk,N,j0,Z,X,W⟩:=m;have Y:=xa7 Y E2 K (bS z) I (bS x) G (bS v) (xb0 E (bS s) D (bS q) j0 Z X W j0.symm Z.symm X.symm W.symm);refine iY (λa=>?_) λa=>?_
   .have hie':=R _ (aC a);have B:p.i[k].toNat<g.i.length:=aD;have a0:l.length=k:=by rw [N];simp;omega
    have o:=n _ (aC a);rw [aA B,Option.getD_some] at o;have S:=Eb hs o.1;have m:=Eb hs o.2;have Y:=xa4 Y a (aA B) @gEd.eq_1 S m;refine wp (h:=aH (Gl p.h _) wl ?_);refine wp (h:=aH (Gl p.h _) wl ?_);exact wp (h:=wx U (k+1) ⟨j,(l++[gEd g p p.i[k]]),wg,wn,wn,wn,wn,wn,wn,wn,wn,wn,wn,wj,(by rw [j8 _ a,<- N]),wj,wj,wj,wj⟩)
   .have hY:l=p.i.map (gEd g p):=by rw [N,lS _ aD]
    exact wp (h:=hQ _ _ (by simp [go_sem,Y,cJ,Gr,C,hX,hY]))
theorem SU (t:Types)(u:t.ok)(p:Pattern)(A:p.j.h.length<=1000)(v:p.l.length<=1000)(i:Nat)(o:i<p.l.length):Pua 205 [t.d,p.d,dI i] (dI (uR t p i)):=by
 have a:=Bt (t:=t) o;have g:=sB u (p.D p.l[i].node);refine Tz.pK ⟨λt=>t==7,λ_=>[]⟩ func205 rfl (λQ m=>?_);have Y:=wa (aA o) o;refine eP (λy=>?_) λy=>?_
 .have hE:g5 t p p.l[i]≠0:=by
   unfold g5;rw [if_neg];decide;intro h;simp [mT] at h;omega
  rw [if_pos hE] at a;exact wv (h:=m _ _ (iq a))
 .have hn:p.l[i].node.toNat<p.j.h.length:=aD;have l:p.D p.l[i].node=p.j.h[p.l[i].node.toNat]:=by simp [Pattern.D,hn]
  rw [l] at g;have Y:=xa1 Y (aA hn) l;refine wo (h:=aH (lQ t u p.j.h[p.l[i].node.toNat]) wl ?_);refine eP (λx=>?_) λx=>?_
  .have hE:g5 t p p.l[i]≠0:=by
    unfold g5;rw [if_neg];decide;intro h;simp [mT,inF,l] at h;omega
   rw [if_pos hE] at a;exact wv (h:=m _ _ (iq a))
  .have hE:g5 t p p.l[i]=0:=by
    unfold g5;rw [if_pos];simp [mT,inF,l];omega
   rw [if_neg aD] at a;refine wv (h:=bA (λk e H=>(e 4=.adr p.c/\e 2=dI i/\e 7=.ptr 0 1 0 0/\e 10=dI k)/\(H.get 0=some ⟨102,4,[p.l[i].c],false⟩)/\(0<H.next)/\(k<=i)/\(((p.l.take k).any (sameSlot p.l[i]))=false)) (λk=>i - k) 0 ⟨wg,wn,wn,wi,(by rfl)⟩ λB r k e H n=>?_);obtain ⟨z,j,b,w,f⟩:=n;have Y:=xa2 Y z j (bS b);refine dR (λg=>?_) λg=>?_
   .have hkl:k<p.l.length:=aD;have Y:=xa1 Y g hkl;refine eP (λs=>?_) λs=>?_
    .refine wv (h:=?_);have q:=wV (p:=sameSlot p.l[i]) g hkl (by simp [sameSlot];omega);exact m _ _ (by rw [a,if_pos q];simp [go_sem])
    .exact wo (h:=wx r (k+1) ⟨wg,wn,wn,wj,(by rw [eI _ _ _ hkl,f];simp [sameSlot];omega)⟩)
   .have q:=tZ f (aD:k=i);exact wv (h:=m _ _ (by rw [a,if_neg (iw q)];simp [go_sem]))
theorem P6 (t:Types)(o:t.ok)(r:Rule):Pua 123 [t.d,r.d] (dI (iV t r)):=by
 refine Tz.p0 func123 rfl λQ f Y=>?_;refine wv (h:=aB (lP r.right.j) wl ?_);refine dR (λg=>?_) λg=>?_
 .exact wv (h:=f _ _ (.inl (by simp [go_sem,iV,g])))
 .have hg:=bK g;refine wo (h:=aB (vZ t r.right.j) wl ?_);refine eP (λb=>?_) λb=>?_
  .rw [rP g] at b;exact wv (h:=f _ _ (.inl (by simp [go_sem,iV,g,b])))
  .rw [rP g] at b;refine eP (λl=>?_) λl=>?_
   .have hR:iV t r=1:=by unfold iV;rw [if_neg aD,if_neg (iw b),if_pos aD]
    exact wv (h:=f _ _ (.inl (iq hR)))
   .have h6':¬ (r.right.vars≠r.left.vars\/0<r.right.G.length):=by
     rintro (h|h)
     .exact h l.1
     .have:=l.2;simp [this] at h
    refine eP (λp=>?_) λp=>?_
    .have hR:iV t r=3:=by unfold iV;rw [if_neg aD,if_neg (iw b),if_neg h6',if_pos aD]
     exact wv (h:=f _ _ (.inl (iq hR)))
    .have hR:iV t r=bW (uR t r.right) 0 r.right.l.length:=by unfold iV;rw [if_neg aD,if_neg (iw b),if_neg h6',if_neg aD]
     refine wv (h:=bA (λi e H=>(e 2=.adr t.c/\e 3=.adr r.c/\e 6=dI i)/\(i<=r.right.l.length)/\(bW (uR t r.right) i (r.right.l.length - i)=iV t r)) (λi=>r.right.l.length - i) 0 ⟨wg,wi,(by exact hR.symm)⟩ λu k i e H j=>?_);obtain ⟨q,s,n⟩:=j;have Y:=wa Y q;refine eP (λa=>?_) λa=>?_
     .have hst:=n;rw [fR _ a] at hst;have Y:=wa Y a;refine wv (h:=aB (SU t o r.right aD aD i a) wl ?_);refine dR (λm=>?_) λm=>?_
      .rw [if_pos aD] at hst;exact wv (h:=f _ _ (.inl (iq hst)))
      .rw [if_neg aD] at hst;exact wo (h:=wx k (i+1) ⟨wg,wj,(by exact hst)⟩)
     .exact wv (h:=f _ _ (.inl (by rw [<- n,(aD:r.right.l.length - i=0)];rfl)))
theorem VI (l:V2)(v:Int):Pua 76 [dLI l,dI v] (.bool (mem l v)):=by
 refine Tz.p0 func76 rfl λQ m Y=>?_;refine wv (h:=bA (λi e H=>(e 0=dLI l/\e 1=dI v/\e 5=dI i)/\(i<=l.length)/\(∀ j,j<i->l[j]?≠some v)) (λi=>l.length - i) 0 ⟨wg,wi,(by intro j k;omega)⟩ λq f i e H d=>?_);obtain ⟨o,p,a⟩:=d;have Y:=wa Y o;refine wv (h:=?_);repeat first|intro _|refine ⟨iS,?_⟩
 refine wq (λb=>?_) λb=>?_
 .have Y:=wa Y b;refine eP (λg=>?_) λg=>?_
  .refine wv (h:=?_);have c:mem l v=true:=(mem_iff l v).2 (g ▸ aC b);exact m _ _ (iq c)
  .exact wo (h:=wx f (i+1) ⟨wg,wj,(by exact lX a (by rw [aA b];simpa using g))⟩)
 .refine wv (h:=?_);have c:mem l v=false:=by rw [bJ];intro h;obtain ⟨j,k,n⟩:=aO ((mem_iff l v).1 h);exact a j aD (by rw [aA k,n])
  exact m _ _ (iq c)
theorem rR (l:V2)(n:Nat)(q:n<=1000000):Pua 34 [dI n,dLI l] (dLI (bH l n)):=by
 refine Tz.pK ⟨λt=>t==5,λ_=>[]⟩ func34 rfl (λQ o=>?_);have Y:=trivial;refine wv (h:=bA (λi e H=>∃ a:V2,(e 1=dLI l/\e 0=dI n/\e 5=.own 0 a.length/\e 6=dI i)/\(H.get 0=some ⟨3,1,a.map cI,false⟩)/\(0<H.next)/\(i<=n)/\(a.length<=i)/\(a=((List.range i).filter λ(b:Nat)=>!mem l b).map (λ(b:Nat)=>(b:Int)))) (λi=>n - i) 0 ⟨([]),wg,wn,wn,wi,aE,(by rfl)⟩ λu d i e H j=>?_);obtain ⟨a,p,f,c,s,r,g⟩:=j;have Y:=xa2 Y p f (bS c);refine dR (λm=>?_) λm=>?_
 .have Y:=wa Y m;refine wo (h:=aB (VI l i) wl ?_);refine eP (λk=>?_) λk=>?_
  .have Y:=wa Y k;exact wo (h:=wx d (i+1) ⟨(a++(if (!mem l i)=true then [(i:Int)] else [])),wg,wn,wn,wj,ik,(by rw [c6,<- g])⟩)
  .have Y:=wa Y k;exact wo (h:=wx d (i+1) ⟨(a++(if (!mem l i)=true then [(i:Int)] else [])),wg,wn,wn,wj,ik,(by rw [c6,<- g])⟩)
 .exact wv (h:=o _ _ (by simp [go_sem,Y,bH];rw [g,(aD:i=n)];simp))
theorem DE (t:Types)(D:t.ok)(g:Graph)(J:graphF g=0)(G:fZ t g=true)(nodes edges:V2)(E:∀ i∈nodes,0<=i/\i<g.h.length)(F:∀ k∈edges,0<=k/\k<g.i.length):Pua 31 [t.d,g.d,dLI nodes,dLI edges] (.bool (pX t g nodes edges)):=by
 have o:=kF J G;refine Tz.pK ⟨λt=>t==11,λr=>match r with|9=>[(0,8),(1,8),(4,8),(5,8),(6,8),(7,8)]|_=>[]⟩ func31 rfl (λQ x=>?_);have Y:=trivial;refine wv (h:=bA (λi e H=>(e 4=.adr t.c/\e 5=.adr g.c/\e 2=dLI nodes/\e 3=dLI edges/\e 9=dI i)/\(i<=nodes.length)/\(((nodes.take i).any (absB t g))=false)) (λi=>nodes.length - i) 0 ⟨wg,wi,(by rfl)⟩ λO z i e H v=>?_);obtain ⟨L,M,C⟩:=v;have Y:=wa Y L;refine wv (h:=?_);repeat first|intro _|refine ⟨iS,?_⟩
 refine wq (λj=>?_) λj=>?_
 .have hn':=E _ (aC j);have q:nodes[i].toNat<g.h.length:=aD;have n:=o.1 _ (aC q);have m:g.h[nodes[i].toNat].toNat<t.h.length:=aD;have p:absB t g nodes[i]=t.h[g.h[nodes[i].toNat].toNat].eb:=by simp [absB,gN,aA q,aA m]
  have Y:=xa2 Y j (aA q) (aA m);refine eP (λA=>?_) λA=>?_
  .refine wv (h:=?_);have s:nodes.any (absB t g)=true:=bF.2 ⟨_,aC j,by rw [p,A]⟩;exact x _ _ (.inl (by simp only [go_sem,pX,s,KT,GT]))
  .exact wo (h:=wx z (i+1) ⟨wg,wj,(by rw [eI _ _ _ j,C,p,A];rfl)⟩)
 .have hN:=pO C j;refine wv (h:=bA (λk e H=>(e 4=.adr t.c/\e 5=.adr g.c/\e 2=dLI nodes/\e 3=dLI edges/\e 10=dI k)/\(k<=edges.length)/\(((edges.take k).any (unfitB t g))=false)) (λk=>edges.length - k) 0 ⟨wg,wi,(by rfl)⟩ λN y k e H u=>?_);obtain ⟨K,q,s⟩:=u;have Y:=wa Y K;refine wv (h:=?_);repeat first|intro _|refine ⟨iS,?_⟩
  refine wq (λf=>?_) λf=>?_
  .have he':=F _ (aC f);have a:edges[k].toNat<g.i.length:=aD;have n:=o.2 _ (aC a);have B:g.i[edges[k].toNat].w.toNat<g.h.length:=aD;have l:g.i[edges[k].toNat].M.toNat<g.h.length:=aD;have p:unfitB t g edges[k] = !p6 t g.i[edges[k].toNat].type g.h[g.i[edges[k].toNat].w.toNat] g.h[g.i[edges[k].toNat].M.toNat]:=by simp [unfitB,gN,aA a,aA B,aA l]
   have Y:=xa3 Y f (aA a) (aA B) (aA l);refine wo (h:=aH (y8 t D _ _ _) wl ?_);refine eP (λb=>?_) λb=>?_
   .refine wv (h:=?_);have w:edges.any (unfitB t g)=true:=bF.2 ⟨_,aC f,by rw [p,b];rfl⟩;exact x _ _ (.inl (by simp only [go_sem,pX,w,KT,Bool.and_false]))
   .exact wo (h:=wx y (k+1) ⟨wg,wj,(by rw [eI _ _ _ f,s,p,b];rfl)⟩)
  .refine wv (h:=?_);have I:=pO s f;exact x _ _ (.inl (by simp only [go_sem,pX,hN,I,Bool.not_false,Bool.and_true]))
theorem Ck (r:Rule)(c:r.right.j.h.length<=1000000)(b:r.right.j.i.length<=1000000):Pua 33 [r.d] (.tup [dLI r.N,dLI r.ad]):=by
 refine Tz.p0 func33 rfl λQ a Y=>?_;refine wo (h:=aH (rR r.s.h _ c) wl ?_);refine wo (h:=aH (rR r.s.i _ b) wl ?_);have Y:=xa1 Y @Rule.N.eq_1 @Rule.ad.eq_1;exact wo (h:=a _ _ wy)
theorem Cj (r:Rule)(c:r.left.j.h.length<=1000000)(b:r.left.j.i.length<=1000000):Pua 30 [r.d] (.tup [dLI r.bj,dLI r.bl]):=by
 refine Tz.p0 func30 rfl λQ a Y=>?_;refine wo (h:=aH (rR r.q.h _ c) wl ?_);refine wo (h:=aH (rR r.q.i _ b) wl ?_);have Y:=xa1 Y @Rule.bj.eq_1 @Rule.bl.eq_1;exact wo (h:=a _ _ wy)
def spanF (r:Rule):Int :=
 if subF r.left.j r.q≠0 then subF r.left.j r.q
 else eR (cJ r.left.j r.q) r.right.j r.s
theorem ST (r:Rule)(f:r.ok):Pua 124 [r.d] (dI (spanF r)):=by
 obtain ⟨_,b,a,i,g,_,_⟩:=f;refine Tz.pK ⟨λt=>t==4||t==5,λ_=>[]⟩ func124 rfl (λQ e=>?_);have Y:=trivial;refine wv (h:=aB (AP r.left.j r.q) wl ?_);refine dR (λc=>?_) λc=>?_
 .have Y:=xa1 Y c @spanF.eq_1;exact wv (h:=e _ _ wy)
 .refine wv (h:=aB (wZ r.left.j r.q b a) wl ?_);refine wv (h:=aB (v7 (cJ r.left.j r.q) r.right.j r.s) wl ?_);have Y:=xa1 Y c @spanF.eq_1;exact wv (h:=e _ _ wy)
theorem To (r:Rule):keptF r=if spanF r≠0 then spanF r else if (decide r.s.h.Nodup&&decide r.s.i.Nodup)=true then 0 else 11:=by
 unfold keptF spanF BW;grind
theorem AL (t:Types)(k:t.ok)(r:Rule)(o:r.ok):Pua 54 [t.d,r.d] (dI (ruleF t r)):=by
 have m:=Gi t k r.left r.cond o.cond o.size;rw [Cond.A] at m;have q:=To r;refine Tz.p0 func54 rfl λQ c Y=>?_;refine wv (h:=aB (sO t k) wl ?_);refine dR (λb=>?_) λb=>?_
 .exact wv (h:=c _ _ (by simp [go_sem,ruleF,b]))
 .refine wo (h:=aB (qN r.name o.name) wl ?_);refine eP (λe=>?_) λe=>?_
  .exact wv (h:=c _ _ (by simp [go_sem,ruleF,b,e]))
  .refine wv (h:=aB (vX t k r.left) wl ?_);refine dR (λf=>?_) λf=>?_
   .exact wv (h:=c _ _ (by simp [go_sem,ruleF,b,e,f]))
   .refine wv (h:=aB (P6 t k r) wl ?_);refine dR (λa=>?_) λa=>?_
    .exact wv (h:=c _ _ (by simp [go_sem,ruleF,b,e,f,a]))
    .have l:=Bv a;have s:=bK l.1;refine wv (h:=aB (ST r o) wl ?_);refine dR (λn=>?_) λn=>?_
     .exact wv (h:=c _ _ (by simp [go_sem,ruleF,b,e,f,a,q,n]))
     .refine wo (h:=aB (qM r.s.h) wl ?_);refine wo (h:=aK (λl=>qM r.s.i) (λl=>wl) ?_);refine eP (λj=>?_) λj=>?_
      .have hK':keptF r=11:=by rw [q,if_neg aD,if_neg (λh=>by rw [aM,decide_eq_true_eq,decide_eq_true_eq] at h;rcases j with h'|h';exact h' h.1;exact h' h.2)]
       exact wv (h:=c _ _ (by simp [go_sem,ruleF,b,e,f,a,hK']))
      .have hK':keptF r=0:=by rw [q,if_neg aD,if_pos (by rw [aM,decide_eq_true_eq,decide_eq_true_eq];exact j)]
       refine wv (h:=aB (Ck r aD aD) wl ?_);refine wo (h:=aB (DE t k r.right.j l.1 l.2 r.N r.ad (λi p=>mX p) (λi p=>mX p)) wl ?_);refine eP (λg=>?_) λg=>?_
       .exact wv (h:=c _ _ (by simp [go_sem,ruleF,b,e,f,a,hK',g]))
       .refine wv (h:=aB (m) wl ?_);exact wv (h:=c _ _ (by simp [go_sem,ruleF,b,e,f,a,hK',g]))
def fewG (g:Graph):Bool:=decide ((g.h.length:Int)<=45)&&decide ((g.i.length:Int)<=90)
def fewP (p:Pattern):Bool:=fewG p.j&&decide ((p.l.length:Int)<=15)&&decide ((p.G.length:Int)<=15)
def fewPart (p:Part)(n:Int):Bool:=decide ((p.h.length:Int)+p.i.length<=n)
structure Part.le (p:Part):Prop where
 n:p.h.length<=1000000000000000
 e:p.i.length<=1000000000000000
theorem Bx (g:Graph):Pua 131 [g.d] (.bool (fewG g)):=by
 refine Tz.p0 func131 rfl λQ a Y=>?_;have Y:=wa Y @fewG.eq_1;exact wo (h:=a _ _ wy)
theorem xQ (p:Pattern):Pua 64 [p.d] (.bool (fewP p)):=by
 refine Tz.p0 func64 rfl λQ a Y=>?_;refine wo (h:=aB (Bx p.j) wl ?_);have Y:=wa Y @fewP.eq_1;exact wo (h:=a _ _ wy)
theorem Mp (p:Part)(a:p.le)(n:Int):Pua 66 [p.d,dI n] (.bool (fewPart p n)):=by
 obtain ⟨e,c⟩:=a;refine Tz.p0 func66 rfl λQ b Y=>?_;have Y:=wa Y @fewPart.eq_1;exact wo (h:=b _ _ wy)
theorem VN (p:Part)(a:p.le)(n:Int):Pua 65 [p.d,dI n] (.bool (fewPart p n)):=by
 obtain ⟨e,c⟩:=a;refine Tz.p0 func65 rfl λQ b Y=>?_;have Y:=wa Y @fewPart.eq_1;exact wo (h:=b _ _ wy)
mutual
def rO:Cond->Int->Int
 | .mk k l m p,b=>if (!fewP p||!fewPart m 140)=true then -1 else rN l (b - 1)
def rN:List Cond->Int->Int
 | [],b=>b
 | c :: l,b=>if 0<=b then rN l (rO c b) else b
end
theorem XW (c:Cond)(b:Int):rO c b=if (!fewP c.o||!fewPart c.map 140)=true then -1 else rN c.u (b - 1):=by cases c;rw [rO];rfl
mutual
theorem JG:∀ (c:Cond) (b:Int),0<=b->-1<=rO c b/\rO c b<=b - 1
 | .mk k l m p,b,h=>by
  rw [rO];split
  ·omega
  ·exact JE l (b - 1) (by omega)
theorem JE:∀ (l:List Cond) (b:Int),-1<=b->-1<=rN l b/\rN l b<=b
 | [],b,h=>by rw [rN];omega
 | c :: l,b,h=>by
  rw [rN];split
  ·rename_i h0
   have h1:=JG c b h0;have h2:=JE l (rO c b) h1.1;omega
  ·omega
end
mutual
def Cond.le:Cond->Prop
 | .mk k l m p=>m.le/\Cond.db l
def Cond.db:List Cond->Prop
 | []=>True
 | c :: l=>c.le/\Cond.db l
end
theorem Pd (l:List Cond):Cond.db l↔∀ c∈l,c.le:=by
 induction l with
 | nil=>simp [Cond.db]
 | cons a l ih=>simp [Cond.db,ih]
theorem Sf (c:Cond):c.le↔c.map.le/\∀ k∈c.u,k.le:=by cases c;simp [Cond.le,Pd,Cond.u,Cond.map]
mutual
theorem JF:∀ (c:Cond) (b:Int),0<=b->0<=rO c b->c.ok/\(c.size:Int)<=b - rO c b
 | .mk k l m p,b,h,h0=>by
  rw [rO] at h0 ⊢;split at h0
  ·omega
  ·rename_i h1
   rw [if_neg h1];have h2:=Rb l (b - 1) (by omega) h0;simp [fewP,fewG,fewPart] at h1;refine ⟨⟨⟨?_,?_,?_,?_,?_,?_⟩,h2.1⟩,?_⟩<;>simp only [Cond.map,Cond.o,Cond.size]<;>omega
theorem Rb:∀ (l:List Cond) (b:Int),-1<=b->0<=rN l b->Cond.d3 l/\(Cond.aa l:Int)<=b - rN l b
 | [],b,h,h0=>by simp [Cond.d3,Cond.aa,rN]
 | c :: l,b,h,h0=>by
  rw [rN] at h0 ⊢;split at h0
  ·rename_i hb
   rw [if_pos hb];have h1:=JG c b hb;have h2:=JE l (rO c b) h1.1;have h3:=JF c b hb (by omega);have h4:=Rb l (rO c b) h1.1 h0;refine ⟨⟨h3.1,h4.1⟩,?_⟩;simp only [Cond.aa];omega
  ·omega
end
theorem Tn {l:List Cond}{i:Nat}(h:i<l.length){b:Int}(a:0<=b):rN (l.drop i) b=rN (l.drop (i+1)) (rO l[i] b):=by
 rw [fV h,rN,if_pos a]
theorem Wj {l:List Cond}{i:Nat}{b:Int}(h:¬ (i<l.length/\0<=b)):rN (l.drop i) b=b:=by
 by_cases a:i<l.length
 .rw [fV a,rN,if_neg aD]
 .rw [iW aD,rN]
theorem SW:∀ c:Cond,c.le->∀ b:Int,0<=b->b<=1000->Pua 132 [.agg c.c,dI b] (dI (rO c b)):=by
 refine l5 λc n r d t s=>?_;obtain ⟨o,p⟩:=(Sf c).1 r;have a:=XW c d;refine Tz.p0 func132 rfl λQ k _=>?_;have Y:=@Cond.A;refine wo (h:=aB (xQ c.o) wl ?_);refine wo (h:=aK (λq=>Mp c.map o 140) (λq=>wl) ?_);refine eP (λj=>?_) λj=>?_
 .rw [if_pos (bY j)] at a;exact wv (h:=k _ _ (iq a))
 .rw [if_neg (bY j)] at a;refine wv (h:=bA (λi e H=>∃ b:Int,(e 2=.adr c.c/\e 1=dI b/\e 5=dI i)/\(i<=c.u.length)/\(-1<=b/\b<d)/\(rN (c.u.drop i) b=rO c d)) (λi=>c.u.length - i) 0 ⟨((d - 1)),wg,wi,aD,(by exact a.symm)⟩ λy g i e H f=>?_);obtain ⟨b,v,w,x,l⟩:=f;have Y:=wa Y v;refine wv (h:=?_);repeat first|intro _|refine ⟨iS,?_⟩
  refine wq (λm=>?_) λm=>?_
  .have h5':i<c.u.length/\0<=b:=aD;have Y:=xa1 Y m h5'.1;refine wo (h:=aB ((by have:=n _ (aC h5'.1) (p _ (aC h5'.1)) b h5'.2 aD;rwa [Cond.A] at this)) wl ?_);exact wo (h:=wx g (i+1) ⟨(rO c.u[i] b),wg,wj,(by have:=JG c.u[i] b h5'.2;omega),(by rw [<- l,Tn h5'.1 h5'.2])⟩)
  .have h5':¬ (i<c.u.length/\0<=b):=aD;refine wv (h:=?_);have u:rO c d=b:=by rw [<- l,Wj h5']
   exact k _ _ (iq u)
def fewC (c:Cond):Bool:=decide (0<=rO c 40)
theorem Mm (c:Cond)(a:c.le):Pua 67 [.agg c.c] (.bool (fewC c)):=by
 refine Tz.p0 func67 rfl λQ b _=>?_;have Y:=@Cond.A;refine wv (h:=aB ((by have:=SW c a 40 aD aD;rwa [Cond.A] at this)) wl ?_);have Y:=wa Y @fewC.eq_1;exact wv (h:=b _ _ wy)
def fewR (r:Rule):Bool:=decide ((r.name.size:Int)<=60)&&fewP r.left&&fewP r.right&&fewPart r.q 140&&fewPart r.s 140&&fewC r.cond
structure Rule.le (r:Rule):Prop where
 q:r.q.le
 s:r.s.le
 cond:r.cond.le
theorem VJ (r:Rule)(b:r.le):Pua 27 [r.d] (.bool (fewR r)):=by
 refine Tz.p0 func27 rfl λQ c Y=>?_;refine wo (h:=aK (λa=>xQ r.left) (λa=>wl) ?_);refine wo (h:=aK (λa=>xQ r.right) (λa=>wl) ?_);refine wo (h:=aK (λa=>VN r.q b.q 140) (λa=>wl) ?_);refine wo (h:=aK (λa=>Mp r.s b.s 140) (λa=>wl) ?_);refine wo (h:=aK (λa=>(by have:=Mm r.cond b.cond;rwa [Cond.A] at this)) (λa=>wl) ?_);have Y:=wa Y @fewR.eq_1;exact wo (h:=c _ _ wy)
structure Ovl where
 j:Graph
 left:Part
 right:Part
def Ovl.c (o:Ovl):UN:=[dLI o.j.h,.list (o.j.i.map Edge.c),dLI o.left.h,dLI o.left.i,dLI o.right.h,dLI o.right.i]
def Ovl.d (o:Ovl):D:=.agg o.c
@[go_sem] theorem Ovl.Q (o:Ovl):D.L o.c=true:=by simp [Ovl.c,D.L,D.Q,rA,yJ]
@[go_sem] theorem aiV (o:Ovl):o.d.Q=true:=by grind [Ovl.d, D.Q, Ovl.Q]
@[go_sem] theorem ahW (l:List Ovl):D.R (l.map Ovl.c)=true:=d9 _ Ovl.Q l
def f6 (n:Nat):V2:=(List.range n).map λ(k:Nat)=>(k:Int)
theorem xZ (i:Nat):f6 (i+1)=f6 i++[(i:Int)]:=by simp [f6,bR]
theorem g9 (n:Nat):(f6 n).length=n:=by simp [f6]
theorem DK (n:Nat)(l:n<=100000):Pua 274 [dI n] (dLI (f6 n)):=by
 refine Tz.pK ⟨λt=>t==3,λ_=>[]⟩ func274 rfl (λQ j=>?_);have Y:=trivial;refine wv (h:=bA (λi e H=>(e 0=dI n/\e 3=.own 0 i/\e 4=dI i)/\(H.get 0=some ⟨3,1,(f6 i).map cI,false⟩)/\(0<H.next)/\(i<=n)/\((f6 i).length=i)) (λi=>n - i) 0 ⟨wg,(by rfl),wn,wi,(by exact g9 _)⟩ λo d i e H c=>?_);obtain ⟨k,b,a,m,g⟩:=c;have Y:=xa3 Y k b (bS a) g;refine dR (λf=>?_) λf=>?_
 .have Y:=wa Y f;exact wo (h:=wx d (i+1) ⟨wg,(by simp [go_sem,Y,xZ]),wn,wj,(by exact g9 _)⟩)
 .have hie:i=n:=aD;subst hie;have Y:=wa Y f;exact wv (h:=j _ _ wy)
theorem Qw (g:Graph)(a:g.h.length<=100000)(b:g.i.length<=100000):Pua 198 [g.d] (Part.d ⟨f6 g.h.length,f6 g.i.length⟩):=by
 refine Tz.pK ⟨λt=>t==2,λ_=>[]⟩ func198 rfl (λQ c=>?_);have Y:=trivial;refine wo (h:=aH (DK g.h.length a) wl ?_);refine wo (h:=aH (DK g.i.length b) wl ?_);exact wo (h:=c _ _ wy)
theorem RO:Own prog 233 [.nil] 145 3 []:=by
 refine Tz.oK ⟨λt=>t==2||t==5,λ_=>[]⟩ func233 rfl (λQ a=>?_);have Y:=trivial;refine wv (h:=?_);exact a _ _ _ ip ip
theorem RM:Own prog 233 [.ne] 145 3 []:=by
 refine Tz.oK ⟨λt=>t==2||t==5,λ_=>[]⟩ func233 rfl (λQ a=>?_);have Y:=trivial;refine wo (h:=?_);exact a _ _ _ ip ip
theorem RN (l:List Edge)(d:l.length<=1000000)(a:l≠[]):Own prog 233 [.list (l.map Edge.c)] 145 3 (l.map Edge.c):=by
 refine Tz.oK ⟨λt=>t==2||t==5,λ_=>[]⟩ func233 rfl (λQ b=>?_);have Y:=a;refine wo (h:=?_);exact b _ _ _ ip ip
theorem zP (l:List Edge)(b:l.length<=1000000):Own prog 233 [.list (l.map Edge.c)] 145 3 (l.map Edge.c):=by
 by_cases a:l=[]
 .subst a;exact Fg RO RM
 .exact RN l b a
theorem GU {P:Program}{H:AHeap}{f:FuncId}{args:UN}{ty:TypeId}{sz:Nat}{es:UE}{Q:D->AHeap->Prop}(A:Own P f (args.map (jN H)) ty sz es)(x:D.L (args.map (jN H))=true)(K:∀ d∈es.flatten,d.bf=true)(N:Q (.list es) H):ACalls P f args H Q:=by
 refine ⟨A.1,λE σ w k o M=>?_⟩;obtain ⟨V,f2,Z,Y⟩:=gP (args.flatMap eJ) o;refine (A.2 (dV E (gC (args.flatMap eJ) H) σ) w k (w4 V) (iU (λ_ h=>h) (Dz o M _ λi h=>h) x)).mono λe G ⟨v,F,L,b,O,c,C,r,m⟩=>?_;obtain ⟨U,T,S⟩:=o.grow m.os m.tape m.output m.size m.block;have I:RepV (dV E H σ) jG tB G v (.list es):=by
  rcases b.2 with ⟨l,R⟩|⟨g,y,W,a,X,n,s,t,z,q⟩
  .rw [l,bM R];exact .listN
  .rw [a];refine .list ⟨g,0,none⟩ y sz F es s t r c.len O (λj u p=>⟨λJ=>?_,b.cells (g:=g) (by simp [a,Value.ownBlock]) j u p⟩) (λj u d p B=>Bc (c.Z j u d p B) (K d (aL B)));have:=w4 o g J;omega
 exact ⟨v,.list es,H,σ,L,U,I.q A5,T,S,N⟩
theorem lW {P:Program}{md:Nat->Bool}{ops:Array Oper}{g:List (Nat × Nat)}{l i:Nat}{a:List Oper}{b:List (Nat × List Nat)}{e:eF}{c:Option Tmp}{K:eF->AHeap->Prop}{f:FuncId}{args args':UN}{H:AHeap}{ty:TypeId}{sz:Nat}{es:UE}
  (o:Own P f args' ty sz es) (r:args.map (jN H)=args') (j:D.L args'=true) (p:∀ d∈es.flatten,d.bf=true) {S:List Nat} (s:args.flatMap eJ=S) (q:chk g i S b)
  (h:lG P md ops g l (i+1) a ((i,S) :: b) (oV e c (.list es)) H K):r6 P md ops g l i a b e c K f args H:=by
 subst r s;unfold r6;refine .inl ⟨.list es,_,λt k=>?_,q,h⟩;have m:=Dd k λx n=>n;exact GU (by rw [m];exact o) (by rw [m];exact j) p ⟨rfl,rfl⟩
theorem fA {β:Type}(f:β->Nat->β)(b:β)(n:Nat):(List.range (n+1)).foldl f b=f ((List.range n).foldl f b) n:=by
 rw [bR,iL];rfl
theorem MN {t:Types}(b:t.aq){a:Nat}(c:a<t.h.length):mem (t.aw a) a=true:=by
 rw [A0 t a c (b.ax a),x8];simp
def cL (l:V2):UN:=[dLI l]
@[go_sem] theorem af4 (l:Yb):D.R (l.map cL)=true:=d9 cL (λx=>by simp [cL,go_sem]) l
attribute [go_sem] cL
@[go_sem] theorem aiF (o:Option Rule)(A z y x w v u t s r q p n m l k j i h g f e d b a:D):((Option.map Rule.c o).getD [A,z,y,x,w,v,u,t,s,r,q,p,n,m,l,k,j,i,h,g,f,e,d,b,a]).length=25:=by cases o<;>rfl
def aaC (mask:List Bool):List Nat:=(List.range mask.length).filter λi=>mask[i]?.getD false
theorem mP (a b:V2):Pua 183 [dLI a,dLI b] (.bool (decide (a=b))):=by
 refine Tz.p0 func183 rfl λQ g Y=>?_;refine wv (h:=?_);repeat first|intro _|refine ⟨iS,?_⟩
 refine wq (λm=>?_) λm=>?_
 .refine wv (h:=?_);have c:a≠b:=by intro h;subst h;omega
  exact g _ _ (iq c)
 .refine wo (h:=bA (λi e H=>(e 0=dLI a/\e 1=dLI b/\e 12=dI a.length/\e 13=dI i)/\(i<=a.length)/\(a.take i=b.take i)) (λi=>a.length - i) 0 ⟨wg,wi,(by rfl)⟩ λp j i e H d=>?_);obtain ⟨n,o,f⟩:=d;have Y:=wa Y n;refine dR (λl=>?_) λl=>?_
  .have hib:i<b.length:=aD;have Y:=xa1 Y l hib;refine wv (h:=?_);repeat first|intro _|refine ⟨iS,?_⟩
   refine wq (λk=>?_) λk=>?_
   .refine wv (h:=?_);have c:a≠b:=by intro h;subst h;exact k rfl
    exact g _ _ (iq c)
   .exact wo (h:=wx j (i+1) ⟨wg,wj,(by rw [List.take_succ_eq_append_getElem l,List.take_succ_eq_append_getElem hib,f,k])⟩)
  .rw [aG aD,aG aD] at f;exact wv (h:=g _ _ (iq f))
theorem OO {r:Rule}(h:fewR r=true):r.ok:=by
 simp only [fewR,aM,decide_eq_true_eq] at h;obtain ⟨⟨⟨⟨⟨i,g⟩,f⟩,e⟩,d⟩,b⟩:=h;simp [fewPart] at e d;simp [fewC] at b;have c:=JF r.cond 40 aD b;exact ⟨aD,aD,aD,aD,aD,c.1,aD⟩
theorem Kv {P:Program}{md:Nat->Bool}{ops:Array Oper}{a:List Oper}{e:eF}{b:Option Tmp}{K:eF->AHeap->Prop}{f:FuncId}{args args':UN}{H:AHeap}{ty:TypeId}{sz:Nat}{es:UE}
  (g:Own P f args' ty sz es) (j:args.map (jN H)=args') (c:D.L args'=true) (i:∀ d∈es.flatten,d.bf=true) (h:oU P md ops a (oV e b (.list es)) H K):fT P md ops a e b K f args H:=by grind [fT, GU]
theorem GD (zs:V2):∀ d∈(zs.map cI).flatten,d.bf=true:=by
 intro d a;rw [BG,aT] at a;obtain ⟨x,_,rfl⟩:=a;rfl
def YW:V2->Int
 | []=>0
 | a :: l=>if a≠0 then a else YW l
theorem XB {l:V2}{i:Nat}(h:i<l.length):YW (l.drop i)=if l[i]≠0 then l[i] else YW (l.drop (i+1)):=by
 rw [fV h];rfl
theorem acW (l:V2):Pua 322 [dLI l] (dI (YW l)):=by
 refine Tz.p0 func322 rfl λQ f Y=>?_;refine wv (h:=?_);repeat first|intro _|refine ⟨iS,?_⟩
 refine bA (λi e H=>(e 6=dLI l/\e 7=dI l.length/\e 3=dI 0/\e 8=dI i)/\(i<=l.length)/\(YW (l.drop i)=YW l)) (λi=>l.length - i) 0 ⟨wg,wi,(by rfl)⟩ λq c i e H a=>?_;obtain ⟨m,p,b⟩:=a;have Y:=wa Y m;refine dR (λd=>?_) λd=>?_
 .have hst:=b;rw [XB d] at hst;have Y:=wa Y d;refine wv (h:=?_);repeat first|intro _|refine ⟨iS,?_⟩
  refine wq (λk=>?_) λk=>?_
  .rw [if_pos aD] at hst;exact wv (h:=f _ _ (by simp [go_sem,<- hst]))
  .rw [if_neg aD] at hst;refine wv (h:=?_);repeat first|intro _|refine ⟨iS,?_⟩
   exact wx c (i+1) ⟨wg,wj,(hst)⟩
 .rw [iW aD] at b;exact wv (h:=f _ _ (by simp [go_sem,<- b,YW]))
theorem Ld {P:Program}(w:World)(y z ty b:TypeId)(sz:Nat)(g o e m:Nat)(a:Addr)(d h n:Nat)(c:Array Value)(t:TypeId)(cs:List Value)
  (A:P.underlying y=some (.slice b)) (u:(P.info? b).map (·.size)=some sz)
  (D:w.heap[g]?=some (.cells c t (0,0))) (B:n=Nat.min d e) (s:cs.length=n * sz)
  (k:∀ j v,cs[j]?=some v->w.cell? (a.add j)=some v) (l:o+cs.length<=c.size) (E:∀ v∈cs,v.oneCell'=true) :
  (Builtin.copy_ #[y,z] ty #[.slice (some ⟨g,o,none⟩) e m,.slice (some a) d h]).run P w =
   .ok (goInt n) (w.setRow g (c.toList.take o++cs++c.toList.drop (o+cs.length)).toArray):=by
 have x:=run_loadCells_list (P:=P) w a cs k;have q:=run_storeCells_at P g o t cs 0 c w D (bY l) E;cases r:P.info? b with
 | none=>simp [r] at u
 | some i =>
  have C:i.size=sz:=by simpa [r] using u
  rw [s] at x;simp [Builtin.copy_,run_underlying A,Builtin.lenOf,Builtin.firstCells,sizeOf,typeInfo,r,C,<- B,x,q]
def cmp1 (a b:Int):Int:=if a<b then -1 else if b<a then 1 else 0
theorem RK (a b:Int):Pua 323 [dI a,dI b] (dI (cmp1 a b)):=by
 refine Tz.p0 func323 rfl λQ e Y=>?_;refine wv (h:=aB (BL a) wl ?_);refine wv (h:=aB (BL b) wl ?_);refine dR (λd=>?_) λd=>?_
 .have Y:=xa1 Y d @cmp1.eq_1;exact wv (h:=e _ _ wy)
 .refine dR (λc=>?_) λc=>?_
  .have Y:=xa2 Y d c @cmp1.eq_1;exact wv (h:=e _ _ wy)
  .have Y:=xa2 Y d c @cmp1.eq_1;exact wv (h:=e _ _ wy)
theorem XM {n:Nat}{x:Int}(h:x∈f6 n):0<=x/\x<n:=by
 simp only [f6,aT,aV] at h;grind
theorem Lw (n:Nat)(l:n<=100000):Own prog 196 [dI 0,dI n] 3 1 ((f6 n).map cI):=by
 refine Tz.oK ⟨λt=>t==5,λ_=>[]⟩ func196 rfl (λQ j=>?_);have Y:=trivial;refine wv (h:=bA (λi e H=>(e 0=dI 0/\e 1=dI n/\e 5=.own 0 i/\e 6=dI i)/\(H.get 0=some ⟨3,1,(f6 i).map cI,false⟩)/\(0<H.next)/\(i<=n)/\((f6 i).length=i)) (λi=>n - i) 0 ⟨wg,(by rfl),wn,wi,(by exact g9 _)⟩ λo d i e H c=>?_);obtain ⟨k,b,a,m,g⟩:=c;have Y:=xa3 Y k b (bS a) g;refine dR (λf=>?_) λf=>?_
 .have Y:=wa Y f;exact wo (h:=wx d (i+1) ⟨wg,(by simp [go_sem,Y,xZ]),wn,wj,(by exact g9 _)⟩)
 .have hie:i=n:=aD;subst hie;refine wv (h:=?_);exact j _ _ _ (by simp [go_sem,Y,g9]) (by simp [go_sem,Y,g9])
def oH (t:Types)(i:Nat):Bool:=match t.h[i]? with|some n=>n.eb|none=>false
def sZ (t:Types):V2:=((List.range t.h.length).filter λi=>!oH t i).map λ(i:Nat)=>(i:Int)
theorem IL (t:Types)(r:t.h.length<=100000):Pua 195 [t.d] (dLI (sZ t)):=by
 refine Tz.pK ⟨λt=>t==3,λ_=>[]⟩ func195 rfl (λQ p=>?_);have Y:=trivial;refine wv (h:=bA (λi e H=>∃ a:V2,(e 1=.adr t.c/\e 3=.own 0 a.length/\e 4=dI i)/\(H.get 0=some ⟨3,1,a.map cI,false⟩)/\(0<H.next)/\(i<=t.h.length)/\(a.length<=i)/\(a=((List.range i).filter λi=>!oH t i).map (λ(b:Nat)=>(b:Int)))) (λi=>t.h.length - i) 0 ⟨([]),wg,wn,wn,wi,aE,(by rfl)⟩ λu g i e H m=>?_);obtain ⟨a,q,j,f,s,o,l⟩:=m;have Y:=xa2 Y q j (bS f);refine eP (λk=>?_) λk=>?_
 .have hab:oH t i=t.h[i].eb:=by simp [oH,aA k]
  have Y:=xa2 Y k (aA k) hab;refine eP (λn=>?_) λn=>?_
  .have Y:=wa Y n;exact wo (h:=wx g (i+1) ⟨(a++(if (!oH t i)=true then [(i:Int)] else [])),wg,wn,wn,wj,ik,(by rw [c6,<- l])⟩)
  .have Y:=wa Y n;exact wo (h:=wx g (i+1) ⟨(a++(if (!oH t i)=true then [(i:Int)] else [])),wg,wn,wn,wj,ik,(by rw [c6,<- l])⟩)
 .have hY:sZ t=a:=by rw [l,(aD:i=t.h.length)];rfl
  exact wv (h:=p _ _ (iv hY))
theorem IS (t:Types)(r:t.h.length<=100000):Pua 189 [t.d] (dLI (sZ t)):=by
 refine Tz.pK ⟨λt=>t==3,λ_=>[]⟩ func189 rfl (λQ p=>?_);have Y:=trivial;refine wv (h:=bA (λi e H=>∃ a:V2,(e 1=.adr t.c/\e 3=.own 0 a.length/\e 4=dI i)/\(H.get 0=some ⟨3,1,a.map cI,false⟩)/\(0<H.next)/\(i<=t.h.length)/\(a.length<=i)/\(a=((List.range i).filter λi=>!oH t i).map (λ(b:Nat)=>(b:Int)))) (λi=>t.h.length - i) 0 ⟨([]),wg,wn,wn,wi,aE,(by rfl)⟩ λu g i e H m=>?_);obtain ⟨a,q,j,f,s,o,l⟩:=m;have Y:=xa2 Y q j (bS f);refine eP (λk=>?_) λk=>?_
 .have hab:oH t i=t.h[i].eb:=by simp [oH,aA k]
  have Y:=xa2 Y k (aA k) hab;refine eP (λn=>?_) λn=>?_
  .have Y:=wa Y n;exact wo (h:=wx g (i+1) ⟨(a++(if (!oH t i)=true then [(i:Int)] else [])),wg,wn,wn,wj,ik,(by rw [c6,<- l])⟩)
  .have Y:=wa Y n;exact wo (h:=wx g (i+1) ⟨(a++(if (!oH t i)=true then [(i:Int)] else [])),wg,wn,wn,wj,ik,(by rw [c6,<- l])⟩)
 .have hY:sZ t=a:=by rw [l,(aD:i=t.h.length)];rfl
  exact wv (h:=p _ _ (iv hY))
def Gu (b:List Bool):V2:=(aaC b).map λ(i:Nat)=>(i:Int)
theorem DI (b:List Bool)(p:b.length<=100000):Pua 272 [.list (b.map cB)] (dLI (Gu b)):=by
 refine Tz.pK ⟨λt=>t==3,λ_=>[]⟩ func272 rfl (λQ n=>?_);have Y:=trivial;refine wv (h:=bA (λi e H=>∃ a:V2,(e 0=.list (b.map cB)/\e 3=.own 0 a.length/\e 4=dI i)/\(H.get 0=some ⟨3,1,a.map cI,false⟩)/\(0<H.next)/\(i<=b.length)/\(a.length<=i)/\(a=((List.range i).filter λi=>b[i]?.getD false).map (λ(b:Nat)=>(b:Int)))) (λi=>b.length - i) 0 ⟨([]),wg,wn,wn,wi,aE,(by rfl)⟩ λr d i e H k=>?_);obtain ⟨a,o,f,c,q,m,j⟩:=k;have Y:=xa2 Y o f (bS c);refine eP (λg=>?_) λg=>?_
 .have hgd:b[i]?.getD false=b[i]:=by rw [aA g];rfl
  have Y:=xa2 Y g (aA g) hgd;refine eP (λl=>?_) λl=>?_
  .have Y:=wa Y l;exact wo (h:=wx d (i+1) ⟨(a++(if b[i]?.getD false=true then [(i:Int)] else [])),wg,wn,wn,wj,ik,(by rw [c6,<- j])⟩)
  .have Y:=wa Y l;exact wo (h:=wx d (i+1) ⟨(a++(if b[i]?.getD false=true then [(i:Int)] else [])),wg,wn,wn,wj,ik,(by rw [c6,<- j])⟩)
 .have hY:Gu b=a:=by rw [j,(aD:i=b.length)];rfl
  exact wv (h:=n _ _ (iv hY))
theorem Cm (g:Graph)(b:g.h.length<=100000)(c:g.i.length<=100000):Pua 75 [g.d] g.d:=by
 refine Tz.pK ⟨λt=>t==2||t==3||t==7,λr=>match r with|1=>[(0,1),(0,2),(0,4),(1,4),(2,4),(3,4),(0,5),(3,5),(4,5),(0,6),(3,6),(4,6)]|_=>[]⟩ func75 rfl (λQ a=>?_);have Y:=trivial;exact wo (h:=a _ _ wy)
theorem v8 (l:V2)(v:∀ x∈l,0<=x/\x<l.length)(u:∀ a b,a<b->b<l.length->l[a]?≠l[b]?):Pua 197 [dLI l] (dI 0):=by
 refine Tz.p0 func197 rfl λQ w Y=>?_;refine wv (h:=bA (λi e H=>(e 0=dLI l/\e 3=dI i)/\(i<=l.length)) (λi=>l.length - i) 0 ⟨wg,wi⟩ λG r i e H o=>?_);obtain ⟨A,D⟩:=o;have Y:=wa Y A;refine wv (h:=?_);repeat first|intro _|refine ⟨iS,?_⟩
 refine wq (λg=>?_) λg=>?_
 .have hx:=v _ (aC g);have Y:=xa1 Y g (aA g);refine wo (h:=bB (λs=>?_) (λs=>?_))
  .simp [aA g] at s;omega
  .try simp [go_sem] at s
   exact wo (h:=wx r (i+1) ⟨wg,wj⟩)
 .refine wv (h:=bA (λk e H=>(e 0=dLI l/\e 4=dI k)/\(k<=l.length)) (λk=>l.length - k) 0 ⟨wg,wi⟩ λF q k e H n=>?_);obtain ⟨z,C⟩:=n;have Y:=wa Y z;refine wv (h:=?_);repeat first|intro _|refine ⟨iS,?_⟩
  refine wq (λc=>?_) λc=>?_
  .have Y:=xa1 Y c (aA c);refine wv (h:=bA (λm e H=>(e 0=dLI l/\e 4=dI k/\e 5=dI m)/\(m<=k)) (λm=>k - m) 0 ⟨wg,wi⟩ λE p m e H j=>?_);obtain ⟨y,B⟩:=j;have Y:=wa Y y;refine dR (λf=>?_) λf=>?_
   .have hml:m<l.length:=aD;have Y:=xa2 Y f (aA hml) hml;refine wo (h:=bB (λd=>?_) (λd=>?_))
    .exact absurd (show l[k]=l[m] by simpa [aA c,aA hml] using d) (λt=>u m k f c (by rw [aA hml,aA c,t]))
    .try simp [go_sem] at d
     exact wo (h:=wx p (m+1) ⟨wg,wj⟩)
   .exact wo (h:=wx q (k+1) ⟨wg,wj⟩)
  .have Y:=xa1 Y g c;exact wv (h:=w _ _ wy)
def PC (xs:V2)(i j:Nat):V2:=(xs.set i (xs[j]?.getD 0)).set j (xs[i]?.getD 0)
theorem PB (xs:V2)(i j:Nat):(PC xs i j).length=xs.length:=by simp [PC]
abbrev B2:=UInt8 × UInt8
def cP (x:B2):UN:=[.int .u8 (x.1.toNat:Int),.int .u8 (x.2.toNat:Int)]
theorem lA (x:UInt8):(x.toNat:Int)<256:=by have:=x.toNat_lt;omega
@[go_sem] theorem YA (l:List B2):D.R (l.map cP)=true:=d9 _ (λ_=>rfl) l
def tyA:ByteArray:=⟨#[65,66,67,68,69,70]⟩
def tyU:ByteArray:=⟨#[117,118,119,120,121,122]⟩
def tyE:ByteArray:=⟨#[101,102,103,104,105]⟩
def AZ (i:Nat)(x:B2):NodeTy :=
 ⟨tyA.extract i (i+1),(x.1.toNat:Int).tmod ((i:Int)+1) - 1,((x.1.toNat:Int) / 16).tmod 4==3,
  if (x.2.toNat:Int).tmod 4=1 then [⟨tyU.extract i (i+1),-3,3+((x.2.toNat:Int) / 4).tmod 9,[]⟩]
  else if (x.2.toNat:Int).tmod 4=2 then [⟨tyU.extract i (i+1),0,1,[⟨#[111,102,102]⟩,⟨#[111,110]⟩]⟩] else []⟩
def z7 (i:Nat)(x:B2):UN :=
 [.str (tyA.extract i (i+1)),dI ((x.1.toNat:Int).tmod ((i:Int)+1) - 1),.bool (((x.1.toNat:Int) / 16).tmod 4==3),
  if (x.2.toNat:Int).tmod 4=1 then .list [[.str (tyU.extract i (i+1)),dI (-3),dI (3+((x.2.toNat:Int) / 4).tmod 9),.nil]]
  else if (x.2.toNat:Int).tmod 4=2 then .list [[.str (tyU.extract i (i+1)),dI 0,dI 1,.list [[.str ⟨#[111,102,102]⟩],[.str ⟨#[111,110]⟩]]]] else .nil]
theorem XS (i:Nat)(x:B2):iI (z7 i x)=(AZ i x).c:=by
 unfold z7 AZ NodeTy.c;by_cases d:(x.2.toNat:Int).tmod 4=1
 .simp [d,mK,iI,eW,Attr.c,dI,s7]
 .by_cases b:(x.2.toNat:Int).tmod 4=2
  .simp [b,mK,iI,eW,Attr.c,dI,s7,cS]
  .simp [d,b,mK,iI,dI]
def qU (ns:List B2)(i:Nat):B2:=ns[i]?.getD (0,0)
def Fn (ns:List B2)(n:Nat):List NodeTy:=(List.range n).map λi=>AZ i (qU ns i)
def Ux (n:Int)(i:Nat)(x:B2):EdgeTy:=⟨tyE.extract i (i+1),(x.1.toNat:Int).tmod n,(x.2.toNat:Int).tmod n,0,-1,0,-1⟩
def w6 (n:Int)(es:List B2)(k:Nat):List EdgeTy:=(List.range k).map λi=>Ux n i (qU es i)
def rM (ns:List B2):Nat:=max 1 (min ns.length 6)
def qX (ns es:List B2):Types:=⟨Fn ns (rM ns),w6 (rM ns) es (min es.length 5)⟩
def w5 (ns:List B2)(n:Nat):UE:=(List.range n).map λi=>z7 i (qU ns i)
theorem wH (ns:List B2)(i:Nat):w5 ns (i+1)=w5 ns i++[z7 i (qU ns i)]:=by simp [w5,bR]
theorem u0 (ns:List B2)(i:Nat):(w5 ns i).length=i:=by simp [w5]
theorem Wd (ns:List B2)(i:Nat):eW (w5 ns i)=(Fn ns i).map NodeTy.c:=by
 rw [xY];simp only [w5,Fn,FY];exact b8 λj _=>XS j _
theorem kQ {l:UE}(h:∀ c∈l,iI c=c):eW l=l:=by
 rw [xY];conv=>rhs;rw [<- List.map_id l]
 exact b8 h
theorem uX (l:List EdgeTy):eW (l.map EdgeTy.c)=l.map EdgeTy.c:=kQ λc hc=>by
 rw [aT] at hc;obtain ⟨x,_,rfl⟩:=hc;rfl
theorem Tk (ns:List B2)(i:Nat):(Fn ns i).length=i:=by simp [Fn]
theorem QZ (n:Int)(es:List B2)(i:Nat):w6 n es (i+1)=w6 n es i++[Ux n i (qU es i)]:=by simp [w6,bR]
theorem CL (n:Int)(es:List B2)(i:Nat):(w6 n es i).length=i:=by simp [w6]
theorem eM {a n:Int}(h:0<=a)(hn:0<n):0<=a.tmod n/\a.tmod n<n:=⟨Int.tmod_nonneg _ h,Int.tmod_lt_of_pos _ hn⟩
theorem Zb {a n:Int}(h:0<=a)(hn:0<n):0<=a.tdiv n/\a.tdiv n<=a:=⟨Int.tdiv_nonneg h aD,by rw [Int.tdiv_eq_ediv_of_nonneg h];exact Int.ediv_le_self _ h⟩
theorem Ts {n:Int}(b:0<=n)(a:n<=255):Vc .u8 n:=by grind [Vc, IntKind.min, IntKind.max, IntKind.signed, IntKind.bits]
theorem S7 (ns es:List B2):Pua 110 [.list (ns.map cP),.list (es.map cP)] (qX ns es).d:=by
 refine qP gt (λQ hQ=>(Tz.cK ⟨λt=>t==4||t==5||t==7||t==8,λr=>match r with|8=>[(3,17),(4,17),(5,17),(11,17),(12,17)]|20=>[(0,23),(1,23)]|_=>[]⟩ func110 rfl ?_));have Y:=trivial;refine wv (h:=l9 (Ghosts.step (Ghosts.refl _) 1 0 0 141 4 _ _ (rfl) rfl rfl rfl) (λi e H=>(e 0=.list (ns.map cP)/\e 1=.list (es.map cP)/\e 4=.ptr 0 1 0 0/\e 5=.ptr 1 1 0 0/\e 6=dI i)/\(H.get 0=some ⟨25,2,[[.nil,.nil]],false⟩)/\(0<H.next)/\(H.get 1=some ⟨25,2,[[.own 2 i,.nil]],false⟩)/\(1<H.next)/\(H.get 2=some ⟨141,4,w5 ns i,false⟩)/\(2<H.next)/\(i<=6)/\(i<=1\/i<=ns.length)/\((w5 ns i).length=i)) (λi=>6 - i) 0 ⟨wg,wn,wn,wn,wn,(by rfl),wn,wi,aD,(by exact u0 _ _)⟩ λI0 g i e H B=>?_);obtain ⟨E0,J,y,l,v,F,s,hi,a4,hl⟩:=B;have Y:=xa7 Y E0 J (bS y) l (bS v) F (bS s) hl;refine iY (λW=>?_) λW=>?_
 .obtain ⟨x,f⟩:=dH (qU ns i);have N:=lA x.1;have M:=lA x.2;have a3:i<6:=aD;have a1:=eM (aD:0<=(x.1.toNat:Int)) (aD:0<(i:Int)+1);have a0:=eM (aD:0<=(x.2.toNat:Int) / 4) (aD:(0:Int)<9);have Z:=Ts (aD:0<=(x.1.toNat:Int) / 16) aD;have X:=Ts (aD:0<=(x.2.toNat:Int) / 4) aD;have O:(⟨#[65,66,67,68,69,70]⟩:ByteArray).size=6:=rfl;have A:(⟨#[117,118,119,120,121,122]⟩:ByteArray).size=6:=rfl;have L:=Sk H.next;have Y:=xa3 Y W O A L;refine iY (λK=>?_) λK=>?_
  .have b:ns[i]=x:=by rw [<- f];simp [qU,aA K]
   have Y:=xa2 Y (aA K) b @cP.eq_1;refine iY (λo=>?_) λo=>?_
   .have a:z7 i (qU ns i)=[.str (tyA.extract i (i+1)),dI ((x.1.toNat:Int).tmod ((i:Int)+1) - 1),.bool (((x.1.toNat:Int) / 16).tmod 4==3),.list [[.str (tyU.extract i (i+1)),dI (-3),dI (3+((x.2.toNat:Int) / 4).tmod 9),.nil]]]:=by rw [f];simp [z7,o]
    exact wp (h:=wx g (i+1) ⟨wg,wn,wn,wn,wn,(by simp [go_sem,Y,wH,a,tyA,tyU,NodeTy.c,Attr.c,s7,cS,dI]),wn,wj,aD,(by exact u0 _ _)⟩)
   .refine dR (λn=>?_) λn=>?_
    .have a:z7 i (qU ns i)=[.str (tyA.extract i (i+1)),dI ((x.1.toNat:Int).tmod ((i:Int)+1) - 1),.bool (((x.1.toNat:Int) / 16).tmod 4==3),.list [[.str (tyU.extract i (i+1)),dI 0,dI 1,.list [[.str ⟨#[111,102,102]⟩],[.str ⟨#[111,110]⟩]]]]]:=by rw [f];simp [z7,n]
     exact wp (h:=wx g (i+1) ⟨wg,wn,wn,wn,wn,(by simp [go_sem,Y,wH,a,tyA,tyU,NodeTy.c,Attr.c,s7,cS,dI]),wn,wj,aD,(by exact u0 _ _)⟩)
    .have a:z7 i (qU ns i)=[.str (tyA.extract i (i+1)),dI ((x.1.toNat:Int).tmod ((i:Int)+1) - 1),.bool (((x.1.toNat:Int) / 16).tmod 4==3),.nil]:=by rw [f];simp [z7,o,n]
     exact wp (h:=wx g (i+1) ⟨wg,wn,wn,wn,wn,(by simp [go_sem,Y,wH,a,tyA,tyU,NodeTy.c,Attr.c,s7,cS,dI]),wn,wj,aD,(by exact u0 _ _)⟩)
  .have b:x=(0,0):=by rw [<- f];simp [qU,b9 K]
   subst b;have a:z7 i (qU ns i)=[.str (tyA.extract i (i+1)),dI (-1),.bool false,.nil]:=by rw [f];simp [z7]
   exact wp (h:=wx g (i+1) ⟨wg,wn,wn,wn,wn,(by simp [go_sem,Y,wH,a,tyA,tyU,NodeTy.c,Attr.c,s7,cS,dI]),wn,wj,aD,(by exact u0 _ _)⟩)
 .have hN:i=rM ns:=by unfold rM;omega
  refine wv (h:=l9 (Ghosts.step (Ghosts.refl _) 1 0 1 143 7 _ _ (l) rfl rfl rfl) (λk e H=>∃ j:Nat,(e 0=.list (ns.map cP)/\e 1=.list (es.map cP)/\e 4=.ptr 0 1 0 0/\e 5=.ptr 1 1 0 0/\e 10=dI k)/\(H.get 0=some ⟨25,2,[[.nil,.nil]],false⟩)/\(0<H.next)/\(H.get 1=some ⟨25,2,[[.own 2 i,.own j k]],false⟩)/\(1<H.next)/\(H.get 2=some ⟨141,4,w5 ns i,false⟩)/\(2<H.next)/\(H.get j=some ⟨143,7,(w6 i es k).map EdgeTy.c,false⟩)/\(j<H.next)/\(k<=5)/\(k<=es.length)/\(j≠0)/\(j≠1)/\(j≠2)/\((w6 i es k).length=k)) (λk=>5 - k) 0 ⟨H.next,wg,wn,wn,wn,wn,wn,wn,(by simp [go_sem,w6,Y]),wn,wi,wi,aD,aD,aD,(by exact CL _ _ _)⟩ λI3 S k e H R=>?_);obtain ⟨j,E3,I,w,G,u,E,q,D,p,hk,a2,V,U,T,P⟩:=R;have Y:=xa4 Y E3 I (bS w) G (xb0 (bS u) E (bS q) D (bS p) P V U T V.symm U.symm T.symm);refine iY (λC=>?_) λC=>?_
  .obtain ⟨x,f⟩:=dH (qU es k);have m:k<es.length/\k<5:=aD;have b:es[k]'m.1=x:=by rw [<- f];simp [qU,aA m.1]
   have B:0<i:=by rw [hN];unfold rM;omega
   have N:=lA x.1;have M:=lA x.2;have z:(⟨#[101,102,103,104,105]⟩:ByteArray).size=5:=rfl;have L:=Sk H.next;have Y:=xa5 Y C (aA m.1) b @cP.eq_1 z L;exact wp (h:=wx S (k+1) ⟨j,wg,wn,wn,wn,wn,wn,wn,(by simp [go_sem,Y,QZ,Ux,f,tyE,EdgeTy.c,dI]),wn,wj,wj,wj,wj,wj,(by exact CL _ _ _)⟩)
  .have hK:k=min es.length 5:=aD;refine wv (h:=?_);exact hQ _ _ (by simp [go_sem,Y,qX,<- hN,<- hK,Wd,uX,Types.d,Types.c])
end Go.Abs
end
