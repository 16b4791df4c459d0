/- Layer 15, reference: what Find answers. · law27: ReverseBefo -/
import Derived.Test.YtbgbahlipnaflaaGreatZuAZ
import Derived.Test.YtbgbahlipnaflaaGreatZuAG
import Derived.Test.YtbgbahlipnaflaaGreatZuAV
import Derived.Test.YtbgbahlipnaflaaGreatZuAX
import Derived.Test.YtbgbahlipnaflaaGreatZuAY
import Derived.Test.YtbgbahlipnaflaaGreatZuAQ
import Derived.Test.YtbgbahlipnaflaaGreatZuAS
import Derived.Test.YtbgbahlipnaflaaGreatRows
import Derived.OpenShut
set_option linter.unusedVariables false
set_option linter.unusedSimpArgs false
section
set_option maxRecDepth 100000
set_option maxHeartbeats 4000000
open Go Go.Proofs Tryz
namespace Go.Abs
theorem RY {l:V2}{k:Int}{j:Nat}(h:j<l.length):iA (l++[k]) j=iA l j:=by
 unfold iA;rw [Int.toNat_natCast,aS h]
theorem Wx (l:V2)(k:Int):iA (l++[k]) (l.length:Int)=k:=by
 unfold iA;rw [Int.toNat_natCast];simp
theorem KZ {a b:Host}:∀ {m:Nat} {l r:V2},jT a b m l=some r->(∀ i k:Nat,i<l.length->k<l.length->xM a.i i k=xM b.i (iA l i) (iA l k)) ->
  ∀ i k:Nat,i<r.length->k<r.length->xM a.i i k=xM b.i (iA r i) (iA r k)
 | 0,l,r,h,hl=>by simp only [jT,bH] at h;subst h;exact hl
 | m+1,l,r,h,hl=>by
  simp only [jT] at h;obtain ⟨k,hk,hf⟩:=List.exists_of_findSome?_eq_some h;split at hf
  .rename_i hfit;refine KZ hf λi j hi hj=>?_;unfold B5 at hfit;simp only [aL,decide_eq_true_eq] at hfit;have hall:=b9.1 hfit.2.2.2;have hJ:∀ j:Nat,j<l.length+1->xM a.i j l.length=xM b.i (iA (l++[(k:Int)]) j) k/\xM a.i l.length j=xM b.i k (iA (l++[(k:Int)]) j):=λj hj=>by
    have h1:=hall j (aW.2 hj);unfold F1 at h1;rw [aL,decide_eq_true_eq,decide_eq_true_eq] at h1;exact h1
   have hkk:=Wx l (k:Int);rw [aQ,List.length_singleton] at hi hj;by_cases hil:i=l.length
   .subst hil;rw [hkk];exact (hJ j hj).2
   .by_cases hjl:j=l.length
    .subst hjl;rw [hkk];exact (hJ i hi).1
    .rw [RY aD,RY aD];exact hl i j aD aD
  .cases hf
theorem TB {a b:Host}{m:Nat}{r:V2}(h:jT a b m []=some r)(i k:Nat)(c:i<r.length)(d:k<r.length):(PB a.i i k).length=(PB b.i (iA r i) (iA r k)).length:=by
 have f:=KZ h (λi k c=>absurd c aE) i k c d;have e:=congrArg List.length ((rN a.i i k).trans (f.trans (rN b.i (iA r i) (iA r k)).symm));unfold PB;simpa using e
def R4 (a b:Host):Int:=if 8<a.i.h.length\/8<b.i.h.length then 3 else if (jT a b a.i.h.length []).isSome=true/\a.i.h.length=b.i.h.length then 0 else 10
theorem Oh (t:Types)(f:t.ok)(a b:Host)(i:fM t a=0)(g:fM t b=0)(k:FhG a b)(l:FnC a b) :
  ∃ p:Part,Pua 12 [t.d,a.d,b.d] (.tup [p.d,dI (R4 a b)]):=by
 unfold R4;split
 .rename_i hL;exact ⟨_,Og t f a b i g hL⟩
 .rename_i hL;cases e:jT a b a.i.h.length [] with
  | none =>
   rw [if_neg aE];exact ⟨_,L8 t f a b i g aD aD k l e⟩
  | some r =>
   by_cases c:a.i.h.length=b.i.h.length
   .rw [if_pos ⟨rfl,c⟩];have j:=Ej e;simp only [jQ] at j;exact ⟨_,Of t f a b i g aD c.symm k l r e aD (TB e)⟩
   .rw [if_neg (λh=>c h.2)];exact ⟨_,L7 t f a b i g aD aD k l r e c⟩
theorem TC {a b:Host}{s:Part}(I:HIso a b s)(d:graphF a.i=0)(f:a.i.h.length<=8)(e:b.i.h.length=a.i.h.length):R4 a b=0:=by
 obtain ⟨r,c,_⟩:=I.gk d;unfold R4;rw [if_neg aD,c,if_pos ⟨rfl,e.symm⟩]
theorem zZ (l:List Stp26)(j:l.length<=1000000):Pua 10 [.list (l.map Stp26.c),.list (l.map Stp26.c)] (.bool true):=by
 refine Tz.p0 func10 rfl λQ f Y=>?_;refine sM (h:=bC (λi e H=>(e 0=.list (l.map Stp26.c)/\e 1=.list (l.map Stp26.c)/\e 5=dI i)/\(i<=l.length)) (λi=>l.length - i) 0 ⟨wg,wi⟩ λm d i e H b=>?_);obtain ⟨g,k⟩:=b;have Y:=wa Y g;refine sM (h:=wq (λa=>?_) λa=>?_)
 .have kS:=NS l[i] l[i] (λi _ _=>Ce _) (λi _ _=>Ce _);rw [show decide (l[i]=l[i])=true by simp] at kS;simp only [Stp26.c,Rule.c,Mat.c,Host.c,dN,dP] at kS;have Y:=xa5 Y a (aA a) @Stp26.c.eq_1 @Rule.c.eq_1 @Mat.c.eq_1 @Host.c.eq_1;refine sM (h:=aI (kS) wl ?_);exact sM (h:=wx d (i+1) ⟨wg,wj⟩)
 .have Y:=wa Y a;exact kZ (h:=f _ _ wy)
theorem Gp {g:Graph}(b:graphF g=0)(i j:Int):(∀ x∈Ee g (PB g i j),T1 x)/\(Ee g (PB g i j)).length<=1000:=by
 have d:=(bI b).2;have h:(PB g i j).length<=g.j.length:=Dz g i j g.j.length;refine ⟨λx hx=>?_,by unfold Ee;simp;omega⟩;unfold Ee at hx;rcases aV.1 hx with rfl|hx
 .unfold T1;omega
 .obtain ⟨y,c,rfl⟩:=aX.1 hx;have e:=DA (g:=g) (i:=i) (j:=j) (n:=g.j.length) c;have a:y.toNat<g.j.length:=aD;have f:pH g y=g.j[y.toNat].type:=by unfold pH eA;rw [aA a];rfl
  have:=((dX b).2 _ (aC a)).1;rw [f];unfold T1;omega
def valsI (h:Host):Prop:=∀ v∈h.k,v.length<=1000000000000000/\∀ x∈v,T1 x
theorem fnC {a b:Host}(ha:graphF a.i=0)(hb:graphF b.i=0)(va:valsI a)(vb:valsI b):FnC a b where
 cv i j h1 h2:=Ps (va _ (aC h1)).2 (vb _ (aC h2)).2 (va _ (aC h1)).1 (vb _ (aC h2)).1
 Q i j x y:=Ps (Gp ha i j).1 (Gp hb x y).1 (by have:=(Gp ha i j).2;omega) (by have:=(Gp hb x y).2;omega)
 ae:=by have:=(bI ha).2;omega
 be:=by have:=(bI hb).2;omega
theorem fhG {t:Types}{a b:Host}(ha:HostOk t a)(hb:HostOk t b):FhG a b where
 av:=ha.vl
 bv:=hb.vl
 an:=by have:=(bI ha.gg).1;omega
 bn:=by have:=(bI hb.gg).1;omega
 ae:=by have:=(bI ha.gg).2;omega
 be:=by have:=(bI hb.gg).2;omega
theorem HostOk.valsI {t:Types}{h:Host}(ho:HostOk t h):Go.Abs.valsI h:=λv hv=>⟨by have:=(ho.row v hv).1;omega,λx hx=>by have:=(ho.row v hv).2 x hx;unfold T1;omega⟩
theorem TD {r:Rule}(h:fewR r=true):r.bE:=by
 simp only [fewR,fewP,aL,decide_eq_true_eq] at h;exact ⟨aD,aD,aD⟩
theorem QJ {t:Types}{r:Rule}{h:Host}(a:light26 t r h=true):r.bE:=by
 refine TD ?_;unfold light26 at a;simp only [aL] at a;exact a.1.2
theorem XY {t:Types}{r:Rule}(b:r.ok)(d:sP t r=0):(iQ r).le:=by
 obtain ⟨_,_,a,_⟩:=BS b d;have k1:=a.k1;have k2:=a.k2;have f:=a.i1;have e:=a.i2;exact ⟨⟨aD,aD⟩,⟨aD,aD⟩,(vU _).2 ⟨⟨by simp [iQ,trueC,Cond.map],by simp [iQ,trueC,Cond.map]⟩,λk c=>by simp [iQ,trueC,Cond.u] at c⟩⟩
theorem NI:rule0.le:=⟨⟨by simp [rule0],by simp [rule0]⟩,⟨by simp [rule0],by simp [rule0]⟩,(vU _).2 ⟨⟨by simp [rule0,Cond.map],by simp [rule0,Cond.map]⟩,λk hk=>by simp [rule0,Cond.u] at hk⟩⟩
theorem Wq {t:Types}{r:Rule}(a:r.ok):(FS t r).le:=by
 unfold FS;split
 .rename_i h;exact XY a h
 .exact NI
theorem Vr (t:Types)(r:Rule)(h:Host):(yP t r h).length<=1000000:=by
 unfold yP;split
 .rw [aR];have b:=jF (λm=>rG t r h m.m) (o7 t (iQ r) h).1;have a:=MT t (iQ r) h;omega
 .simp
theorem Bx (t:Types)(r:Rule)(h:Host)(b G:Bool)(q:Rule)(y e:Int)(L:List Stp26)
  (B:Pua 6 [t.d,r.d,h.d] (.bool b))
  (D:b=true->Pua 7 [t.d,r.d] (.tup [q.d,dI y]))
  (u:Pua 6 [t.d,q.d,h.d] (.bool G))
  (F:b=true->Pua 8 [t.d,r.d,h.d] (.tup [.list (L.map Stp26.c),dI e]))
  (A:b=true->Pua 9 [t.d,r.d,h.d] (.tup [.list (L.map Stp26.c),dI e]))
  (z:Pua 10 [.list (L.map Stp26.c),.list (L.map Stp26.c)] (.bool true))
  (C:b=true->∀ i (x:i<L.length),Pua 11 [t.d,.agg L[i].c] (.bool true))
  (E:b=true->h.i.h.length<=8->∀ i (x:i<L.length),∃ p:Part,Pua 12 [t.d,L[i].after.d,h.d] (.tup [p.d,dI 0])):Pua 3 [t.d,r.d,h.d] (.bool true):=by
 refine Tz.pK ⟨λt=>t==7||t==14||t==15,λ_=>[]⟩ func3 rfl (λQ m=>?_);have Y:=xa2 @Host.c.eq_1 @Rule.c.eq_1 @Part.d.eq_1 @Part.c.eq_1;refine kZ (h:=?_);repeat first|intro _|refine ⟨fS,?_⟩
 refine aB (Fc) wl ?_;refine kZ (h:=?_);repeat first|intro _|refine ⟨fS,?_⟩
 refine aH (λk=>B) (λk=>wl) ?_;refine kZ (h:=?_);repeat first|intro _|refine ⟨fS,?_⟩
 refine wq (λf=>?_) λf=>?_
 .refine kZ (h:=aB (Fc) wl ?_);have Y:=wa Y f;exact kZ (h:=m _ _ wy)
 .have hbt:b=true:=by cases l:b<;>simp [l] at f ⊢
  have g:h.i.h.length<=8:=by simp [hbt] at f;omega
  refine kZ (h:=aB (D hbt) wl ?_);refine kZ (h:=?_);repeat first|intro _|refine ⟨fS,?_⟩
  refine aH (λk=>u) (λk=>wl) ?_;refine kZ (h:=?_);repeat first|intro _|refine ⟨fS,?_⟩
  refine wq (λo=>?_) λo=>?_
  .have Y:=xa1 Y f o;exact kZ (h:=m _ _ wy)
  .refine kZ (h:=aB (F hbt) wl ?_);refine kZ (h:=aB (A hbt) wl ?_);refine kZ (h:=?_);repeat first|intro _|refine ⟨fS,?_⟩
   refine aB (z) wl ?_;refine kZ (h:=?_);repeat first|intro _|refine ⟨fS,?_⟩
   refine bC (λi e H=>(e 3=.adr t.c/\e 5=.adr h.c/\e 79=.list (L.map Stp26.c)/\e 80=dI L.length/\e 81=dI i)/\(i<=L.length)) (λi=>L.length - i) 0 ⟨wg,wi⟩ λJ n i e H j=>?_;obtain ⟨I,x⟩:=j;have Y:=wa Y I;refine kZ (h:=wq (λa=>?_) λa=>?_)
   .have cK1:=C hbt i a;obtain ⟨p,w⟩:=E hbt g i a;obtain ⟨s,v⟩:=c6 (L[i]);rw [<- v] at cK1 w;simp only [Stp26.c,Rule.c,Mat.c,Host.c,dN,dP] at cK1;have Y:=xa4 Y a (aA a) (Eq.symm v) @Stp26.c.eq_1 @Mat.c.eq_1;refine kZ (h:=?_);repeat first|intro _|refine ⟨fS,?_⟩
    refine aB (cK1) wl ?_;refine kZ (h:=?_);repeat first|intro _|refine ⟨fS,?_⟩
    refine aB (w) wl ?_;refine kZ (h:=?_);repeat first|intro _|refine ⟨fS,?_⟩
    exact wx n (i+1) ⟨wg,wj⟩
   .have Y:=xa2 Y f o a;exact kZ (h:=m _ _ wy)
theorem A8 (t:Types)(u:∀ n∈t.h,n.r.length<=1000000000000000)(r:Rule)(D:r.le)(h:Host):Pua 3 [t.d,r.d,h.d] (.bool true):=by
 obtain ⟨b,g⟩:=c6 (light26 t r h);have v:=x7 t u r D h;rw [<- g] at v;have c:b=true->(t.ok/\r.ok)/\r.bE:=λl=>by
  rw [l] at g;have x:=g.symm;exact ⟨QK x,QJ x⟩
 by_cases a:r.ok
 .refine Bx t r h b (light26 t (FS t r) h) (FS t r) (sP t r) (JN t r h) (yP t r h) v
   (λq=>Bq t (c q).1.1 r (c q).1.2 (c q).2) (x7 t u _ (Wq a) h)
   (λq=>Hc t (c q).1.1 r (c q).1.2 (c q).2 h) (λq=>LZ t (c q).1.1 r (c q).1.2 (c q).2 h)
   (zZ _ (Vr t r h)) (λq i j=>?_) (λq G i j=>?_)
  .obtain ⟨F,_,_,E⟩:=So a (aC j);have w:=EJ t (c q).1.1 (yP t r h)[i] (by rw [E];exact a) rfl rfl;have g:(decide (lL t (yP t r h)[i].G (yP t r h)[i].L (yP t r h)[i].V=0)&&decide (gI t (yP t r h)[i].G (yP t r h)[i].L (yP t r h)[i].V=(yP t r h)[i]))=true:=F;rw [g] at w;exact w
  .obtain ⟨_,⟨p,I⟩,A,_⟩:=So a (aC j);obtain ⟨m,y,_,_,C⟩:=PF (aC j);have k:=(MJ a C y).2;have e:=nB A;have s:fM t h=0:=by
    have z:=IK y;unfold lL at z;split at z
    .contradiction
    .rename_i hg;exact (w8 (bZ hg)).2
   obtain ⟨B,f⟩:=Oh t (c q).1.1 (yP t r h)[i].after h A s (fhG e k) (fnC e.gg k.gg e.valsI k.valsI);rw [TC I e.gg (by have:=I.nn;omega) I.nn.symm] at f;exact ⟨B,f⟩
 .have hbf:b=false:=by
   cases o:b with
   | false=>rfl
   | true=>exact absurd (c o).1.2 a
  refine Bx t r h b (light26 t rule0 h) rule0 0 0 [] v (λq=>?_) (x7 t u _ NI h) (λq=>?_) (λq=>?_) (zZ [] aE) (λq=>?_) (λq=>?_)<;>(rw [hbf] at q;cases q)
end Go.Abs
end
section
namespace Go.Proofs.YtbgbahlipnaflaaGreat.bulks
open Go.Abs
theorem one_le {H:Type}(d:DataW H):1<=Rows.uptoBulk d:=by
 cases d with
 | lit l=>cases l<;>simp [Rows.uptoBulk]
 | _=>simp [Rows.uptoBulk]
theorem mem_le {H:Type}{d:DataW H}:∀ {l:List (DataW H)},d∈l->Rows.uptoBulk d<=Rows.uptoBulkAll l
 | [],h=>by cases h
 | x :: r,h=>by
  simp only [Rows.uptoBulkAll];rcases aV.1 h with rfl|h
  .omega
  .have:=mem_le h;omega
theorem len_le {H:Type}:∀ l:List (DataW H),l.length<=Rows.uptoBulkAll l
 | []=>by simp [Rows.uptoBulkAll]
 | x :: r=>by have:=one_le x;have:=len_le r;simp only [Rows.uptoBulkAll,eQ];omega
theorem ok {H:Type}:Go.Abs.Bulk (Rows.uptoBulk (H:=H)) where
 len e s:=by have:=len_le e;simp only [Rows.uptoBulk];omega
 el e s d h:=by have:=mem_le h;simp only [Rows.uptoBulk];omega
 part l d h:=by have:=mem_le h;simp only [Rows.uptoBulk];omega
 str s:=by simp [Rows.uptoBulk]
theorem bound {H:Type}{l:List (DataW H)}(hk:Rows.uptoSmall H l=true):∀ d∈l,Rows.uptoBulk d<=1048576:=λd hd=>by
 have h:=of_decide_eq_true hk;have:=mem_le hd;omega
end Go.Proofs.YtbgbahlipnaflaaGreat.bulks
end
section
set_option maxRecDepth 100000
set_option maxHeartbeats 4000000
open Go Go.Proofs Tryz
namespace Go.Abs
section
variable {H:Type} {enc:TypeId × Value→H} {P:Program} {w:World} {base:Nat} {spare:Nat→Bool} {held:Bool} {bulk:DataW H→Nat} {B:Nat} {n:Nat} {t:TypeId}
end
section
variable {H:Type} {enc:TypeId × Value→H} {w:World} {base:Nat} {spare:Nat→Bool} {held:Bool} {bulk:DataW H→Nat} {B:Nat}
theorem op4:∀ n,Opens enc prog w base spare held bulk B n 4 (λb:Bool=>[D.bool b]) (λ_=>True):=λn=>QD underlying4
end
mutual
def Cond.ck (B:Nat):Cond→Prop
 | .mk k l m p=>(m.h.length≤B∧m.j.length≤B)∧Cond.dn B l
def Cond.dn (B:Nat):List Cond→Prop
 | []=>True
 | c :: l=>c.ck B∧Cond.dn B l
end
theorem JW (B:Nat)(l:List Cond):Cond.dn B l↔∀ c∈l,c.ck B:=by
 induction l with
 | nil=>simp [Cond.dn]
 | cons a l ih=>simp [Cond.dn,ih]
theorem DM (B:Nat)(c:Cond):c.ck B↔(c.map.h.length<=B/\c.map.j.length<=B)/\∀ k∈c.u,k.ck B:=by cases c;simp [Cond.ck,JW,Cond.u,Cond.map]
theorem Cond.df {B:Nat}(e:B<=1000000000000000):∀ c:Cond,c.ck B->c.le:=by
 refine jU λc b h=>?_;obtain ⟨f,d⟩:=(DM B c).1 h;exact (vU c).2 ⟨⟨aD,aD⟩,λk a=>b k a (d k a)⟩
def Rule.ck (B:Nat)(x:Rule):Prop:=(x.q.h.length<=B/\x.q.j.length<=B)/\(x.s.h.length<=B/\x.s.j.length<=B)/\x.cond.ck B
theorem Rule.df {B:Nat}(a:B<=1000000000000000){r:Rule}(h:r.ck B):r.le:=by
 obtain ⟨⟨f,e⟩,⟨d,c⟩,b⟩:=h;exact ⟨⟨aD,aD⟩,⟨aD,aD⟩,Cond.df a _ b⟩
section
variable {H:Type} {enc:TypeId × Value→H} {w:World} {base:Nat} {spare:Nat→Bool} {held:Bool} {bulk:DataW H→Nat} {B:Nat}
theorem Z7 (hB:Bulk bulk):∀ n,Opens enc prog w base spare held bulk B n 9 cS (λ_=>True):=λn=>(Mc hB underlying9).map id (λ_=>rfl) (λ_ _=>trivial)
theorem Ks:∀ n,Opens enc prog w base spare held bulk B n 3 cI (λ_=>True):=λn=>(Ta underlying3).map id (λ_=>rfl) (λ_ _=>trivial)
theorem aeE (hB:Bulk bulk):∀ n,Opens enc prog w base spare held bulk B n 86 (λl:List ByteArray=>[D.list (l.map cS)]) (λl=>l.length<=B/\∀ a∈l,(λ_=>True) a)
 | 0=>Opens.zero
 | n+1=>j4 hB underlying86 (Z7 hB n)
theorem aeD (hB:Bulk bulk):∀ n,Opens enc prog w base spare held bulk B n 88 Attr.c (λ_=>True)
 | 0=>Opens.zero
 | n+1=>(fO hB underlying88 (by kernel_rfl) (bL (Z7 hB n) (bL (Ks n) (bL (Ks n) (bL (aeE hB n) gZ))))).map (λp=>⟨p.1,p.2.1,p.2.2.1,p.2.2.2.1⟩) (λp=>rfl) (λp h=>trivial)
theorem aeF (hB:Bulk bulk):∀ n,Opens enc prog w base spare held bulk B n 83 (λl:List Attr=>[D.list (l.map Attr.c)]) (λl=>l.length<=B/\∀ a∈l,(λ_=>True) a)
 | 0=>Opens.zero
 | n+1=>j4 hB underlying83 (aeD hB n)
theorem aaE (hB:Bulk bulk):∀ n,Opens enc prog w base spare held bulk B n 141 NodeTy.c (λx=>x.r.length<=B)
 | 0=>Opens.zero
 | n+1=>(fO hB underlying141 (by kernel_rfl) (bL (Z7 hB n) (bL (Ks n) (bL (op4 n) (bL (aeF hB n) gZ))))).map (λp=>⟨p.1,p.2.1,p.2.2.1,p.2.2.2.1⟩) (λp=>rfl) (λp h=>h.2.2.2.1.1)
theorem aeP (hB:Bulk bulk):∀ n,Opens enc prog w base spare held bulk B n 22 (λl:List NodeTy=>[D.list (l.map NodeTy.c)]) (λl=>l.length<=B/\∀ a∈l,(λx=>x.r.length<=B) a)
 | 0=>Opens.zero
 | n+1=>j4 hB underlying22 (aaE hB n)
theorem aaD (hB:Bulk bulk):∀ n,Opens enc prog w base spare held bulk B n 143 EdgeTy.c (λ_=>True)
 | 0=>Opens.zero
 | n+1=>(fO hB underlying143 (by kernel_rfl) (bL (Z7 hB n) (bL (Ks n) (bL (Ks n) (bL (Ks n) (bL (Ks n) (bL (Ks n) (bL (Ks n) gZ)))))))).map (λp=>⟨p.1,p.2.1,p.2.2.1,p.2.2.2.1,p.2.2.2.2.1,p.2.2.2.2.2.1,p.2.2.2.2.2.2.1⟩) (λp=>rfl) (λp h=>trivial)
theorem aeO (hB:Bulk bulk):∀ n,Opens enc prog w base spare held bulk B n 23 (λl:List EdgeTy=>[D.list (l.map EdgeTy.c)]) (λl=>l.length<=B/\∀ a∈l,(λ_=>True) a)
 | 0=>Opens.zero
 | n+1=>j4 hB underlying23 (aaD hB n)
theorem aeN (hB:Bulk bulk):∀ n,Opens enc prog w base spare held bulk B n 25 Types.c (λx=>x.h.length<=B/\x.j.length<=B/\∀ n∈x.h,n.r.length<=B)
 | 0=>Opens.zero
 | n+1=>(fO hB underlying25 (by kernel_rfl) (bL (aeP hB n) (bL (aeO hB n) gZ))).map (λp=>⟨p.1,p.2.1⟩) (λp=>rfl) (λp h=>⟨h.1.1,h.2.1.1,h.1.2⟩)
theorem Tb (hB:Bulk bulk):∀ n,Opens enc prog w base spare held bulk B n 26 (λl:V2=>[D.list (l.map cI)]) (λl=>l.length<=B/\∀ a∈l,(λ_=>True) a)
 | 0=>Opens.zero
 | n+1=>j4 hB underlying26 (Ks n)
theorem aaC (hB:Bulk bulk):∀ n,Opens enc prog w base spare held bulk B n 145 Edge.c (λ_=>True)
 | 0=>Opens.zero
 | n+1=>(fO hB underlying145 (by kernel_rfl) (bL (Ks n) (bL (Ks n) (bL (Ks n) gZ)))).map (λp=>⟨p.1,p.2.1,p.2.2.1⟩) (λp=>rfl) (λp h=>trivial)
theorem aeM (hB:Bulk bulk):∀ n,Opens enc prog w base spare held bulk B n 27 (λl:List Edge=>[D.list (l.map Edge.c)]) (λl=>l.length<=B/\∀ a∈l,(λ_=>True) a)
 | 0=>Opens.zero
 | n+1=>j4 hB underlying27 (aaC hB n)
theorem aaA (hB:Bulk bulk):∀ n,Opens enc prog w base spare held bulk B n 29 Graph.c (λx=>x.h.length<=B/\x.j.length<=B)
 | 0=>Opens.zero
 | n+1=>(fO hB underlying29 (by kernel_rfl) (bL (Tb hB n) (bL (aeM hB n) gZ))).map (λp=>⟨p.1,p.2.1⟩) (λp=>rfl) (λp h=>⟨h.1.1,h.2.1.1⟩)
theorem Uz (hB:Bulk bulk):∀ n,Opens enc prog w base spare held bulk B n 100 Term.c (λ_=>True)
 | 0=>Opens.zero
 | n+1=>(fO hB underlying100 (by kernel_rfl) (bL (Ks n) (bL (Ks n) gZ))).map (λp=>⟨p.1,p.2.1⟩) (λp=>rfl) (λp h=>trivial)
theorem aaF (hB:Bulk bulk):∀ n,Opens enc prog w base spare held bulk B n 102 Slot.c (λ_=>True)
 | 0=>Opens.zero
 | n+1=>(fO hB underlying102 (by kernel_rfl) (bL (Ks n) (bL (Ks n) (bL (Uz hB n) gZ)))).map (λp=>⟨p.1,p.2.1,p.2.2.1⟩) (λp=>by simp [Slot.c,Term.c,cI,dI]) (λp h=>trivial)
theorem aeL (hB:Bulk bulk):∀ n,Opens enc prog w base spare held bulk B n 30 (λl:List Slot=>[D.list (l.map Slot.c)]) (λl=>l.length<=B/\∀ a∈l,(λ_=>True) a)
 | 0=>Opens.zero
 | n+1=>j4 hB underlying30 (aaF hB n)
theorem aaB (hB:Bulk bulk):∀ n,Opens enc prog w base spare held bulk B n 248 Test.c (λ_=>True)
 | 0=>Opens.zero
 | n+1=>(fO hB underlying248 (by kernel_rfl) (bL (Ks n) (bL (Uz hB n) (bL (Uz hB n) gZ)))).map (λp=>⟨p.1,p.2.1,p.2.2.1⟩) (λp=>by simp [Test.c,Term.c,cI,dI]) (λp h=>trivial)
theorem aeK (hB:Bulk bulk):∀ n,Opens enc prog w base spare held bulk B n 31 (λl:List Test=>[D.list (l.map Test.c)]) (λl=>l.length<=B/\∀ a∈l,(λ_=>True) a)
 | 0=>Opens.zero
 | n+1=>j4 hB underlying31 (aaB hB n)
theorem XL (hB:Bulk bulk):∀ n,Opens enc prog w base spare held bulk B n 33 Pattern.c (λ_=>True)
 | 0=>Opens.zero
 | n+1=>(fO hB underlying33 (by kernel_rfl) (bL (aaA hB n) (bL (aeL hB n) (bL (Ks n) (bL (aeK hB n) gZ))))).map (λp=>⟨p.1,p.2.1,p.2.2.1,p.2.2.2.1⟩) (λp=>by simp [Pattern.c,Graph.c,cI,dI]) (λp h=>trivial)
theorem aeJ (hB:Bulk bulk):∀ n,Opens enc prog w base spare held bulk B n 35 Part.c (λx=>x.h.length<=B/\x.j.length<=B)
 | 0=>Opens.zero
 | n+1=>(fO hB underlying35 (by kernel_rfl) (bL (Tb hB n) (bL (Tb hB n) gZ))).map (λp=>⟨p.1,p.2.1⟩) (λp=>rfl) (λp h=>⟨h.1.1,h.2.1.1⟩)
theorem Z9 (hB:Bulk bulk):∀ n,Opens enc prog w base spare held bulk B n 36 Part.c (λx=>x.h.length<=B/\x.j.length<=B)
 | 0=>Opens.zero
 | n+1=>(fO hB underlying36 (by kernel_rfl) (bL (Tb hB n) (bL (Tb hB n) gZ))).map (λp=>⟨p.1,p.2.1⟩) (λp=>rfl) (λp h=>⟨h.1.1,h.2.1.1⟩)
theorem Z8 (hB:Bulk bulk):∀ n,Opens enc prog w base spare held bulk B n 39 Cond.c (λc=>c.ck B)
 | 0=>Opens.zero
 | n+1 =>
  have hk:Opens enc prog w base spare held bulk B n 37 (λl:List Cond=>[D.list (l.map Cond.c)]) (λl=>l.length<=B/\∀ a∈l,Cond.ck B a):=match n with
   | 0=>Opens.zero
   | m+1=>j4 hB underlying37 ((Z8 hB (m+1)).mono (Nat.le_succ m))
  (fO hB underlying39 (by kernel_rfl) (bL (Ks n) (bL hk (bL (Z9 hB n) (bL (XL hB n) gZ))))).map (λp=>Cond.mk p.1 p.2.1 p.2.2.1 p.2.2.2.1) (λp=>by simp [Cond.c,Cond.b6,Part.c,Pattern.c,cI,dI]) (λp h=>(DM B _).2 ⟨h.2.2.1,h.2.1.2⟩)
theorem aeI (hB:Bulk bulk):∀ n,Opens enc prog w base spare held bulk B n 41 Rule.c (λx=>(x.q.h.length<=B/\x.q.j.length<=B)/\(x.s.h.length<=B/\x.s.j.length<=B)/\x.cond.ck B)
 | 0=>Opens.zero
 | n+1=>(fO hB underlying41 (by kernel_rfl) (bL (Z7 hB n) (bL (XL hB n) (bL (XL hB n) (bL (aeJ hB n) (bL (Z9 hB n) (bL (op4 n) (bL (Z8 hB n) gZ)))))))).map (λp=>⟨p.1,p.2.1,p.2.2.1,p.2.2.2.1,p.2.2.2.2.1,p.2.2.2.2.2.1,p.2.2.2.2.2.2.1⟩) (λp=>by simp [Rule.c,Pattern.c,Part.c,Cond.x,cS,cI,dI]) (λp h=>⟨h.2.2.2.1,h.2.2.2.2.1,h.2.2.2.2.2.2.1⟩)
theorem aeH (hB:Bulk bulk):∀ n,Opens enc prog w base spare held bulk B n 42 (λl:Yb=>[D.list (l.map (λl:V2=>[D.list (l.map cI)]))]) (λl=>l.length<=B/\∀ a∈l,(λl=>l.length<=B/\∀ a∈l,(λ_=>True) a) a)
 | 0=>Opens.zero
 | n+1=>j4 hB underlying42 (Tb hB n)
theorem aeG (hB:Bulk bulk):∀ n,Opens enc prog w base spare held bulk B n 44 Host.c (λ_=>True)
 | 0=>Opens.zero
 | n+1=>(fO hB underlying44 (by kernel_rfl) (bL (aaA hB n) (bL (aeH hB n) gZ))).map (λp=>⟨p.1,p.2.1⟩) (λp=>rfl) (λp h=>trivial)
end
end Go.Abs
end
