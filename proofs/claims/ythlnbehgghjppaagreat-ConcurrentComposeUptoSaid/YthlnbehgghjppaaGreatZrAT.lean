/- From a reading of an argument to an abstract value of a type -/
import Derived.Test.YthlnbehgghjppaaGreatZrAE
import Derived.Test.YthlnbehgghjppaaGreatZrAS
import Derived.Test.YthlnbehgghjppaaGreatZrAG
import Derived.Test.YthlnbehgghjppaaGreatZrAA
import Derived.Carry
import Derived.ChangeArms
import Derived.WideShapes
import Derived.DataElems
import Derived.OpenShut
import Derived.Laws.Externs
set_option linter.unusedVariables false
set_option linter.unusedSimpArgs false
section
namespace Go.Abs
open Go.ChangeShapes Go.WideShapes Go.RowKit
structure Bulk {H:Type} (bulk:DataW H->Nat):Prop where
 len:∀ e s,e.length<=bulk (.slice e s)
 el:∀ e s,∀ d∈e,bulk d<=bulk (.slice e s)
 part:∀ l,∀ d∈l,bulk d<=bulk (.agg l)
 str:∀ s:List UInt8,s.length<=bulk (.lit (.string s))
abbrev Sc:Nat->Prop:=λ_=>False
section
variable {H:Type} {enc:TypeId × Value→H} {P:Program} {w:World} {base:Nat} {spare:Nat→Bool} {held:Bool} {bulk:DataW H→Nat} {B:Nat}
def Opens (enc:TypeId × Value->H)(P:Program)(w:World)(base:Nat)(spare:Nat->Bool)(held:Bool)(bulk:DataW H->Nat)(B:Nat)(n:Nat)(t:TypeId){α:Type}(C:α->Xa2)(G:α->Prop):Prop :=
 ∀ (fuel:Nat) (cs:List Value) (x:DataW H × List MemPlace),fuel<=n->DataW.trod enc P w base spare held fuel t cs=some x->bulk x.1<=B ->
  ∃ a,G a/\RepL Sc g8 sD w cs (C a)/\∀ u∈cs,u.oneCell'=true
variable {n:Nat} {t:TypeId}
theorem Opens.mono {α:Type}{C:α->Xa2}{G:α->Prop}{m:Nat}(h:Opens enc P w base spare held bulk B n t C G)(hm:m<=n):Opens enc P w base spare held bulk B m t C G :=
 λfuel cs x hf hx hb=>h fuel cs x (eI hf hm) hx hb
theorem Opens.zero {α:Type}{C:α->Xa2}{G:α->Prop}:Opens enc P w base spare held bulk B 0 t C G:=λfuel cs x hf hx _=>by
 have:fuel=0:=bZ;subst this;simp [DataW.trod] at hx
theorem Opens.map {α β:Type}{C:α->Xa2}{G:α->Prop}{C':β->Xa2}{G':β->Prop}(h:Opens enc P w base spare held bulk B n t C G)(f:α->β)(hC:∀ a,C a=C' (f a))(hG:∀ a,G a->G' (f a)):Opens enc P w base spare held bulk B n t C' G' :=
 λfuel cs x hf hx hb=>by
  obtain ⟨a,h1,h2,h3⟩:=h fuel cs x hf hx hb;exact ⟨f a,hG a h1,by rw [<- hC];exact h2,h3⟩
theorem nX {v:Value}{d:D}(h:RepV Sc g8 sD w v d):RepL Sc g8 sD w [v] [d] :=
 ⟨rfl,λj u x hu hx=>by
  cases j with
  | zero=>simp at hu hx;subst hu;subst hx;exact h
  | succ j=>simp at hu⟩
theorem w6 {a b:List Value}{c d:Xa2}(h:RepL Sc g8 sD w a c)(k:RepL Sc g8 sD w b d):RepL Sc g8 sD w (a++b) (c++d):=by
 refine ⟨by simp [h.len,k.len],λj u x f e=>?_⟩;by_cases g:j<a.length
 .rw [aR g] at f;rw [aR (by rw [<- h.len];exact g)] at e;exact h.ad j u x f e
 .rw [aX bZ] at f;rw [aX (by rw [<- h.len];omega),<- h.len] at e;exact k.ad _ u x f e
theorem QS (ht:P.underlying t=some .bool):Opens enc P w base spare held bulk B n t (λb:Bool=>[D.bool b]) (λ_=>True):=λfuel cs x _ hx _=>by
 obtain ⟨b,rfl,_⟩:=DataW.trod_bool ht hx;exact ⟨b,trivial,nX (.bool b),by simp [Value.oneCell']⟩
theorem KM {k:IntKind}(ht:P.underlying t=some (.int k)):Opens enc P w base spare held bulk B n t (λz:Int=>[D.int k z]) (λz=>(Lit.int k z).wf=true):=λfuel cs x _ hx _=>by
 obtain ⟨z,rfl,_,hw⟩:=DataW.trod_int ht hx;exact ⟨z,hw,nX (.int k z),by simp [Value.oneCell']⟩
theorem MA (hB:Bulk bulk)(ht:P.underlying t=some .string):Opens enc P w base spare held bulk B n t (λs:ByteArray=>[D.str s]) (λs=>s.size<=B):=λfuel cs x _ hx hb=>by
 obtain ⟨s,rfl,rfl,hs⟩:=DataW.trod_string ht hx;refine ⟨s,?_,nX (.str s),by simp [Value.oneCell']⟩;have:=hB.str s.data.toList;have hl:s.data.toList.length=s.size:=by rw [fY];rfl
 simp only at hb;omega
theorem abM {α:Type}{C:α->Xa2}{G:α->Prop}{ad:Addr}{sz:Nat}:∀ (len:Nat),
  (∀ i,i<len->∃ c a,w.cells? base (ad.add (i * sz)) sz=some c/\G a/\RepL Sc g8 sD w c (C a)/\∀ u∈c,u.oneCell'=true) ->
  ∃ (l:List α) (xs:List Value),l.length=len/\(∀ a∈l,G a)/\RepL Sc g8 sD w xs (l.map C).flatten/\(∀ u∈xs,u.oneCell'=true)/\xs.length=len * sz /\
   (∀ (j:Nat) (u:Value),xs[j]?=some u->w.cell? (ad.add j)=some u)/\∀ c∈l.map C,c.length=sz
 | 0,_=>⟨[],[],rfl,by simp,⟨rfl,λj u d hu=>by simp at hu⟩,by simp,by simp,by simp,by simp⟩
 | len+1,h=>by
  obtain ⟨l,xs,h1,h2,h3,h4,h5,h6,h7⟩:=abM len λi hi=>h i bZ;obtain ⟨c,a,hc,hg,hr,h1c⟩:=h len bZ;obtain ⟨_,hcl,hcell⟩:=World.cells?_some hc;refine ⟨l++[a],xs++c,by simp [h1],λb hb=>?_,?_,λu hu=>?_,by rw [aQ,h5,hcl,Nat.succ_mul],λj u hu=>?_,λb hb=>?_⟩
  .rcases bE.1 hb with h|h
   .exact h2 b h
   .simp at h;subst h;exact hg
  .rw [List.map_append,g6];refine w6 h3 ?_;simpa using hr
  .rcases bE.1 hu with h|h
   .exact h4 u h
   .exact h1c u h
  .by_cases hj:j<xs.length
   .rw [aR hj] at hu;exact h6 j u hu
   .rw [aX bZ] at hu;have hlt:j - xs.length<sz:=by rw [<- hcl];exact (aK.1 hu).1
    have:=hcell (j - xs.length) hlt;rw [Addr.add_add,hu] at this;rwa [(bZ:len * sz+(j - xs.length)=j)] at this
  .rw [List.map_append] at hb;rcases bE.1 hb with h|h
   .exact h7 b h
   .simp at h;subst h;rw [<- hr.len,hcl]
theorem jK (hB:Bulk bulk){e:TypeId}(ht:P.underlying t=some (.slice e)){α:Type}{C:α->Xa2}{G:α->Prop}(h:Opens enc P w base spare held bulk B n e C G) :
  Opens enc P w base spare held bulk B (n+1) t (λl:List α=>[.list (l.map C)]) (λl=>l.length<=B/\∀ a∈l,G a):=λfuel cs x hf hx hb=>by
 rcases DataW.trod_slice ht hx with ⟨rfl,rfl⟩|⟨ad,len,cap,elems,rest,m,rfl,rfl,rfl,hbase,hlc,hcap,hlen,hel,_,_⟩
 .exact ⟨[],⟨d9 _,by simp⟩,nX .listN,by simp [Value.oneCell']⟩
 .simp only at hb;have hb1:=hB.len (elems.map (·.1)) (rest.map (·.1));rw [bI] at hb1;obtain ⟨l,xs,h1,h2,h3,h4,h5,h6,h7⟩:=abM (w:=w) (base:=base) (C:=C) (G:=G) (ad:=ad) (sz:=P.cellsOf e) len λi hi=>by
   have:=hel i hi;rw [aA bZ,Option.bind_eq_some_iff] at this;obtain ⟨c,hc,hd⟩:=this;obtain ⟨a,g1,g2,g3⟩:=h m c _ bZ hd (eI (hB.el _ (rest.map (·.1)) _ (aV.2 ⟨_,aC bZ,rfl⟩)) hb);exact ⟨c,a,hc,g1,g2,g3⟩
  refine ⟨l,⟨bZ,h2⟩,nX ?_,by simp [Value.oneCell']⟩;have key:=RepV.list (M:=Sc) (σ:=g8) (N:=sD) (w:=w) ad cap (P.cellsOf e) xs (l.map C) (by rw [bI];omega) hcap h7 h3.len h4 (λj u hu=>⟨λh=>h,h6 j u hu⟩) h3.ad;rw [bI,h1] at key;exact key
def Zy (enc:TypeId × Value->H)(P:Program)(w:World)(base:Nat)(spare:Nat->Bool)(held:Bool)(bulk:DataW H->Nat)(B n:Nat):List TypeId->List Value->Prop
 | [],cs=>cs=[]
 | t :: ts,cs=>(∃ y,DataW.trod enc P w base spare held n t (cs.take (P.cellsOf t))=some y/\bulk y.1<=B)/\Zy enc P w base spare held bulk B n ts (cs.drop (P.cellsOf t))
def Nn (enc:TypeId × Value->H)(P:Program)(w:World)(base:Nat)(spare:Nat->Bool)(held:Bool)(bulk:DataW H->Nat)(B:Nat)(n:Nat)(ts:List TypeId){α:Type}(C:α->Xa2)(G:α->Prop):Prop :=
 ∀ (fuel:Nat) (cs:List Value),fuel<=n->Zy enc P w base spare held bulk B fuel ts cs->∃ a,G a/\RepL Sc g8 sD w cs (C a)/\∀ u∈cs,u.oneCell'=true
theorem fF:Nn enc P w base spare held bulk B n [] (λ_:Unit=>[]) (λ_=>True):=λfuel cs _ h=>by
 have h:cs=[]:=h;subst h;exact ⟨(),trivial,⟨rfl,λj u d hu=>by simp at hu⟩,by simp⟩
theorem bB {ts:List TypeId}{α β:Type}{C:α->Xa2}{G:α->Prop}{C':β->Xa2}{G':β->Prop}(h:Opens enc P w base spare held bulk B n t C G)(k:Nn enc P w base spare held bulk B n ts C' G') :
  Nn enc P w base spare held bulk B n (t :: ts) (λp:α × β=>C p.1++C' p.2) (λp=>G p.1/\G' p.2):=λfuel cs hf hs=>by
 obtain ⟨⟨y,hy,hyb⟩,hs⟩:=hs;obtain ⟨a,a1,a2,a3⟩:=h fuel _ y hf hy hyb;obtain ⟨b,b1,b2,b3⟩:=k fuel _ hf hs;refine ⟨(a,b),⟨a1,b1⟩,?_,λu hu=>?_⟩
 .have:=w6 a2 b2;rwa [List.take_append_drop] at this
 .rw [<- List.take_append_drop (P.cellsOf t) cs] at hu;rcases bE.1 hu with h|h
  .exact a3 u h
  .exact b3 u h
def UG (P:Program):Nat->List Field->Option Nat
 | o,[]=>some o
 | o,f :: r=>if f.offset=o then UG P (o+P.cellsOf f.type) r else none
theorem RR {fuel:Nat}{cs:List Value}:∀ (fs:List Field) (o:Nat),UG P o fs=some cs.length ->
  (∀ f∈fs,∃ y,DataW.trod enc P w base spare held fuel f.type ((cs.drop f.offset).take (P.cellsOf f.type))=some y/\bulk y.1<=B)->o<=cs.length/\Zy enc P w base spare held bulk B fuel (fs.map (·.type)) (cs.drop o)
 | [],o,ho,_=>by
  simp only [UG,aZ] at ho;subst ho;exact ⟨bD _,by show cs.drop cs.length=[];simp⟩
 | f :: fs,o,ho,h=>by
  unfold UG at ho;split at ho
  .rename_i hof;subst hof;obtain ⟨h1,h2⟩:=RR fs _ ho λg hg=>h g (by simp [hg]);refine ⟨bZ,?_⟩;refine ⟨h f eG,?_⟩;rw [List.drop_drop];exact h2
  .cases ho
theorem eF (hB:Bulk bulk){fs:Array Field}(ht:P.underlying t=some (.struct fs))(ho:UG P 0 fs.toList=some (P.cellsOf t)){α:Type}{C:α->Xa2}{G:α->Prop}(h:Nn enc P w base spare held bulk B n (fs.toList.map (·.type)) C G) :
  Opens enc P w base spare held bulk B (n+1) t C G:=λfuel cs x hf hx hb=>by
 obtain ⟨xs,m,rfl,rfl,hcl,hxl,hfl⟩:=DataW.trod_struct ht hx;simp only at hb;have hs:=(RR (enc:=enc) (P:=P) (w:=w) (base:=base) (spare:=spare) (held:=held) (bulk:=bulk) (B:=B) (fuel:=m) (cs:=cs) fs.toList 0 (by rw [hcl];exact ho) λf hfm=>by
  obtain ⟨i,hi,rfl⟩:=aO hfm;have hi':i<fs.size:=by simpa using hi
  have hfi:=hfl i (fs.toList[i]) (by simp [hi']);rw [aA bZ] at hfi;exact ⟨_,hfi,eI (hB.part _ _ (aV.2 ⟨_,aC bZ,rfl⟩)) hb⟩).2
 rw [List.drop_zero] at hs;exact h m cs bZ hs
theorem rU {r:Reach}{s:Nat}{q:Array Field}{v:Value}{d:DataW H}{i:List MemPlace}{α:Type}{C:α->Xa2}{G:α->Prop}(j:P.underlying t=some (.struct q))(h:∀ n,Opens enc P w base spare held bulk B n t C G)
  (c:Value.okWide P w r s t v) (l:DataW.Trod enc P w base spare held t v d i) (o:bulk d<=B):∃ a,G a/\RepV Sc g8 sD w v (.agg (C a)):=by
 obtain ⟨f,rfl,_⟩:=okWide_struct j c;obtain ⟨b,k⟩:=l;obtain ⟨a,p,e,g⟩:=h b b _ _ (bD _) k o;have m:(Value.agg f).cells.toList=f.toList:=rfl;rw [m] at e g;have:=RepV.agg (M:=Sc) (σ:=g8) (N:=sD) (w:=w) f.toList (C a) e.len g e.ad;exact ⟨a,p,by simpa using this⟩
theorem BM (hl:laidOutB P=true){W W':World}{sp':Nat->Bool}(hb:Below W.heap.size W W'):∀ {ts:List TypeId} {vs:List Value} {ds:List (DataW H)} {ps:List MemPlace},(∀ t∈ts,P.readableRec t=true/\t<P.types.size) ->
  DataW.TrodAll enc P W 0 (λ_=>true) true ts vs ds ps->(∀ x∈ps,x.block<W.heap.size)->(∀ x∈ps,sp' x.block=true)->DataW.TrodAll enc P W' 0 sp' true ts vs ds ps
 | [],_,_,_,_,h,_,_=>by
  obtain ⟨rfl,rfl,rfl⟩:=trodAll_nil h;rfl
 | t :: ts,_,_,_,hr,h,hlt,hs=>by
  obtain ⟨v,vs,d,ds,p,q,rfl,rfl,rfl,h1,h2⟩:=trodAll_cons h;refine ⟨p,q,WideElems.Trod_stays hl (hr t eG).1 (hr t eG).2 h1 (λx hx=>hb.same (hlt x (by simp [hx]))) (λx hx=>hs x (by simp [hx])),BM hl hb (λu hu=>hr u (by simp [hu])) h2 (λx hx=>hlt x (by simp [hx])) (λx hx=>hs x (by simp [hx])),rfl⟩
theorem BV (L:laidOutB P=true){f:Func}{s:ChangeSpec}{d n c o:Bool}{W u:World}{args:Array Value}{v:Value}{ds A:List (DataW H)}{e:List MemPlace}
  (K:∀ t∈f.params.toList,P.readableRec t=true/\t<P.types.size) (a:s.vars=[]) (G:DataW.Whole enc P f.params.toList s.vars d W args.toList ds A e)
  (i:∀ (b:Nat) (g:Nat->Bool) (M:Bool),DataW.TrodAll enc P u b g M f.resultTypes.toList (v.resultList f.resultTypes.size) (s.fn H (ds++A)).results [])
  (l:(s.fn H (ds++A)).args=ds) (B:(s.fn H (ds++A)).vars=[]) (D:Below W.heap.size W u)
  (C:∀ (j:Nat) (t:TypeId) (r:Value),f.resultTypes[j]?=some t->(v.resultList f.resultTypes.size)[j]?=some r->Value.okWide P u .any 0 t r) :
  s.post enc P f d n c o W args v u:=by
 have m:=G;obtain ⟨p,q,N,I,rfl,E,F⟩:=G;rw [a] at I;obtain ⟨rfl,rfl⟩:=trodVars_none I;rw [cZ] at m E F;have k:∀ x∈p,x.block<W.heap.size:=λx h=>by simpa using m.lt x h
 have z:∀ g:Nat->Bool,(∀ x∈p,g x.block=true)->DataW.TrodAll enc P u 0 g true f.params.toList args.toList (s.fn H (ds++[])).args p:=λg J=>by
  rw [l];exact BM L D K N k J
 have y:∀ g:Nat->Bool,DataW.TrodVars enc P u g s.vars (s.fn H (ds++[])).vars []:=λg=>by rw [a,B];rfl
 refine ⟨ds,[],p,[],p,[],m,i _ _ _,z _ (λx h=>by simpa using k x h),y _,World.keptBut_mono (λx h=>⟨h,.inr (eL h)⟩) (D.frame (·∈p)),λ_=>?_⟩;refine ⟨C,_,_,([]++p)++[],⟨[]++p,[],trodAll_append (z _ (λ_ _=>rfl)) (i _ _ _),y _,rfl,?_,?_⟩,?_⟩
 .intro b off hp;have w:MemPlace.cell b off∈p:=by simpa using hp
  have:=E b off w;rw [<- this];exact D.frozen (k _ w)
 .intro ha;simpa using F ha
 .intro x h _;simpa using h
end
end Go.Abs
end
section
set_option maxRecDepth 100000
set_option maxHeartbeats 4000000
open Go Go.Proofs Tryz
namespace Go.Abs
section
variable {H:Type} {enc:TypeId × Value→H} {P:Program} {w:World} {base:Nat} {spare:Nat→Bool} {held:Bool} {bulk:DataW H→Nat} {B:Nat} {n:Nat} {t:TypeId}
end
section
variable {H:Type} {enc:TypeId × Value→H} {w:World} {base:Nat} {spare:Nat→Bool} {held:Bool} {bulk:DataW H→Nat} {B:Nat}
theorem op4:∀ n,Opens enc prog w base spare held bulk B n 4 (λb:Bool=>[D.bool b]) (λ_=>True):=λn=>QS underlying4
end
theorem TI (t:Types)(q:t.ok)(a:Int)(y:0<=a)(vs:Xa0):Pua 231 [t.d,dI a,dLI vs] (dI (i4 t a vs)):=by
 refine Tz.pK ⟨λt=>t==10,λ_=>[]⟩ func231 rfl (λQ i=>?_);have Y:=trivial;refine wv (h:=?_);repeat first|intro _|refine ⟨iF,?_⟩
 refine wq (λw=>?_) λw=>?_
 .have hE:i4 t a vs=6:=by unfold i4;rw [if_pos bZ]
  exact wv (h:=i _ _ (by simp [go_sem,hE]))
 .have hkn:a.toNat<t.h.length:=bZ;have u:zT t a.toNat=t.h[a.toNat].d2:=by simp [zT,aA hkn]
  have b:i4 t a vs=if zT t a.toNat=true then 13 else if vs.length≠(bV t a).length then 20 else bS (Dt (bV t a) vs) 0 (bV t a).length:=by unfold i4;rw [if_neg bZ]
  rw [u] at b;have Y:=xa1 Y (aA hkn) @NodeTy.c.eq_1;refine wv (h:=?_);repeat first|intro _|refine ⟨iF,?_⟩
  refine wq (λn=>?_) λn=>?_
  .rw [if_pos (eL n)] at b;exact wv (h:=i _ _ (by simp [go_sem,b]))
  .rw [if_neg (eL n)] at b;refine wv (h:=aB (r8 t q a) wl ?_);refine wv (h:=?_);repeat first|intro _|refine ⟨iF,?_⟩
   refine wq (λv=>?_) λv=>?_
   .rw [if_pos bZ] at b;exact wv (h:=i _ _ (by simp [go_sem,b]))
   .rw [if_neg bZ] at b;have r:vs.length=(bV t a).length:=bZ;refine wo (h:=bC (λk e H=>(e 3=.adr t.c/\e 2=dLI vs/\e 33=.list ((bV t a).map Attr.c)/\e 34=dI (bV t a).length/\e 35=dI k)/\(k<=(bV t a).length)/\(bS (Dt (bV t a) vs) k ((bV t a).length - k)=i4 t a vs)) (λk=>(bV t a).length - k) 0 ⟨wg,wi,(by exact b.symm)⟩ λz m k e H l=>?_);obtain ⟨x,s,p⟩:=l;have Y:=wa Y x;refine c8 (λj=>?_) λj=>?_
    .have hv:k<vs.length:=bZ;have f:=fE (Dt (bV t a) vs) j;rw [p] at f;have g:Dt (bV t a) vs k=if vs[k]<(bV t a)[k].ax\/(bV t a)[k].ay<vs[k] then 6 else 0:=by simp only [Dt,aA hv,aA j,aD]
     have Y:=xa3 Y j (aA hv) (aA j) @Attr.c.eq_1;refine wv (h:=?_);repeat first|intro _|refine ⟨iF,?_⟩
     refine wq (λo=>?_) λo=>?_
     .rw [if_pos bZ] at g;rw [g,if_pos bZ] at f;exact wv (h:=i _ _ (by simp [go_sem,f]))
     .rw [if_neg bZ] at g;rw [g,if_neg bZ] at f;exact wo (h:=wx m (k+1) ⟨wg,wj,(by exact f.symm)⟩)
    .have hZ:i4 t a vs=0:=by rw [<- p,(bZ:(bV t a).length - k=0)];rfl
     exact wv (h:=i _ _ (by simp [go_sem,hZ]))
theorem Cr (t:Types)(w:t.ok)(h:Host):Pua 147 [t.d,h.d] (.tup [dI (pR t h).1,dI (pR t h).2]):=by
 refine Tz.pK ⟨λt=>t==13,λ_=>[]⟩ func147 rfl (λQ l=>?_);have Y:=wa @Host.d.eq_1 @Host.c.eq_1;refine wv (h:=aB (mD t w) wl ?_);refine c8 (λD=>?_) λD=>?_
 .have hE:pR t h=(-1,(cQ t).2):=by unfold pR;rw [if_pos (eL D)]
  exact wv (h:=l _ _ (by simp [go_sem,hE]))
 .have hE0:pR t h=if graphF h.j≠0 then (-1,graphF h.j) else if h.k.length≠h.j.h.length then (-1,20) else if (iM (Io t h) 0 h.j.h.length).2≠0 then iM (Io t h) 0 h.j.h.length else iM (TJ t h) 0 h.j.i.length:=by unfold pR;rw [if_neg (eL D)]
  refine wv (h:=aB (lK h.j) wl ?_);refine c8 (λs=>?_) λs=>?_
  .rw [if_pos (eL s)] at hE0;exact wv (h:=l _ _ (by simp [go_sem,hE0]))
  .rw [if_neg (eL s)] at hE0;have q:graphF h.j=0:=by simpa using s
   have p:=dO q;have I:=aY q;refine dW (λJ=>?_) λJ=>?_
   .rw [if_pos bZ] at hE0;exact wv (h:=l _ _ (by simp [go_sem,hE0]))
   .rw [if_neg bZ] at hE0;refine wo (h:=bC (λi e H=>(e 2=.adr t.c/\e 3=.adr h.c/\e 38=dLI h.j.h/\e 39=dI h.j.h.length/\e 40=dI i)/\(i<=h.j.h.length)/\(iM (Io t h) i (h.j.h.length - i)=iM (Io t h) 0 h.j.h.length)) (λi=>h.j.h.length - i) 0 ⟨wg,wi,(by rfl)⟩ λP C i e H A=>?_);obtain ⟨L,N,G⟩:=A;have Y:=wa Y L;refine c8 (λg=>?_) λg=>?_
    .have hv:i<h.k.length:=bZ;have y:0<=h.j.h[i]:=(p.1 _ (aC g)).1;have a:=tI (Io t h) g;rw [G] at a;have r:Io t h i=i4 t h.j.h[i] h.k[i]:=by simp only [Io,aA hv,aA g,aD]
     have Y:=xa3 Y g (aA hv) (aA g) @cL.eq_1;refine wo (h:=aI (TI t w h.j.h[i] y h.k[i]) wl ?_);refine dW (λk=>?_) λk=>?_
     .rw [r,if_pos (eL k)] at a;rw [a,if_pos (eL k)] at hE0;exact wv (h:=l _ _ (by simp [go_sem,hE0]))
     .rw [r,if_neg (eL k)] at a;exact wo (h:=wx C (i+1) ⟨wg,wj,(by exact a.symm)⟩)
    .have hN0:iM (Io t h) 0 h.j.h.length=(-1,0):=by rw [<- G,(bZ:h.j.h.length - i=0)];rfl
     rw [hN0,if_neg eG] at hE0;refine wo (h:=bC (λj e H=>(e 2=.adr t.c/\e 3=.adr h.c/\e 60=.list (h.j.i.map Edge.c)/\e 61=dI h.j.i.length/\e 62=dI j)/\(j<=h.j.i.length)/\(iM (TJ t h) j (h.j.i.length - j)=pR t h)) (λj=>h.j.i.length - j) 0 ⟨wg,wi,(by exact hE0.symm)⟩ λO B j e H z=>?_);obtain ⟨K,M,F⟩:=z;have Y:=wa Y K;refine c8 (λf=>?_) λf=>?_
     .obtain ⟨x,v⟩:=fH (h.j.i[j]);have u:=(p.2 _ (aC f)).2;rw [<- v] at u;have o:x.B.toNat<h.j.h.length:=bZ;have n:x.O.toNat<h.j.h.length:=bZ;have a:=tI (TJ t h) f;rw [F] at a;have b:TJ t h j=if (t.i.length:Int)<=x.type then 6 else if oR t x.type h.j.h[x.B.toNat] h.j.h[x.O.toNat]=true then 0 else 13:=by simp only [TJ,gN,aA f,aD,<- v,aA o,aA n]
      have Y:=xa4 Y f (aA f) (Eq.symm v) (aA o) (aA n);refine dW (λE=>?_) λE=>?_
      .rw [if_pos bZ] at b;rw [b,if_pos bZ] at a;exact wv (h:=l _ _ (by simp [go_sem,a]))
      .rw [if_neg bZ] at b;refine wo (h:=aI (G0 t w x.type h.j.h[x.B.toNat] h.j.h[x.O.toNat]) wl ?_);refine dW (λm=>?_) λm=>?_
       .rw [if_neg (eL m)] at b;rw [b,if_pos bZ] at a;exact wv (h:=l _ _ (by simp [go_sem,a]))
       .rw [if_pos (eL m)] at b;rw [b,if_neg bZ] at a;exact wo (h:=wx B (j+1) ⟨wg,wj,(by exact a.symm)⟩)
     .have hZ:pR t h=(-1,0):=by rw [<- F,(bZ:h.j.i.length - j=0)];rfl
      exact wv (h:=l _ _ (by simp [go_sem,hZ]))
end Go.Abs
end
section
set_option maxRecDepth 60000
set_option maxHeartbeats 4000000
open Go Go.Proofs Tryz
namespace Go.Abs
def Sk (s:Int):Int:=if s<0 then -1 else 0
def OY (s:Int):Int:=s % 18446744073709551616
theorem T6 (x y:Int)(b:0<=x)(a:0<=y)(w:World):(callFunc 403 #[.int .u64 x,.int .u64 y,.int .u64 0]).run prog w =
  .ok (.value (.tuple #[.int .u64 ((x+y+0) % 18446744073709551616),.int .u64 ((x+y+0) / 18446744073709551616)])) w:=by
 rw [run_callFunc_extern func403 (by kernel_rfl) (by kernel_rfl) (by kernel_rfl) (e:=add64Entry) (by kernel_rfl),run_add64 x y 0 b a bZ bZ];rfl
open RowKit in
theorem Qa (a b:Int)(j : -4000000<=a/\a<=4000000)(i : -4000000<=b/\b<=4000000)(w:World) :
  Calls prog 391 #[.int .i64 a,.int .i64 b] w λe w'=>e=.returned (.tuple #[.int .i64 (Sk (a+b)),.int .u64 (OY (a+b))])/\w'=w:=by
 have h:=T6 (IntKind.u64.wrap a) (IntKind.u64.wrap b) (by rw [IntKind.wrap_u64];omega) (by rw [IntKind.wrap_u64];omega) w;simp only [Int.add_zero] at h
 go_enter func391,ntmps391
 go_wp2
 have d:IntKind.u64.wrap a=if a<0 then a+18446744073709551616 else a:=by rw [IntKind.wrap_u64];split<;>omega
 have c:IntKind.u64.wrap b=if b<0 then b+18446744073709551616 else b:=by rw [IntKind.wrap_u64];split<;>omega
 have g:wrap64 (a / 9223372036854775808+b / 9223372036854775808+wrap64 ((IntKind.u64.wrap a+IntKind.u64.wrap b) / 18446744073709551616))=Sk (a+b):=by
  rw [d,c];unfold Sk wrap64
  repeat' split
  all_goals omega
 have f:(IntKind.u64.wrap a+IntKind.u64.wrap b) % 18446744073709551616=OY (a+b):=by
  rw [d,c];unfold OY
  repeat' split
  all_goals omega
 rw [g,f]
 go_ret2
 exact ⟨rfl,rfl⟩
theorem zM (a b:Int)(o : -4000000<=a/\a<=4000000)(n : -4000000<=b/\b<=4000000):Pua 391 [dI a,dI b] (.tup [dI (Sk (a+b)),.int .u64 (OY (a+b))]):=by
 refine ⟨⟨Tryz.f391,func391,rfl,rfl⟩,λM w c s h=>?_⟩;have l:c=[.int .i64 a,.int .i64 b]:=by
  obtain ⟨m,k⟩:=h;match c,m with
  | [x,y],_ =>
   have q:=k 0 x _ rfl rfl;have i:=k 1 y _ rfl rfl;cases q
   cases i
   rfl
 subst l;exact (Qa a b o n w).mono λe r ⟨i,p⟩=>⟨_,i,.tup _ _ rfl (λj u d f g=>by
  match j with
  | 0=>simp at f g;subst f;subst g;exact .int _ _
  | 1=>simp at f g;subst f;subst g;exact .int _ _
  | j+2=>simp at f),by subst p;exact ⟨rfl,rfl,rfl,bD _,λ_ _=>rfl⟩⟩
theorem vT (x:Term)(vs:Xa0)(g:q7 x vs.length)(i:Sm vs):Pua 390 [.agg x.c,.adr [dLI vs]] (.tup [dI (Sk (dH x vs)),.int .u64 (OY (dH x vs)),.bool true]):=by
 have a:=g;obtain ⟨⟨o,n⟩,m,l⟩:=a;refine Tz.p0 func390 rfl λQ d _=>?_;have Y:=@Term.c.eq_1;refine c8 (λk=>?_) λk=>?_
 .have b:dH x vs=0+x.add:=by unfold dH;rw [if_pos bZ];omega
  refine wv (h:=aB (zM 0 x.add bZ bZ) wl ?_);exact wv (h:=d _ _ (by simp [go_sem,b]))
 .have hk:x.R.toNat<vs.length:=bZ;have j:=i.get hk;have b:dH x vs=vs[x.R.toNat]+x.add:=by unfold dH;rw [if_neg bZ,aA hk];rfl
  have f:¬ x.R<0:=bZ;have e:¬ (vs.length:Int)<=x.R:=bZ;have Y:=xa2 Y (aA hk) f e;refine wo (h:=aI (zM vs[x.R.toNat] x.add j bZ) wl ?_);exact wo (h:=d _ _ (by simp [go_sem,b]))
theorem IS (a:Int):Pua 404 [.int .u64 a] (.bool false):=by
 refine Tz.p0 func404 rfl λQ b Y=>?_;exact wv (h:=b _ _ wy)
theorem M3 (a b:Int):Pua 394 [.int .u64 a,.int .u64 b] (dI (cmp1 a b)):=by
 refine Tz.p0 func394 rfl λQ e Y=>?_;refine wv (h:=aB (IS a) wl ?_);refine wv (h:=aB (IS b) wl ?_);refine c8 (λd=>?_) λd=>?_
 .have Y:=xa1 Y d @cmp1.eq_1;exact wv (h:=e _ _ wy)
 .refine c8 (λc=>?_) λc=>?_
  .have Y:=xa2 Y d c @cmp1.eq_1;exact wv (h:=e _ _ wy)
  .have Y:=xa2 Y d c @cmp1.eq_1;exact wv (h:=e _ _ wy)
def Wv (a b:Int):Int:=VZ [cmp1 (Sk a) (Sk b),cmp1 (OY a) (OY b)]
theorem Wu {a b:Int}(f : -10000000<=a/\a<=10000000)(e : -10000000<=b/\b<=10000000):Wv a b=if a<b then -1 else if b<a then 1 else 0:=by
 have d:OY a=if a<0 then a+18446744073709551616 else a:=by unfold OY;split<;>omega
 have c:OY b=if b<0 then b+18446744073709551616 else b:=by unfold OY;split<;>omega
 unfold Wv;simp only [VZ,cmp1,Sk,d,c]
 repeat' split
 all_goals omega
theorem G5 {x:Term}{vs:Xa0}(a:q7 x vs.length)(b:Sm vs) : -10000000<=dH x vs/\dH x vs<=10000000:=by
 obtain ⟨⟨g,f⟩,e,d⟩:=a;unfold dH;split
 .omega
 .have hk:x.R.toNat<vs.length:=bZ;have c:=b.get hk;rw [aA hk,aD];omega
theorem xY (x:Test)(vs:Xa0)(i:Jh x vs.length)(b:Sm vs):Pua 360 [.agg x.c,dLI vs] (.bool (By x vs)):=by
 obtain ⟨m,f,d⟩:=i;have g:=Wu (G5 f b) (G5 d b);have a:Wv (dH x.left vs) (dH x.right vs)=VZ [cmp1 (Sk (dH x.left vs)) (Sk (dH x.right vs)),cmp1 (OY (dH x.left vs)) (OY (dH x.right vs))]:=rfl;obtain ⟨o,j⟩:=fH (Wv (dH x.left vs) (dH x.right vs));rw [<- j] at g a;have k:By x vs=(decide (x.F=1)&&decide (o<=0)||decide (x.F=2)&&decide (o=0)):=by
  unfold By;rw [g,aU];simp;constructor
  .rintro (⟨h1,h2⟩|⟨h1,h2⟩)
   .left;refine ⟨h1,?_⟩;split<;>(try split)<;>omega
   .right;refine ⟨h1,?_⟩;rw [h2];simp
  .rintro (⟨h1,h2⟩|⟨h1,h2⟩)
   .left;refine ⟨h1,?_⟩;split at h2<;>(try split at h2)<;>omega
   .right;refine ⟨h1,?_⟩;split at h2<;>(try split at h2)<;>omega
 refine Tz.p0 func360 rfl λQ l _=>?_;have Y:=@Test.c.eq_1;refine wv (h:=?_);refine aB (vT x.left vs f b) wl ?_;refine wv (h:=?_);refine aB (vT x.right vs d b) wl ?_;refine wv (h:=?_);repeat first|intro _|refine ⟨iF,?_⟩
 refine aB (PE (Sk (dH x.left vs)) (Sk (dH x.right vs))) wl ?_;refine wv (h:=?_);repeat first|intro _|refine ⟨iF,?_⟩
 refine aB (M3 (OY (dH x.left vs)) (OY (dH x.right vs))) wl ?_;refine wv (h:=?_);repeat first|intro _|refine ⟨iF,?_⟩
 refine aB ((by have e:=Zm [cmp1 (Sk (dH x.left vs)) (Sk (dH x.right vs)),cmp1 (OY (dH x.left vs)) (OY (dH x.right vs))];rw [<- a] at e;exact e)) wl ?_;refine wv (h:=?_);repeat first|intro _|refine ⟨iF,?_⟩
 exact l _ _ (by simp [go_sem,k]<;>(first|rfl|(rw [aU];simp)))
theorem nB (x:Term)(vs:Xa0)(e:q7 x vs.length)(f:Sm vs):Pua 359 [.agg x.c,dLI vs] (dI (dH x vs)):=by
 have a:=e;obtain ⟨⟨l,k⟩,j,i⟩:=a;refine Tz.p0 func359 rfl λQ b _=>?_;have Y:=@Term.c.eq_1;refine c8 (λd=>?_) λd=>?_
 .exact wv (h:=b _ _ (by simp [go_sem,dH,d]))
 .have hk:x.R.toNat<vs.length:=bZ;have g:=f.get hk;have Y:=wa Y (aA hk);exact wo (h:=b _ _ (by simp [go_sem,dH,(bZ:¬ x.R<0),aA hk]))
theorem oA (x:Term)(vs:Xa0)(d:q7 x vs.length)(e:Sm vs):Pua 317 [.agg x.c,dLI vs] (.tup [dI (dH x vs),dI 0]):=by
 have a:=d;obtain ⟨⟨k,j⟩,i,g⟩:=a;have b:inF x.R (-1) ((vs.length:Int) - 1)=true:=by unfold inF;simp;omega
 refine Tz.p0 func317 rfl λQ f _=>?_;have Y:=wa @Term.c.eq_1 b;refine wo (h:=aB (kF x.R (-1) ((vs.length:Int) - 1)) wl ?_);refine wo (h:=aB (nB x vs d e) wl ?_);exact wo (h:=f _ _ wy)
end Go.Abs
end
section
set_option maxRecDepth 100000
set_option maxHeartbeats 4000000
open Go Go.Proofs Tryz
namespace Go.Abs
theorem Hh (t:Types)(a:Int):Pua 361 [dI a,.adr t.c] (.bool (decide ((t.h.length:Int)<=a))):=by
 refine Tz.p0 func361 rfl λQ b Y=>?_;exact wo (h:=b _ _ wy)
theorem Hg (t:Types)(x:Edge):Pua 362 [.agg x.c,.adr t.c] (.bool (decide ((t.i.length:Int)<=x.type))):=by
 refine Tz.p0 func362 rfl λQ a Y=>?_;exact wo (h:=a _ _ wy)
theorem BP (t:Types)(g:Graph):Pua 311 [t.d,g.d] (.bool (eY t g)):=by
 refine Tz.p0 func311 rfl λQ e Y=>?_;refine wo (h:=aB (f5 g.h 361 [.adr t.c] (λa=>decide ((t.h.length:Int)<=a)) (by simp [go_sem]) (by simp [go_sem]) (λa _=>Hh t a)) wl ?_);refine wo (h:=aG (λb=>mS g.i 362 [.adr t.c] (λx=>decide ((t.i.length:Int)<=x.type)) (by simp [go_sem]) (by simp [go_sem]) (λx _=>Hg t x)) (λb=>wl) ?_);exact wo (h:=e _ _ (by simp [go_sem,eY];rw [aU];simp))
theorem Kr (t:Types){g:Graph}(d:graphF g=0):eY t g=nJ t g:=by
 have c:=dO d;have f:(g.h.any λn=>decide ((t.h.length:Int)<=n))=g.h.any λa=>!insideF t a:=by
  rw [aU,bF,bF];constructor<;>rintro ⟨a,b,h⟩<;>refine ⟨a,b,?_⟩<;>have:=c.1 a b<;>simp [insideF] at h ⊢<;>omega
 have e:(g.i.any λx=>decide ((t.i.length:Int)<=x.type))=g.i.any λx=>!pU t x:=by
  rw [aU,bF,bF];constructor<;>rintro ⟨a,b,h⟩<;>refine ⟨a,b,?_⟩<;>have:=(c.2 a b).1<;>simp [pU] at h ⊢<;>omega
 unfold eY nJ;rw [f,e]
def YZ (p g:Graph)(i:Nat):Int:=if i=0 then graphF p else graphF g
theorem YY (p g:Graph):bS (YZ p g) 0 2=if graphF p≠0 then graphF p else if graphF g≠0 then graphF g else 0:=by simp [bS,YZ]
theorem yR (t:Types)(z:t.ok)(p g:Graph):Pua 235 [t.d,p.d,g.d] (dI (gF t p g)):=by
 refine Tz.pK ⟨λt=>t==10,λ_=>[]⟩ func235 rfl (λQ m=>?_);have Y:=trivial;refine wv (h:=aB (mD t z) wl ?_);refine c8 (λs=>?_) λs=>?_
 .have hA:gF t p g=(cQ t).2:=by unfold gF;rw [if_pos (eL s)]
  exact wv (h:=m _ _ (by simp [go_sem,hA]))
 .have hA:gF t p g=if graphF p≠0 then graphF p else if graphF g≠0 then graphF g else if (!nJ t p||!nJ t g)=true then 13 else 0:=by unfold gF;rw [if_neg (eL s)]
  refine wo (h:=bC (λi e H=>(e 3=.adr t.c/\e 4=.adr p.c/\e 5=.adr g.c/\e 22=.list [p.c,g.c]/\e 23=dI 2/\e 24=dI i)/\(i<=2)/\(bS (YZ p g) i (2 - i)=bS (YZ p g) 0 2)) (λi=>2 - i) 0 ⟨wg,wi,(by rfl)⟩ λE r i e H o=>?_);obtain ⟨B,C,u⟩:=o;have Y:=wa Y B;refine c8 (λv=>?_) λv=>?_
  .have hi2:i<2:=bZ;have a:=fE (YZ p g) hi2;rw [u] at a;obtain ⟨x,y,j⟩:∃ x:Graph,[[D.list (p.h.map cI),D.list (p.i.map Edge.c)],[D.list (g.h.map cI),D.list (g.i.map Edge.c)]][i]?=some [D.list (x.h.map cI),D.list (x.i.map Edge.c)]/\YZ p g i=graphF x:=by
    rcases bT i 1 with h|h
    .obtain rfl:i=0:=bZ;exact ⟨p,rfl,rfl⟩
    .obtain rfl:i=1:=bZ;exact ⟨g,rfl,rfl⟩
   have q:=lK x;have Y:=xa1 Y v y;refine wo (h:=aB (q) wl ?_);refine dW (λn=>?_) λn=>?_
   .have hR:gF t p g=graphF x:=by
     rw [j,if_pos (eL n),YY] at a;rw [hA];by_cases w:graphF p=0
     .rw [if_neg (by simp [w])] at a ⊢;by_cases l:graphF g=0
      .rw [if_neg (by simp [l])] at a;exact absurd a.symm n
      .rw [if_pos l] at a ⊢;exact a
     .rw [if_pos w] at a ⊢;exact a
    exact wv (h:=m _ _ (by simp [go_sem,hR]))
   .rw [j,if_neg (eL n)] at a;exact wo (h:=wx r (i+1) ⟨wg,wj,(by exact a.symm)⟩)
  .have hz:bS (YZ p g) 0 2=0:=by rw [<- u,(bZ:2 - i=0)];rfl
   have f:graphF p=0:=fD _ _ hz 0 bZ bZ;have k:graphF g=0:=fD _ _ hz 1 bZ bZ;rw [if_neg (eL f),if_neg (eL k),<- Kr t f,<- Kr t k] at hA;refine wo (h:=aB (BP t p) wl ?_);refine wo (h:=aG (λA=>BP t g) (λA=>wl) ?_);refine dW (λb=>?_) λb=>?_
   .rw [if_pos (by simpa [qA] using b)] at hA;exact wv (h:=m _ _ (by simp [go_sem,hA]))
   .rw [if_neg (by simpa [qA] using b)] at hA;exact wv (h:=m _ _ (by simp [go_sem,hA]))
/-! ### below -/
def s6 (n:Nat)(l:Xa0):List Bool:=(List.range n).map λ(b:Nat)=>mem l (b:Int)
@[go_sem] theorem TB (n:Nat)(l:Xa0):(s6 n l).length=n:=by simp [s6]
theorem TA (n:Nat):s6 n []=List.replicate n false:=by
 apply iE (by simp [s6]);intro i b a;simp [s6,Ds]
theorem QV (n:Nat)(l:Xa0)(x:Int)(c:0<=x):s6 n (l++[x])=(s6 n l).set x.toNat true:=by
 apply iE (by simp [s6]);intro i b a;rw [Bx];simp only [s6,uY,q9,xK];split
 .rename_i h;rw [c5];right;simp;omega
 .rename_i h;rw [show decide ((i:Int)=x)=false by simp;omega,wX]
def Mi (t:Types)(a:Nat):List Bool:=s6 t.h.length (fQ t a)
def s4 (t:Types)(n:Nat):Xa1:=(List.range n).map λa=>[.list ((Mi t a).map cB)]
def belowD (t:Types):D:=.list (s4 t t.h.length)
theorem Qz (t:Types)(n:Nat):s4 t (n+1)=s4 t n++[[.list ((Mi t n).map cB)]]:=by simp [s4,dM]
@[go_sem] theorem ZX (t:Types)(n:Nat):(s4 t n).length=n:=by simp [s4]
@[go_sem] theorem Uv (t:Types)(n:Nat):D.V (s4 t n)=true:=by
 unfold s4;exact dU (λa=>[.list ((Mi t a).map cB)]) (λa=>by simp [D.N,go_sem]) _
theorem TZ {t:Types}{a:Int}{x:Int}(h:x∈fQ t a):0<=x/\x<t.h.length:=by
 unfold fQ at h;split at h
 .simp at h;omega
 .cases h
theorem RD (t:Types)(a:Int):(fQ t a).length<=t.h.length:=by
 unfold fQ;split
 .rw [bI];exact eI (dG _ _) eG
 .simp
@[go_sem] theorem aaI (t:Types):(belowD t).W=true:=Uv t _
theorem CX (t:Types)(w:t.ok):Pua 312 [t.d] (belowD t):=by
 have x:=w.br;refine Tz.pK ⟨λt=>t==3||t==5||t==19,λ_=>[]⟩ func312 rfl (λQ A=>?_);have Y:=trivial;refine wo (h:=bC (λi e H=>(e 1=.adr t.c/\e 11=.list (t.h.map NodeTy.c)/\e 12=dI t.h.length/\e 3=.own 0 i/\e 13=dI i)/\(H.get 0=some ⟨254,1,s4 t i,false⟩)/\(0<H.next)/\(i<=t.h.length)) (λi=>t.h.length - i) 0 ⟨wg,(by simp [go_sem,s4]),wn,wi⟩ λG u i e H p=>?_);obtain ⟨C,m,f,E⟩:=p;have Y:=xa2 Y C m (bP f);refine c8 (λy=>?_) λy=>?_
 .have hll:=RD t i;have Y:=wa Y y;refine wo (h:=aB (Fg t w i) wl ?_);refine wo (h:=bC (λk e H=>∃ q:Nat,(e 1=.adr t.c/\e 11=.list (t.h.map NodeTy.c)/\e 12=dI t.h.length/\e 3=.own 0 i/\e 13=dI i/\e 4=dI i/\e 5=.own q t.h.length/\e 26=dLI (fQ t i)/\e 27=dI (fQ t i).length/\e 28=dI k)/\(H.get 0=some ⟨254,1,s4 t i,false⟩)/\(0<H.next)/\(H.get q=some ⟨4,1,(s6 t.h.length ((fQ t i).take k)).map cB,false⟩)/\(q<H.next)/\(k<=(fQ t i).length)/\(0<q)) (λk=>(fQ t i).length - k) 0 ⟨H.next,wg,wn,wn,(by simp [go_sem,TA]),wn,wi,wi⟩ λF s k e H o=>?_);obtain ⟨q,B,l,b,j,a,D,z⟩:=o;have v:=dE (bZ:q≠0);have Y:=xa5 Y B l (bP b) j (bP a) v;refine c8 (λg=>?_) λg=>?_
  .have hbx:=TZ (aC g);have r:(fQ t i)[k].toNat<(s6 t.h.length ((fQ t i).take k)).length:=by rw [TB];omega
   have n:s6 t.h.length ((fQ t i).take (k+1))=(s6 t.h.length ((fQ t i).take k)).set (fQ t i)[k].toNat true:=by rw [aF g,QV _ _ _ hbx.1]
   have Y:=xa4 Y g (aA g) (aA r) hbx.1 hbx.2;exact wo (h:=wx s (k+1) ⟨q,wg,wn,wn,(by simp [go_sem,Y,n,bJ,cB]),wn,wj,wj⟩)
  .have hke:(fQ t i).take k=fQ t i:=aH bZ;have Y:=wa Y hke;exact wo (h:=wx u (i+1) ⟨wg,(by simp [go_sem,Y,Qz,Mi]),wn,wj⟩)
 .exact wv (h:=A _ _ (by simp [go_sem,Y,belowD,(bZ:i=t.h.length)]))
@[go_sem] theorem abN (t:Types)(a:Nat):(Mi t a).length=t.h.length:=by simp [Mi,s6]
theorem KA {t:Types}{a:Int}(h:0<=a/\a<t.h.length):(s4 t t.h.length)[a.toNat]?=some [.list ((Mi t a.toNat).map cB)]:=by
 unfold s4;rw [aP,mW bZ];rfl
theorem RC {t:Types}(d:(cQ t).2=0){a b:Int}(e:0<=a/\a<t.h.length)(f:0<=b/\b<t.h.length):mem (fQ t a) b=wO t a b:=by
 unfold fQ wO;rw [if_pos (qR d e),aU,mem_iff,aV];constructor
 .rintro ⟨k,c,rfl⟩;rw [f7] at c;simpa using c.2
 .intro h;exact ⟨b.toNat,by rw [f7];exact ⟨by simp;omega,h⟩,bZ⟩
theorem NX {t:Types}(e:(cQ t).2=0){a b:Int}(d:0<=a/\a<t.h.length)(c:0<=b/\b<t.h.length):(Mi t a.toNat)[b.toNat]?=some (wO t a b):=by
 unfold Mi s6;rw [aP,mW bZ,eV,Int.toNat_of_nonneg d.1,Int.toNat_of_nonneg c.1,RC e d c]
theorem CW (t:Types)(L:t.ok)(p g:Graph)(u:G17 t p g)(K:(cQ t).2=0)(m:Part):Pua 236 [t.d,p.d,g.d,m.d] (dI (iZ t p g m false)):=by
 have P:=aY u.gp;have O:=aY u.gg;have y:=(dO u.gp).2;refine Tz.pK ⟨λt=>t==14||t==15,λr=>match r with|17=>[(0,10),(1,10),(3,10),(4,10),(5,10),(6,10),(8,10),(9,10),(0,11),(1,11),(3,11),(4,11),(5,11),(6,11),(8,11),(9,11),(10,11),(5,12),(6,12),(8,12),(9,12)]|_=>[]⟩ func236 rfl (λQ l=>?_);have Y:=@belowD.eq_1;refine dW (λS=>?_) λS=>?_
 .have hM:iZ t p g m false=20:=by unfold iZ;rw [if_pos bZ]
  exact wv (h:=l _ _ (by simp [go_sem,hM]))
 .have hM:iZ t p g m false=(if bS (K7 t p g m) 0 p.h.length≠0 then bS (K7 t p g m) 0 p.h.length else if bS (jA p g m) 0 p.i.length≠0 then bS (jA p g m) 0 p.i.length else if false=true/\(¬ m.h.Nodup\/¬ m.i.Nodup) then 5 else 0):=by unfold iZ;rw [if_neg bZ]
  have N:m.h.length=p.h.length:=bZ;have M:m.i.length=p.i.length:=bZ;refine wv (h:=aB (CX t L) wl ?_);refine wo (h:=bC (λi e H=>(e 4=.adr t.c/\e 5=.adr p.c/\e 6=.adr g.c/\e 7=.adr m.c/\e 9=.list (s4 t t.h.length)/\e 35=dLI m.h/\e 36=dI m.h.length/\e 37=dI i)/\(i<=m.h.length)/\(bS (K7 t p g m) i (p.h.length - i)=bS (K7 t p g m) 0 p.h.length)) (λi=>m.h.length - i) 0 ⟨wg,wi,(by rfl)⟩ λI0 D i e H A=>?_);obtain ⟨U,X,I⟩:=A;have Y:=wa Y U;refine c8 (λv=>?_) λv=>?_
  .have hn:i<p.h.length:=bZ;have a:=fE (K7 t p g m) hn;rw [I] at a;have f:K7 t p g m i=(if m.h[i]<0\/(g.h.length:Int)<=m.h[i] then 6 else if wO t p.h[i] (g.h[m.h[i].toNat]?.getD 0)=true then 0 else 13):=by simp only [K7,aA v,aA hn,aD]
   have s:=u.tp _ (aC hn);have Y:=xa2 Y v (aA v) (aA hn);refine dW (λR=>?_) λR=>?_
   .rw [if_pos bZ] at f;rw [f,if_pos bZ] at a;rw [a,if_pos bZ] at hM;exact wv (h:=l _ _ (by simp [go_sem,hM]))
   .have hkb:m.h[i].toNat<g.h.length:=bZ;rw [if_neg bZ,aA hkb,aD] at f;have B:=u.tg _ (aC hkb);have w:=KA s;have x:=NX K s B;have Y:=xa2 Y (aA hkb) w x;refine dW (λE=>?_) λE=>?_
    .rw [if_neg (eL E)] at f;rw [f,if_pos bZ] at a;rw [a,if_pos bZ] at hM;exact wv (h:=l _ _ (by simp [go_sem,hM]))
    .rw [if_pos (eL E)] at f;rw [f,if_neg bZ] at a;exact wo (h:=wx D (i+1) ⟨wg,wj,(by exact a.symm)⟩)
  .have hN0:bS (K7 t p g m) 0 p.h.length=0:=by rw [<- I,(bZ:p.h.length - i=0)];rfl
   rw [hN0,if_neg bZ] at hM;refine wo (h:=bC (λk e H=>(e 4=.adr t.c/\e 5=.adr p.c/\e 6=.adr g.c/\e 7=.adr m.c/\e 9=.list (s4 t t.h.length)/\e 69=dLI m.i/\e 70=dI m.i.length/\e 71=dI k)/\(k<=m.i.length)/\(bS (jA p g m) k (p.i.length - k)=bS (jA p g m) 0 p.i.length)) (λk=>m.i.length - k) 0 ⟨wg,wi,(by rfl)⟩ λZ C k e H z=>?_);obtain ⟨T,W,J⟩:=z;have Y:=wa Y T;refine c8 (λj=>?_) λj=>?_
   .have hn:k<p.i.length:=bZ;have a:=fE (jA p g m) hn;rw [J] at a;have V:=y _ (aC hn);have q:p.i[k].B.toNat<m.h.length:=bZ;have o:p.i[k].O.toNat<m.h.length:=bZ;have b:jA p g m k=(if m.i[k]<0\/(g.i.length:Int)<=m.i[k] then 6 else if p.i[k].type≠(g.i[m.i[k].toNat]?.getD bX).type then 13 else if m.h[p.i[k].B.toNat]≠(g.i[m.i[k].toNat]?.getD bX).B\/m.h[p.i[k].O.toNat]≠(g.i[m.i[k].toNat]?.getD bX).O then 11 else 0):=by
     simp only [jA,aA j,aA hn,aD,aA q,aA o]
    have Y:=xa4 Y j (aA j) (aA hn) (aA q) (aA o);refine dW (λG=>?_) λG=>?_
    .rw [if_pos bZ] at b;rw [b,if_pos bZ] at a;rw [a,if_pos bZ] at hM;exact wv (h:=l _ _ (by simp [go_sem,hM]))
    .have hkb:m.i[k].toNat<g.i.length:=bZ;rw [if_neg bZ,aA hkb,aD] at b;have Y:=wa Y (aA hkb);refine dW (λn=>?_) λn=>?_
     .rw [if_pos n] at b;rw [b,if_pos bZ] at a;rw [a,if_pos bZ] at hM;exact wv (h:=l _ _ (by simp [go_sem,hM]))
     .rw [if_neg (eL n)] at b;refine dW (λF=>?_) λF=>?_
      .rw [if_pos bZ] at b;rw [b,if_pos bZ] at a;rw [a,if_pos bZ] at hM;exact wv (h:=l _ _ (by simp [go_sem,hM]))
      .rw [if_neg bZ] at b;rw [b,if_neg bZ] at a;exact wo (h:=wx C (k+1) ⟨wg,wj,(by exact a.symm)⟩)
   .have hE0:bS (jA p g m) 0 p.i.length=0:=by rw [<- J,(bZ:p.i.length - k=0)];rfl
    rw [hE0,if_neg bZ] at hM;rw [if_neg eG] at hM;exact wv (h:=l _ _ (by simp [go_sem,hM]))
/-! ### the finder -/
theorem Jw (i:Nat):Pua 418 [.nil,dI i] (dI (-1)):=by
 refine Tz.p0 func418 rfl λQ a Y=>?_;exact wv (h:=a _ _ wy)
theorem L9 (l:Xa0){i:Nat}(h:i<l.length):Pua 418 [dLI l,dI i] (dI l[i]):=by
 have a:l≠[]:=λe=>by rw [e] at h;simp at h
 refine Tz.p0 func418 rfl λQ b _=>?_;have Y:=wa (aA h) a;exact wo (h:=b _ _ wy)
def GivD (d:D)(l:Xa0)(n:Nat):Prop:=d.W=true/\∀ i,i<n->Pure prog 418 [d,dI i] (dI (l[i]?.getD (-1)))
theorem GivD.nil (n:Nat):GivD .nil (List.replicate n (-1)) n:=⟨rfl,λi hi=>by
 have:=Jw i;rw [wV,if_pos hi];exact this⟩
theorem GivD.list (l:Xa0):GivD (dLI l) l l.length:=⟨qU l,λi hi=>by rw [aA hi];exact L9 l hi⟩
theorem L8 (k n:Int):Pua 415 [dI k,.adr [dI n]] (.bool (decide (k < -1)||decide (n<=k))):=by
 refine Tz.p0 func415 rfl λQ a Y=>?_;exact wo (h:=a _ _ wy)
theorem Lo {f:Nat->Int}{c:Int}(h:∀ j,f j=0\/f j=c):∀ n k,bS f k n=0\/bS f k n=c
 | 0,k=>.inl rfl
 | n+1,k=>by
  unfold bS;split
  .rename_i h1;exact .inr ((h k).resolve_left h1)
  .exact Lo h n (k+1)
theorem OM (l:Xa0)(n:Int):oQ l n=if (l.any λk=>decide (k < -1)||decide (n<=k))=true then 6 else 0:=by
 by_cases h:(l.any λk=>decide (k < -1)||decide (n<=k))=true
 .rw [if_pos h];rcases Lo (f:=Dl n l) (c:=6) (λj=>by unfold Dl;split<;>simp) l.length 0 with h0|h0
  .obtain ⟨x,d,a⟩:=bF.1 h;obtain ⟨i,e,rfl⟩:=aO d;have:=fD _ _ h0 i bZ bZ;unfold Dl at this;rw [aA e,aD] at this;simp only [c5,decide_eq_true_eq] at a;rw [if_pos a] at this;cases this
  .exact h0
 .rw [if_neg h];refine nD _ _ λj _ g=>?_;unfold Dl;rw [if_neg];intro a;have b:j<l.length:=bZ;rw [aA b,aD] at a;exact h (bF.2 ⟨_,aC b,by simpa using a⟩)
theorem Fj (l:Xa0)(n:Int):Pua 410 [dLI l,dI n] (dI (oQ l n)):=by
 refine Tz.p0 func410 rfl λQ b Y=>?_;refine wv (h:=aB (f5 l 415 [.adr [dI n]] (λk=>decide (k < -1)||decide (n<=k)) (by simp [go_sem]) (by simp [go_sem]) (λk _=>L8 k n)) wl ?_);refine c8 (λa=>?_) λa=>?_
 .have hO:oQ l n=6:=by rw [OM,if_pos (eL a)]
  exact wv (h:=b _ _ (by simp [go_sem,hO]))
 .have hO:oQ l n=0:=by rw [OM,if_neg (eL a)]
  exact wv (h:=b _ _ (by simp [go_sem,hO]))
def Srch.au (S:Srch)(most:Int)(pn pe ns es ou:D):Xa2:=[dLI S.p.h,.list (S.p.i.map Edge.c),dLI S.g.h,.list (S.g.i.map Edge.c),.list (s4 S.t S.t.h.length),pn,pe,.bool S.inj,dI most,ns,es,ou]
def Gr (S:Srch)(l:Xa0)(i k:Nat):Bool:=AT S.pe i k&&AO S l i k
theorem Fk (S:Srch)(a:Int)(r pe es s:D)(j:r.W=true)(q:es.W=true)(n:s.W=true)(l:Xa0)(i k:Nat)(o:i<S.p.i.length)(w:k<S.g.i.length)
  (b:GivD pe S.pe S.p.i.length) (B:0<=S.p.i[i].B) (y:S.p.i[i].B.toNat<l.length) (x:0<=S.p.i[i].O) (e:S.p.i[i].O.toNat<l.length) :
  Pua 420 [.adr (S.au a r pe (dLI l) es s),dI i,dI k] (.bool (Gr S l i k)):=by
 have m:=b.1;obtain ⟨v,u⟩:=fH (S.pe[i]?.getD (-1));have d:=b.2 i o;rw [<- u] at d;have f:AT S.pe i k=(decide (v<0)||decide (v=(k:Int))):=by unfold AT;rw [<- u]
 have C:AO S l i k=(decide (S.g.i[k].type=S.p.i[i].type)&&(decide (S.g.i[k].B=l[S.p.i[i].B.toNat])&&decide (S.g.i[k].O=l[S.p.i[i].O.toNat]))):=by
  simp only [AO,Zc,Vm,aA w,aA o,aD,aA y,aA e];simp
 refine Tz.pK ⟨λt=>t==7,λ_=>[]⟩ func420 rfl (λQ z=>?_);have Y:=xa8 @Srch.au.eq_1 (aA o) (aA w) (aA y) (aA e) @Edge.c.eq_1 j q n m;refine wo (h:=aB (d) wl ?_);refine dW (λA=>?_) λA=>?_
 .have hE:Gr S l i k=false:=by unfold Gr;rw [f,show decide (v<0)=false by simp;omega,show decide (v=(k:Int))=false by simp;omega];rfl
  exact wv (h:=z _ _ (by simp [go_sem,hE]))
 .have hE:Gr S l i k=AO S l i k:=by
   unfold Gr;rw [f];rcases Int.lt_or_le v 0 with h|h
   .simp [h]
   .simp [A h]
  exact wo (h:=z _ _ (by simp [go_sem,hE,C,Dy,gA]))
theorem Gj (S:Srch)(L:graphF S.p=0)(U:graphF S.g=0)(a:Int)(r s es u:D)(f:r.W=true)(n:es.W=true)(m:u.W=true)(l:Xa0)(v:GivD s S.pe S.p.i.length) :
  Pua 419 [.adr (S.au a r s (dLI l) es u)] (.bool (vK S l)):=by
 have w:=v.1;have B:=(dO L).2;have T:=aY L;have R:=aY U;have V:D.N (S.au a r s (dLI l) es u)=true:=by simp [go_sem,Srch.au,D.N,f,n,m,w]
 refine Tz.pK ⟨λt=>t==5,λ_=>[]⟩ func419 rfl (λQ O=>?_);have Y:=xa3 @Srch.au.eq_1 f n m w;refine wo (h:=bC (λi e H=>(e 0=.adr (S.au a r s (dLI l) es u)/\e 3=dI ((l.length:Int) - 1)/\e 18=.list (S.p.i.map Edge.c)/\e 19=dI S.p.i.length/\e 20=dI i)/\(i<=S.p.i.length)/\(∀ j,j<i->HO S l j=true)) (λi=>S.p.i.length - i) 0 ⟨wg,wi,(by intro j C;omega)⟩ λI0 x i e H F=>?_);obtain ⟨Z,hi,I⟩:=F;have Y:=wa Y Z;refine c8 (λq=>?_) λq=>?_
 .have hxi:=(B _ (aC q)).2;have o:HO S l i=(decide (max S.p.i[i].B S.p.i[i].O≠(l.length:Int) - 1)||(List.range S.g.i.length).any (Gr S l i)):=by
   unfold HO;rw [aA q,aD];rfl
  have Y:=xa2 Y q (aA q) @Edge.c.eq_1;refine dW (λP=>?_) λP=>?_
  .have hKi:HO S l i=true:=by rw [o];simp;omega
   exact wo (h:=wx x (i+1) ⟨wg,wj,(by intro j C;rcases bT j i with hji|hji;exact I j hji;(obtain rfl:j=i:=bZ;exact hKi))⟩)
  .have hf:S.p.i[i].B.toNat<l.length:=bZ;have G:S.p.i[i].O.toNat<l.length:=bZ;have A:=hxi.1.1;have z:=hxi.2.1;have W:=q;have Y:=wa Y P;refine wo (h:=bC (λk e H=>(e 0=.adr (S.au a r s (dLI l) es u)/\e 3=dI ((l.length:Int) - 1)/\e 18=.list (S.p.i.map Edge.c)/\e 19=dI S.p.i.length/\e 20=dI i/\e 4=dI i/\e 6=.bool false/\e 37=dI S.g.i.length/\e 38=dI k)/\(k<=S.g.i.length)/\((List.range k).any (Gr S l i)=false)) (λk=>S.g.i.length - k) 0 ⟨wg,wi,(by rfl)⟩ λI2 J k e H E=>?_);obtain ⟨X,hk,N⟩:=E;have Y:=wa Y X;refine c8 (λy=>?_) λy=>?_
   .obtain ⟨fb,M⟩:∃ b,b=Gr S l i k:=⟨_,rfl⟩;have Y:=wa Y y;refine wv (h:=aB (Fk S a r s es u f n m l i k W y v A hf z G) wl ?_);refine c8 (λd=>?_) λd=>?_
    .have hKi:HO S l i=true:=by
      rw [o,c5];right;exact bF.2 ⟨k,by simpa using y,by simpa using d⟩
     exact wo (h:=wx x (i+1) ⟨wg,wj,(by intro j C;rcases bT j i with hji|hji;exact I j hji;(obtain rfl:j=i:=bZ;exact hKi))⟩)
    .have hfb:Gr S l i k=false:=by simpa using d
     have Y:=wa Y d;exact wo (h:=wx J (k+1) ⟨wg,wj,(by rw [A7,N,hfb];rfl)⟩)
   .have hb0:(List.range S.g.i.length).any (Gr S l i)=false:=by rw [(bZ:S.g.i.length=k)];exact N
    have K:vK S l=false:=by
     simp only [vK,GV,bY];exact ⟨i,q,by rw [o,hb0];simp;omega⟩
    exact wo (h:=O _ _ (by simp [go_sem,K]))
 .have K:vK S l=true:=by
   simp only [vK,b6,bY];exact λj C=>I j bZ
  exact wv (h:=O _ _ (by simp [go_sem,K]))
def Lq (S:Srch)(N:Nat)(ns es:Xa0)(out:List Part):List Part:=if ns.length<S.p.h.length then R0 S N (S.p.h.length - ns.length) ns out else Jt S N ns (S.p.i.length - es.length) es out
theorem Uz (S:Srch){N:Nat}(d:Nat)(l:Xa0){a:List Part}(h:N<=a.length):R0 S N d l a=a:=by cases d<;>simp only [R0,if_pos h]
theorem Ix (S:Srch){N:Nat}(ns es:Xa0){a:List Part}(h:N<=a.length):Lq S N ns es a=a:=by
 unfold Lq;split;exact Uz S _ _ h;exact G9 _ _ _ h
theorem Iw (S:Srch)(N:Nat)(ns:Xa0)(a:List Part):Lq S N ns [] a=R0 S N (S.p.h.length - ns.length) ns a:=by
 unfold Lq;split
 .rfl
 .rename_i h;rw [(bZ:S.p.h.length - ns.length=0)];simp only [R0,oX,Nat.sub_zero];split
  .rename_i h2;exact G9 _ _ _ h2
  .rfl
structure FdS (f a b o:Nat) (S:Srch) (N:Nat) (pn pe:D) (ns es:Xa0) (out:List Part) (H:AHeap):Prop where
 bf:H.get f=some ⟨394,12,[S.au N pn pe (.own a ns.length) (.own b es.length) (.own o out.length)],false⟩
 ba:H.get a=some ⟨3,1,ns.map cI,false⟩
 bb:H.get b=some ⟨3,1,es.map cI,false⟩
 bo:H.get o=some ⟨36,2,out.map Part.c,false⟩
 le:out.length<=N
 nf:f<H.next/\a<H.next/\b<H.next/\o<H.next
 d:(f≠a/\f≠b/\f≠o)/\(a≠b/\a≠o)/\b≠o
@[go_sem] theorem Ze (H:AHeap)(i:Nat):(H.drop i).next=H.next:=rfl
@[go_sem] theorem aaF (H:AHeap)(i j:Nat):(H.drop i).get j=if j=i then none else H.get j:=rfl
theorem w5 {H:AHeap}{d:D}(h:d.W=true):fN H d=d:=by cases d<;>first|rfl|simp [D.W] at h
def VT (S:Srch)(N:Nat)(pn pe:D)(f o m:Nat):Prop :=
  ∀ (ns es:Xa0) (out:List Part) (a b:Nat) (G:AHeap) (Q:D->AHeap->Prop),(S.p.h.length - ns.length)+(S.p.i.length - es.length)=m->ns.length<=S.p.h.length->es.length<=S.p.i.length->(ns.length<S.p.h.length->es=[])->FdS f a b o S N pn pe ns es out G ->
  (∀ a' b' H',FdS f a' b' o S N pn pe ns es (Lq S N ns es out) H'->Q (.tup []) H')->ACalls prog 417 [.ptr f 1 0 0] G Q
theorem Md (S:Srch)(A:G17 S.t S.p S.g)(hv:(cQ S.t).2=0)(N:Nat)(hN:N<=5001)(pn E:D)(X:GivD pn S.pn S.p.h.length)(Z:GivD E S.pe S.p.i.length)(f o:Nat)(m:Nat)(ih:∀ k,k<m->VT S N pn E f o k)(ns es:Xa0)(i:List Part)(a b:Nat)(G:AHeap)(Q:D->AHeap->Prop)(hm:(S.p.h.length - ns.length)+(S.p.i.length - es.length)=m)(f6:ns.length<=S.p.h.length)(f1:es.length<=S.p.i.length)(c4:ns.length<S.p.h.length->es=[])(hF:FdS f a b o S N pn E ns es i G)
  (hQ:∀ a' b' H',FdS f a' b' o S N pn E ns es (Lq S N ns es i) H'->Q (.tup []) H') (c5:ns.length<S.p.h.length) :
  ACalls prog 417 [.ptr f 1 0 0] G Q:=by
 have f8:=aY A.gp;have f7:=aY A.gg;have f9:∀ x∈S.p.i,(0<=x.B/\x.B<S.p.h.length)/\(0<=x.O/\x.O<S.p.h.length):=λx hx=>((dO A.gp).2 x hx).2;obtain ⟨gf,ga,gb,go,a5,⟨lf,la,lb,lo⟩,⟨d1,d2,d3⟩,⟨d4,d5⟩,d6⟩:=hF;have ff:=bP lf;have fa:=bP la;have fb:=bP lb;have fo:=bP lo;have w:=X.1;have F:=Z.1;have b6:∀ H:AHeap,fN H pn=pn:=λH=>w5 w;have W:∀ H:AHeap,fN H E=E:=λH=>w5 F;refine (Tz.cK ⟨λ_=>false,λr=>match r with|0=>[(2,16),(3,16),(4,16)]|_=>[]⟩ func417 rfl ?_);have e9:=xa4 (dE (bZ:o≠b)) (dE (bZ:o≠a)) (dE (bZ:o≠f)) (dE (bZ:b≠a)) (dE (bZ:b≠f)) (dE (bZ:a≠f));have Y:=xa3 gf ga gb go (xb0 ff fa fb fo @Part.c.eq_1 @Srch.au.eq_1 w F b6 W c5 e9);refine kI (λh1=>?_) λh1=>?_
 .have hX:Lq S N ns es i=i:=Ix S _ _ bZ;refine wv (h:=?_);exact hQ a b _ (by rw [hX];exact ⟨gf,ga,gb,go,a5,⟨by first|exact lf|(simp;omega),by first|exact la|(simp;omega),by first|exact lb|(simp;omega),by first|exact lo|(simp;omega)⟩,⟨d1,d2,d3⟩,⟨d4,d5⟩,d6⟩)
 .have hnf:¬ N<=i.length:=bZ;have c9:=c4 bZ;subst c9;obtain ⟨U,b9⟩:∃ U,S.p.h.length - ns.length=U+1:=⟨S.p.h.length - ns.length - 1,bZ⟩;have C:ns.length<S.p.h.length:=bZ;have a7:=A.tp _ (aC C);have b4:=KA a7;obtain ⟨v,V⟩:=fH (S.pn[ns.length]?.getD (-1));have a6:=X.2 ns.length C;rw [<- V] at a6;have a0:∀ j (hj:j<S.g.h.length),KO S ns j=((decide (v<0)||decide (v=(j:Int)))&&(!(S.inj&&mem ns j)&&wO S.t S.p.h[ns.length] S.g.h[j])):=λj hj=>by
   simp only [KO,AT,<- V,aA hj,aA C,aD]
  have Y:=xa1 Y (aA C) b4;refine wp (h:=bC (λj e H=>∃ s:Nat,∃ q:Nat,∃ n:List Part,(e 0=.ptr f 1 0 0/\e 2=dI ns.length/\e 61=dLI S.g.h/\e 62=dI S.g.h.length/\e 63=dI j)/\(H.get f=some ⟨394,12,[S.au N pn E (.own s ns.length) (.own q 0) (.own o n.length)],false⟩)/\(f<H.next)/\(H.get s=some ⟨3,1,ns.map cI,false⟩)/\(s<H.next)/\(H.get q=some ⟨3,1,[],false⟩)/\(q<H.next)/\(H.get o=some ⟨36,2,n.map Part.c,false⟩)/\(o<H.next)/\(f≠s)/\(f≠q)/\(s≠q)/\(s≠o)/\(q≠o)/\(j<=S.g.h.length)/\(n.length<=N)/\(n=(List.range j).foldl (λn k=>if (KO S ns k&&vK S (ns++[(k:Int)]))=true then R0 S N U (ns++[(k:Int)]) n else n) i)) (λj=>S.g.h.length - j) 0 ⟨a,b,i,wg,wn,wn,wn,wn,wn,wn,wn,wn,wi,wi,wi,wi,wi,wi,(by exact a5),(by rfl)⟩ λI1 K j e H c0=>?_);obtain ⟨s,q,n,E1,b0,R,O,J,M,I,a9,P,e1,e2,e3,e4,e5,hj,l,B⟩:=c0;have e7:=xa4 (dE (bZ:o≠q)) (dE (bZ:o≠s)) (dE (bZ:o≠f)) (dE (bZ:q≠s)) (dE (bZ:q≠f)) (dE (bZ:s≠f));have Y:=xa9 Y E1 b0 (bP R) O (bP J) M (bP I) a9 (bP P) e7;refine c8 (λh5=>?_) λh5=>?_
  .have hEj:=a0 j h5;have c6:=A.tg _ (aC h5);have b5:=NX hv a7 c6;have Y:=xa2 Y h5 (aA h5) b5;refine wp (h:=aB (a6) wl ?_);refine wp (h:=J4 (λhg=>eX ns j) wr (λhg=>wl) (λhg=> rfl) rfl wrd ?_);refine kI (λh8=>?_) λh8=>?_
   .have hE:(KO S ns j&&vK S (ns++[(j:Int)]))=false:=by
     have:KO S ns j=false:=by
      rw [hEj,aW];intro hT;simp at hT;obtain ⟨c1,c2,c3⟩:=hT;rcases h8 with (⟨k1,T⟩|k1)|⟨k1,T⟩
      .rcases c1 with c1|c1
       .omega
       .exact T c1
      .rw [k1] at c3;cases c3
      .rcases c2 with c2|c2
       .rw [k1] at c2;cases c2
       .rw [T] at c2;cases c2
     rw [this];rfl
    obtain ⟨u,d⟩:∃ x,x=n:=⟨_,rfl⟩;obtain ⟨a2,z⟩:∃ x,x=s:=⟨_,rfl⟩;obtain ⟨b2,y⟩:∃ x,x=q:=⟨_,rfl⟩;have Y:=xa2 Y d z y;exact wp (h:=wx K (j+1) ⟨a2,b2,u,wg,wn,wn,wn,wn,wn,wn,wn,wn,wj,wj,wj,wj,wj,wj,(by rw [d];first|exact l|exact QN A.gp _ _ l),(by rw [dN,<- B,d];first|rw [if_pos hE]|rw [if_neg (by rw [hE];simp)])⟩)
   .have hO:KO S ns j=true:=by
     obtain ⟨⟨k1,T⟩,k3⟩:=h8;have c1:(decide (v<0)||decide (v=(j:Int)))=true:=by simp;omega
     have c2:(S.inj&&mem ns (j:Int))=false:=by cases hI:S.inj;rfl;simp [k3 hI]
     rw [hEj,c1,T,c2];rfl
    have a4:(S.p.h.length - (ns++[(j:Int)]).length)+(S.p.i.length - ([]:Xa0).length)=m - 1:=by simp at hm ⊢;omega
    obtain ⟨m',b7⟩:∃ x,x=m - 1:=⟨_,rfl⟩;rw [<- b7] at a4;have Y:=wa Y h8;refine wp (h:=FZ (Gj S A.gp A.gg N pn E (dLI []) (.list (n.map Part.c)) w (by simp [D.W,go_sem]) (by simp [D.W,xE]) (ns++[(j:Int)]) Z) wrq wl rfl ?_);refine kI (λL=>?_) λL=>?_
    .have hE:(KO S ns j&&vK S (ns++[(j:Int)]))=true:=by rw [hO,L];rfl
     obtain ⟨u,d⟩:∃ x,x=R0 S N U (ns++[(j:Int)]) n:=⟨_,rfl⟩;have b8:S.p.h.length - (ns.length+1)=U:=bZ;have Y:=xa1 Y b8 (Eq.symm d);refine wv (h:=?_);unfold e8;refine ih m' bZ (ns++[(j:Int)]) [] n s q _ _ a4 (by simp;omega) eG (λ_=>rfl) ⟨by simp [go_sem,Y],by simp [go_sem,Y],by simp [go_sem,Y],by simp [go_sem,Y],l,⟨by simp [go_sem];omega,by simp [go_sem];omega,by simp [go_sem];omega,by simp [go_sem];omega⟩,⟨e1,e2,d3⟩,⟨e3,e4⟩,e5⟩ (λa3 b3 H3 a8=>?_);rw [Iw] at a8;obtain ⟨d7,d9,d8,d0,f0,⟨f3,f5,f4,f2⟩,⟨x1,x2,x3⟩,⟨x4,x5⟩,x6⟩:=a8;have e0:=xa2 (bP (bZ:f<H3.next)) (bP (bZ:a3<H3.next)) (bP (bZ:b3<H3.next)) (bP (bZ:o<H3.next));have e6:=xa4 (dE (bZ:o≠b3)) (dE (bZ:o≠a3)) (dE (bZ:o≠f)) (dE (bZ:b3≠a3)) (dE (bZ:b3≠f)) (dE (bZ:a3≠f));obtain ⟨a2,z⟩:∃ x,x=H3.next:=⟨_,rfl⟩;obtain ⟨b2,y⟩:∃ x,x=b3:=⟨_,rfl⟩;have Y:=xa7 Y d7 d9 d8 d0 e0 e6 z y;exact wp (h:=H5 (Ghosts.trunc (.refl _) f 0 9 a3 ns.length _ _ _ (by simp [go_sem,Y];rfl) rfl rfl (by simp [go_sem,Y];rfl) (by simp [go_sem,Y]) rfl bZ) (j+1) bZ ((K _ _ _).2 ⟨a2,b2,u,wg,wn,wn,wn,wn,wn,wn,wn,wn,wj,wj,wj,wj,wj,wj,(by rw [d];first|exact l|exact QN A.gp _ _ l),(by rw [dN,<- B,d];first|rw [if_pos hE]|rw [if_neg (by rw [hE];simp)])⟩))
    .have hE:(KO S ns j&&vK S (ns++[(j:Int)]))=false:=by rw [hO,L];rfl
     obtain ⟨u,d⟩:∃ x,x=n:=⟨_,rfl⟩;obtain ⟨a2,z⟩:∃ x,x=H.next+41:=⟨_,rfl⟩;obtain ⟨b2,y⟩:∃ x,x=q:=⟨_,rfl⟩;have Y:=xa2 Y d z y;exact wp (h:=H5 (Ghosts.trunc (.refl _) f 0 9 s ns.length _ _ _ (by simp [go_sem,Y];rfl) rfl rfl (by simp [go_sem,Y];rfl) (by simp [go_sem,Y]) rfl bZ) (j+1) bZ ((K _ _ _).2 ⟨a2,b2,u,wg,wn,wn,wn,wn,wn,wn,wn,wn,wj,wj,wj,wj,wj,wj,(by rw [d];first|exact l|exact QN A.gp _ _ l),(by rw [dN,<- B,d];first|rw [if_pos hE]|rw [if_neg (by rw [hE];simp)])⟩))
  .have hJ:j=S.g.h.length:=bZ;have c7:Lq S N ns [] i=n:=by rw [Iw,b9];simp only [R0];rw [if_neg hnf,B,hJ]
   refine wv (h:=?_);exact hQ s q _ (by rw [c7];exact ⟨by assumption,by assumption,by assumption,by assumption,l,⟨by assumption,by assumption,by assumption,by assumption⟩,⟨e1,e2,d3⟩,⟨e3,e4⟩,e5⟩)
theorem af3 (a k:Nat):a+(k+1) - (a+1)=k+1 - 1:=bZ
theorem af2 (a k:Nat):a+(k+1) - (a+1)=k:=bZ
theorem af1 (a k:Nat):a+(k+1) - a=k+1:=bZ
theorem Mc (S:Srch)(hG:G17 S.t S.p S.g)(hv:(cQ S.t).2=0)(N:Nat)(hN:N<=5001)(A pe:D)(b4:GivD A S.pn S.p.h.length)(W:GivD pe S.pe S.p.i.length)(f o:Nat)(m:Nat)(ih:∀ k,k<m->VT S N A pe f o k)(ns es:Xa0)(i:List Part)(a b:Nat)(G:AHeap)(Q:D->AHeap->Prop)(hm:(S.p.h.length - ns.length)+(S.p.i.length - es.length)=m)(f4:ns.length<=S.p.h.length)(e9:es.length<=S.p.i.length)(f7:ns.length<S.p.h.length->es=[])(hF:FdS f a b o S N A pe ns es i G)
  (hQ:∀ a' b' H',FdS f a' b' o S N A pe ns es (Lq S N ns es i) H'->Q (.tup []) H') (y:¬ ns.length<S.p.h.length) (c4:es.length<S.p.i.length) :
  ACalls prog 417 [.ptr f 1 0 0] G Q:=by
 have f6:=aY hG.gp;have f5:=aY hG.gg;have b8:∀ x∈S.p.i,(0<=x.B/\x.B<S.p.h.length)/\(0<=x.O/\x.O<S.p.h.length):=λx hx=>((dO hG.gp).2 x hx).2;obtain ⟨gf,ga,gb,go,a4,⟨lf,la,lb,lo⟩,⟨d1,d2,d3⟩,⟨d4,d5⟩,d6⟩:=hF;have ff:=bP lf;have fa:=bP la;have fb:=bP lb;have fo:=bP lo;have u:=b4.1;have B:=W.1;have b0:∀ H:AHeap,fN H A=A:=λH=>w5 u;have V:∀ H:AHeap,fN H pe=pe:=λH=>w5 B;refine (Tz.cK ⟨λ_=>false,λr=>match r with|0=>[(2,16),(3,16),(4,16)]|_=>[]⟩ func417 rfl ?_);have e6:=xa4 (dE (bZ:o≠b)) (dE (bZ:o≠a)) (dE (bZ:o≠f)) (dE (bZ:b≠a)) (dE (bZ:b≠f)) (dE (bZ:a≠f));have Y:=xa4 gf ga gb go ff (xb0 fa fb fo @Part.c.eq_1 @Srch.au.eq_1 u B b0 V y c4 e6);refine kI (λh1=>?_) λh1=>?_
 .have hX:Lq S N ns es i=i:=Ix S _ _ bZ;refine wv (h:=?_);exact hQ a b _ (by rw [hX];exact ⟨gf,ga,gb,go,a4,⟨by first|exact lf|(simp;omega),by first|exact la|(simp;omega),by first|exact lb|(simp;omega),by first|exact lo|(simp;omega)⟩,⟨d1,d2,d3⟩,⟨d4,d5⟩,d6⟩)
 .have hnf:¬ N<=i.length:=bZ;obtain ⟨w,a5⟩:∃ w,S.p.i.length - es.length=w+1:=⟨S.p.i.length - es.length - 1,bZ⟩;have Z:m=w+1:=by rw [<- hm,Nat.sub_eq_zero_of_le (Nat.not_lt.1 y),eN,a5]
  have J:S.p.i.length=es.length+(w+1):=bZ;clear hm a5;have C:es.length<S.p.i.length:=bZ;have a6:=b8 _ (aC C);have c3:S.p.i[es.length].B.toNat<ns.length:=bZ;have c0:S.p.i[es.length].O.toNat<ns.length:=bZ;refine wp (h:=bC (λj e H=>∃ s:Nat,∃ q:Nat,∃ l:List Part,(e 0=.ptr f 1 0 0/\e 6=dI es.length/\e 162=.list (S.g.i.map Edge.c)/\e 163=dI S.g.i.length/\e 164=dI j)/\(H.get f=some ⟨394,12,[S.au N A pe (.own s ns.length) (.own q es.length) (.own o l.length)],false⟩)/\(f<H.next)/\(H.get s=some ⟨3,1,ns.map cI,false⟩)/\(s<H.next)/\(H.get q=some ⟨3,1,es.map cI,false⟩)/\(q<H.next)/\(H.get o=some ⟨36,2,l.map Part.c,false⟩)/\(o<H.next)/\(f≠s)/\(f≠q)/\(s≠q)/\(s≠o)/\(q≠o)/\(j<=S.g.i.length)/\(l.length<=N)/\(l=(List.range j).foldl (λl k=>if R9 S ns es k=true then Jt S N ns w (es++[(k:Int)]) l else l) i)) (λj=>S.g.i.length - j) 0 ⟨a,b,i,wg,wn,wn,wn,wn,wn,wn,wn,wn,wi,wi,wi,wi,wi,wi,(by exact a4),(by rfl)⟩ λI3 a7 j e H b9=>?_);obtain ⟨s,q,l,E3,a9,T,P,F,O,E,a8,R,e1,e2,e3,e4,e5,hj,n,I⟩:=b9;have e0:=xa4 (dE (bZ:o≠q)) (dE (bZ:o≠s)) (dE (bZ:o≠f)) (dE (bZ:q≠s)) (dE (bZ:q≠f)) (dE (bZ:s≠f));have Y:=xa9 Y E3 a9 (bP T) P (bP F) O (bP E) a8 (bP R) e0;refine c8 (λM=>?_) λM=>?_
  .have hEj:R9 S ns es j=(Gr S ns es.length j&&!(S.inj&&mem es j)):=by
    simp only [R9,Gr];cases AT S.pe es.length j<;>cases AO S ns es.length j<;>cases (S.inj&&mem es j)<;>rfl
   have Y:=wa Y M;refine wp (h:=FZ (Fk S N A pe (dLI es) (.list (l.map Part.c)) u (by simp [D.W,go_sem]) (by simp [D.W,xE]) ns es.length j C M W a6.1.1 c3 a6.2.1 c0) wrq wl rfl ?_);refine wp (h:=MT (λhg=>eX es j) wr (λhg=>wl) (λhg=> rfl) ?_);refine kI (λz=>?_) λz=>?_
   .have hE:R9 S ns es j=false:=by
     rw [hEj];rcases z with U|⟨U,k2⟩
     .rw [U];rfl
     .rw [U,k2];simp
    obtain ⟨v,d⟩:∃ x,x=l:=⟨_,rfl⟩;obtain ⟨a2,L⟩:∃ x,x=s:=⟨_,rfl⟩;obtain ⟨b2,K⟩:∃ x,x=q:=⟨_,rfl⟩;have Y:=xa2 Y d L K;exact wp (h:=wx a7 (j+1) ⟨a2,b2,v,wg,wn,wn,wn,wn,wn,wn,wn,wn,wj,wj,wj,wj,wj,wj,(by rw [d];first|exact n|exact En _ _ _ _ n),(by rw [dN,<- I,d];first|rw [if_pos hE]|rw [if_neg (by rw [hE];simp)])⟩)
   .have hE:R9 S ns es j=true:=by
     obtain ⟨U,k2⟩:=z;have c2:(S.inj&&mem es (j:Int))=false:=by cases hI:S.inj;rfl;simp [k2 hI]
     rw [hEj,U,c2];rfl
    have a0:(S.p.h.length - ns.length)+(S.p.i.length - (es++[(j:Int)]).length)=m - 1:=by
     rw [Nat.sub_eq_zero_of_le (Nat.not_lt.1 y),aQ,List.length_singleton,eN,J,Z];exact af3 _ _
    have X:m - 1<m:=by rw [Z];exact Nat.lt_succ_self w
    obtain ⟨m',b5⟩:∃ x,x=m - 1:=⟨_,rfl⟩;rw [<- b5] at a0 X;obtain ⟨v,d⟩:∃ x,x=Jt S N ns w (es++[(j:Int)]) l:=⟨_,rfl⟩;have c1:Lq S N ns (es++[(j:Int)]) l=v:=by
     have b6:S.p.i.length - (es++[(j:Int)]).length=w:=by
      rw [aQ,List.length_singleton,J];exact af2 _ _
     rw [d];unfold Lq;rw [if_neg (bZ:¬ ns.length<S.p.h.length),b6]
    have Y:=xa1 Y z c1;refine wp (h:=?_);unfold e8;refine ih m' X ns (es++[(j:Int)]) l s q _ _ a0 bZ (by simp;omega) (λh=>absurd h bZ) ⟨by simp [go_sem,Y],by simp [go_sem,Y],by simp [go_sem,Y],by simp [go_sem,Y],n,⟨by simp [go_sem];omega,by simp [go_sem];omega,by simp [go_sem];omega,by simp [go_sem];omega⟩,⟨e1,e2,d3⟩,⟨e3,e4⟩,e5⟩ (λa3 b3 H3 c6=>?_);obtain ⟨c9,d7,d0,c7,e7,⟨f1,f3,f2,f0⟩,⟨x1,x2,x3⟩,⟨x4,x5⟩,x6⟩:=c6;have d8:=xa2 (bP (bZ:f<H3.next)) (bP (bZ:a3<H3.next)) (bP (bZ:b3<H3.next)) (bP (bZ:o<H3.next));have d9:=xa4 (dE (bZ:o≠b3)) (dE (bZ:o≠a3)) (dE (bZ:o≠f)) (dE (bZ:b3≠a3)) (dE (bZ:b3≠f)) (dE (bZ:a3≠f));obtain ⟨a2,L⟩:∃ x,x=a3:=⟨_,rfl⟩;obtain ⟨b2,K⟩:∃ x,x=H3.next:=⟨_,rfl⟩;have Y:=xa7 Y c9 d7 d0 c7 d8 d9 L K;exact wp (h:=H5 (Ghosts.trunc (.refl _) f 0 10 b3 es.length _ _ _ (by simp [go_sem,Y];rfl) rfl rfl (by simp [go_sem,Y];rfl) (by simp [go_sem,Y]) rfl bZ) (j+1) bZ ((a7 _ _ _).2 ⟨a2,b2,v,wg,wn,wn,wn,wn,wn,wn,wn,wn,wj,wj,wj,wj,wj,wj,(by rw [d];first|exact n|exact En _ _ _ _ n),(by rw [dN,<- I,d];first|rw [if_pos hE]|rw [if_neg (by rw [hE];simp)])⟩))
  .have hJ:j=S.g.i.length:=bZ;have b7:S.p.i.length - es.length=w+1:=by
    rw [J];exact af1 _ _
   have c5:Lq S N ns es i=l:=by unfold Lq;rw [if_neg y,b7];simp only [Jt];rw [if_neg hnf,I,hJ]
   refine wv (h:=?_);exact hQ s q _ (by rw [c5];exact ⟨by assumption,by assumption,by assumption,by assumption,n,⟨by assumption,by assumption,by assumption,by assumption⟩,⟨e1,e2,d3⟩,⟨e3,e4⟩,e5⟩)
end Go.Abs
end
