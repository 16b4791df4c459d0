/- From a reading of an argument to an abstract value of a type -/
import Derived.Test.YtmaibfgcngmjhaaGreatZeAE
import Derived.Test.YtmaibfgcngmjhaaGreatZeAQ
import Derived.Test.YtmaibfgcngmjhaaGreatZeAG
import Derived.Test.YtmaibfgcngmjhaaGreatZeAA
import Derived.Carry
import Derived.ChangeArms
import Derived.WideShapes
import Derived.DataElems
import Derived.OpenShut
import Derived.Laws.Externs
set_option linter.unusedVariables false
set_option linter.unusedSimpArgs false
section
namespace Go.Abs
open Go.ChangeShapes Go.WideShapes Go.RowKit
structure Bulk {H:Type} (bulk:DataW H->Nat):Prop where
 len:∀ e s,e.length<=bulk (.slice e s)
 el:∀ e s,∀ d∈e,bulk d<=bulk (.slice e s)
 part:∀ l,∀ d∈l,bulk d<=bulk (.agg l)
 str:∀ s:List UInt8,s.length<=bulk (.lit (.string s))
abbrev TD:Nat->Prop:=λ_=>False
section
variable {H:Type} {enc:TypeId × Value→H} {P:Program} {w:World} {base:Nat} {spare:Nat→Bool} {held:Bool} {bulk:DataW H→Nat} {B:Nat}
def Opens (enc:TypeId × Value->H)(P:Program)(w:World)(base:Nat)(spare:Nat->Bool)(held:Bool)(bulk:DataW H->Nat)(B:Nat)(n:Nat)(t:TypeId){α:Type}(C:α->Xa2)(G:α->Prop):Prop :=
 ∀ (fuel:Nat) (cs:List Value) (x:DataW H × List MemPlace),fuel<=n->DataW.trod enc P w base spare held fuel t cs=some x->bulk x.1<=B ->
  ∃ a,G a/\RepL TD g9 pT w cs (C a)/\∀ u∈cs,u.oneCell'=true
variable {n:Nat} {t:TypeId}
theorem Opens.mono {α:Type}{C:α->Xa2}{G:α->Prop}{m:Nat}(h:Opens enc P w base spare held bulk B n t C G)(hm:m<=n):Opens enc P w base spare held bulk B m t C G :=
 λfuel cs x hf hx hb=>h fuel cs x (dA hf hm) hx hb
theorem Opens.zero {α:Type}{C:α->Xa2}{G:α->Prop}:Opens enc P w base spare held bulk B 0 t C G:=λfuel cs x hf hx _=>by
 have:fuel=0:=bL;subst this;simp [DataW.trod] at hx
theorem Opens.map {α β:Type}{C:α->Xa2}{G:α->Prop}{C':β->Xa2}{G':β->Prop}(h:Opens enc P w base spare held bulk B n t C G)(f:α->β)(hC:∀ a,C a=C' (f a))(hG:∀ a,G a->G' (f a)):Opens enc P w base spare held bulk B n t C' G' :=
 λfuel cs x hf hx hb=>by
  obtain ⟨a,h1,h2,h3⟩:=h fuel cs x hf hx hb;exact ⟨f a,hG a h1,by rw [<- hC];exact h2,h3⟩
theorem sN {v:Value}{d:D}(h:RepV TD g9 pT w v d):RepL TD g9 pT w [v] [d] :=
 ⟨rfl,λj u x hu hx=>by
  cases j with
  | zero=>simp at hu hx;subst hu;subst hx;exact h
  | succ j=>simp at hu⟩
theorem DA {a b:List Value}{c d:Xa2}(h:RepL TD g9 pT w a c)(k:RepL TD g9 pT w b d):RepL TD g9 pT w (a++b) (c++d):=by
 refine ⟨by simp [h.len,k.len],λj u x f e=>?_⟩;by_cases g:j<a.length
 .rw [aY g] at f;rw [aY (by rw [<- h.len];exact g)] at e;exact h.Y j u x f e
 .rw [bF bL] at f;rw [bF (by rw [<- h.len];omega),<- h.len] at e;exact k.Y _ u x f e
theorem R4 (ht:P.underlying t=some .bool):Opens enc P w base spare held bulk B n t (λb:Bool=>[D.bool b]) (λ_=>True):=λfuel cs x _ hx _=>by
 obtain ⟨b,rfl,_⟩:=DataW.trod_bool ht hx;exact ⟨b,trivial,sN (.bool b),by simp [Value.oneCell']⟩
theorem LK {k:IntKind}(ht:P.underlying t=some (.int k)):Opens enc P w base spare held bulk B n t (λz:Int=>[D.int k z]) (λz=>(Lit.int k z).wf=true):=λfuel cs x _ hx _=>by
 obtain ⟨z,rfl,_,hw⟩:=DataW.trod_int ht hx;exact ⟨z,hw,sN (.int k z),by simp [Value.oneCell']⟩
theorem NA (hB:Bulk bulk)(ht:P.underlying t=some .string):Opens enc P w base spare held bulk B n t (λs:ByteArray=>[D.str s]) (λs=>s.size<=B):=λfuel cs x _ hx hb=>by
 obtain ⟨s,rfl,rfl,hs⟩:=DataW.trod_string ht hx;refine ⟨s,?_,sN (.str s),by simp [Value.oneCell']⟩;have:=hB.str s.data.toList;have hl:s.data.toList.length=s.size:=by rw [gB];rfl
 simp only at hb;omega
theorem aeA {α:Type}{C:α->Xa2}{G:α->Prop}{ad:Addr}{sz:Nat}:∀ (len:Nat),
  (∀ i,i<len->∃ c a,w.cells? base (ad.add (i * sz)) sz=some c/\G a/\RepL TD g9 pT w c (C a)/\∀ u∈c,u.oneCell'=true) ->
  ∃ (l:List α) (xs:List Value),l.length=len/\(∀ a∈l,G a)/\RepL TD g9 pT w xs (l.map C).flatten/\(∀ u∈xs,u.oneCell'=true)/\xs.length=len * sz /\
   (∀ (j:Nat) (u:Value),xs[j]?=some u->w.cell? (ad.add j)=some u)/\∀ c∈l.map C,c.length=sz
 | 0,_=>⟨[],[],rfl,by simp,⟨rfl,λj u d hu=>by simp at hu⟩,by simp,by simp,by simp,by simp⟩
 | len+1,h=>by
  obtain ⟨l,xs,h1,h2,h3,h4,h5,h6,h7⟩:=aeA len λi hi=>h i bL;obtain ⟨c,a,hc,hg,hr,h1c⟩:=h len bL;obtain ⟨_,hcl,hcell⟩:=World.cells?_some hc;refine ⟨l++[a],xs++c,by simp [h1],λb hb=>?_,?_,λu hu=>?_,by rw [aO,h5,hcl,Nat.succ_mul],λj u hu=>?_,λb hb=>?_⟩
  .rcases aQ.1 hb with h|h
   .exact h2 b h
   .simp at h;subst h;exact hg
  .rw [List.map_append,mV];refine DA h3 ?_;simpa using hr
  .rcases aQ.1 hu with h|h
   .exact h4 u h
   .exact h1c u h
  .by_cases hj:j<xs.length
   .rw [aY hj] at hu;exact h6 j u hu
   .rw [bF bL] at hu;have hlt:j - xs.length<sz:=by rw [<- hcl];exact (aL.1 hu).1
    have:=hcell (j - xs.length) hlt;rw [Addr.add_add,hu] at this;rwa [(bL:len * sz+(j - xs.length)=j)] at this
  .rw [List.map_append] at hb;rcases aQ.1 hb with h|h
   .exact h7 b h
   .simp at h;subst h;rw [<- hr.len,hcl]
theorem jO (hB:Bulk bulk){e:TypeId}(ht:P.underlying t=some (.slice e)){α:Type}{C:α->Xa2}{G:α->Prop}(h:Opens enc P w base spare held bulk B n e C G) :
  Opens enc P w base spare held bulk B (n+1) t (λl:List α=>[.list (l.map C)]) (λl=>l.length<=B/\∀ a∈l,G a):=λfuel cs x hf hx hb=>by
 rcases DataW.trod_slice ht hx with ⟨rfl,rfl⟩|⟨ad,len,cap,elems,rest,m,rfl,rfl,rfl,hbase,hlc,hcap,hlen,hel,_,_⟩
 .exact ⟨[],⟨dN _,by simp⟩,sN .listN,by simp [Value.oneCell']⟩
 .simp only at hb;have hb1:=hB.len (elems.map (·.1)) (rest.map (·.1));rw [bR] at hb1;obtain ⟨l,xs,h1,h2,h3,h4,h5,h6,h7⟩:=aeA (w:=w) (base:=base) (C:=C) (G:=G) (ad:=ad) (sz:=P.cellsOf e) len λi hi=>by
   have:=hel i hi;rw [aA bL,Option.bind_eq_some_iff] at this;obtain ⟨c,hc,hd⟩:=this;obtain ⟨a,g1,g2,g3⟩:=h m c _ bL hd (dA (hB.el _ (rest.map (·.1)) _ (aS.2 ⟨_,aC bL,rfl⟩)) hb);exact ⟨c,a,hc,g1,g2,g3⟩
  refine ⟨l,⟨bL,h2⟩,sN ?_,by simp [Value.oneCell']⟩;have key:=RepV.list (M:=TD) (σ:=g9) (N:=pT) (w:=w) ad cap (P.cellsOf e) xs (l.map C) (by rw [bR];omega) hcap h7 h3.len h4 (λj u hu=>⟨λh=>h,h6 j u hu⟩) h3.Y;rw [bR,h1] at key;exact key
def abW (enc:TypeId × Value->H)(P:Program)(w:World)(base:Nat)(spare:Nat->Bool)(held:Bool)(bulk:DataW H->Nat)(B n:Nat):List TypeId->List Value->Prop
 | [],cs=>cs=[]
 | t :: ts,cs=>(∃ y,DataW.trod enc P w base spare held n t (cs.take (P.cellsOf t))=some y/\bulk y.1<=B)/\abW enc P w base spare held bulk B n ts (cs.drop (P.cellsOf t))
def Om (enc:TypeId × Value->H)(P:Program)(w:World)(base:Nat)(spare:Nat->Bool)(held:Bool)(bulk:DataW H->Nat)(B:Nat)(n:Nat)(ts:List TypeId){α:Type}(C:α->Xa2)(G:α->Prop):Prop :=
 ∀ (fuel:Nat) (cs:List Value),fuel<=n->abW enc P w base spare held bulk B fuel ts cs->∃ a,G a/\RepL TD g9 pT w cs (C a)/\∀ u∈cs,u.oneCell'=true
theorem gH:Om enc P w base spare held bulk B n [] (λ_:Unit=>[]) (λ_=>True):=λfuel cs _ h=>by
 have h:cs=[]:=h;subst h;exact ⟨(),trivial,⟨rfl,λj u d hu=>by simp at hu⟩,by simp⟩
theorem bH {ts:List TypeId}{α β:Type}{C:α->Xa2}{G:α->Prop}{C':β->Xa2}{G':β->Prop}(h:Opens enc P w base spare held bulk B n t C G)(k:Om enc P w base spare held bulk B n ts C' G') :
  Om enc P w base spare held bulk B n (t :: ts) (λp:α × β=>C p.1++C' p.2) (λp=>G p.1/\G' p.2):=λfuel cs hf hs=>by
 obtain ⟨⟨y,hy,hyb⟩,hs⟩:=hs;obtain ⟨a,a1,a2,a3⟩:=h fuel _ y hf hy hyb;obtain ⟨b,b1,b2,b3⟩:=k fuel _ hf hs;refine ⟨(a,b),⟨a1,b1⟩,?_,λu hu=>?_⟩
 .have:=DA a2 b2;rwa [List.take_append_drop] at this
 .rw [<- List.take_append_drop (P.cellsOf t) cs] at hu;rcases aQ.1 hu with h|h
  .exact a3 u h
  .exact b3 u h
def WD (P:Program):Nat->List Field->Option Nat
 | o,[]=>some o
 | o,f :: r=>if f.offset=o then WD P (o+P.cellsOf f.type) r else none
theorem Tf {fuel:Nat}{cs:List Value}:∀ (fs:List Field) (o:Nat),WD P o fs=some cs.length ->
  (∀ f∈fs,∃ y,DataW.trod enc P w base spare held fuel f.type ((cs.drop f.offset).take (P.cellsOf f.type))=some y/\bulk y.1<=B)->o<=cs.length/\abW enc P w base spare held bulk B fuel (fs.map (·.type)) (cs.drop o)
 | [],o,ho,_=>by
  simp only [WD,bG] at ho;subst ho;exact ⟨aT _,by show cs.drop cs.length=[];simp⟩
 | f :: fs,o,ho,h=>by
  unfold WD at ho;split at ho
  .rename_i hof;subst hof;obtain ⟨h1,h2⟩:=Tf fs _ ho λg hg=>h g (fg hg);refine ⟨bL,?_⟩;refine ⟨h f bS,?_⟩;rw [List.drop_drop];exact h2
  .cases ho
theorem eX (hB:Bulk bulk){fs:Array Field}(ht:P.underlying t=some (.struct fs))(ho:WD P 0 fs.toList=some (P.cellsOf t)){α:Type}{C:α->Xa2}{G:α->Prop}(h:Om enc P w base spare held bulk B n (fs.toList.map (·.type)) C G) :
  Opens enc P w base spare held bulk B (n+1) t C G:=λfuel cs x hf hx hb=>by
 obtain ⟨xs,m,rfl,rfl,hcl,hxl,hfl⟩:=DataW.trod_struct ht hx;simp only at hb;have hs:=(Tf (enc:=enc) (P:=P) (w:=w) (base:=base) (spare:=spare) (held:=held) (bulk:=bulk) (B:=B) (fuel:=m) (cs:=cs) fs.toList 0 (by rw [hcl];exact ho) λf hfm=>by
  obtain ⟨i,hi,rfl⟩:=aM hfm;have hi':i<fs.size:=by simpa using hi
  have hfi:=hfl i (fs.toList[i]) (fg hi');rw [aA bL] at hfi;exact ⟨_,hfi,dA (hB.part _ _ (aS.2 ⟨_,aC bL,rfl⟩)) hb⟩).2
 rw [List.drop_zero] at hs;exact h m cs bL hs
theorem JZ {r:Reach}{s:Nat}{q:Array Field}{v:Value}{d:DataW H}{i:List MemPlace}{α:Type}{C:α->Xa2}{G:α->Prop}(j:P.underlying t=some (.struct q))(h:∀ n,Opens enc P w base spare held bulk B n t C G)
  (c:Value.okWide P w r s t v) (l:DataW.Trod enc P w base spare held t v d i) (o:bulk d<=B):∃ a,G a/\RepV TD g9 pT w v (.agg (C a)):=by
 obtain ⟨f,rfl,_⟩:=okWide_struct j c;obtain ⟨b,k⟩:=l;obtain ⟨a,p,e,g⟩:=h b b _ _ (aT _) k o;have m:(Value.agg f).cells.toList=f.toList:=rfl;rw [m] at e g;have:=RepV.agg (M:=TD) (σ:=g9) (N:=pT) (w:=w) f.toList (C a) e.len g e.Y;exact ⟨a,p,by simpa using this⟩
theorem VO {r:Reach}{s:Nat}{e:TypeId}{v:Value}{d:DataW H}{g:List MemPlace}{α:Type}{c:α->D}{G:α->Prop}(j:P.underlying t=some (.slice e))(h:∀ n,Opens enc P w base spare held bulk B n t (λa=>[c a]) G)
  (f:Value.okWide P w r s t v) (l:DataW.Trod enc P w base spare held t v d g) (m:bulk d<=B):∃ a,G a/\RepV TD g9 pT w v (c a):=by
 obtain ⟨x,i,q,rfl⟩:=okWide_slice j f;obtain ⟨b,k⟩:=l;obtain ⟨a,p,o,u⟩:=h b b _ _ (aT _) k m;exact ⟨a,p,o.Y 0 _ _ rfl rfl⟩
theorem Cl (hl:laidOutB P=true){W W':World}{sp':Nat->Bool}(hb:Below W.heap.size W W'):∀ {ts:List TypeId} {vs:List Value} {ds:List (DataW H)} {ps:List MemPlace},(∀ t∈ts,P.readableRec t=true/\t<P.types.size) ->
  DataW.TrodAll enc P W 0 (λ_=>true) true ts vs ds ps->(∀ x∈ps,x.block<W.heap.size)->(∀ x∈ps,sp' x.block=true)->DataW.TrodAll enc P W' 0 sp' true ts vs ds ps
 | [],_,_,_,_,h,_,_=>by
  obtain ⟨rfl,rfl,rfl⟩:=trodAll_nil h;rfl
 | t :: ts,_,_,_,hr,h,hlt,hs=>by
  obtain ⟨v,vs,d,ds,p,q,rfl,rfl,rfl,h1,h2⟩:=trodAll_cons h;refine ⟨p,q,WideElems.Trod_stays hl (hr t bS).1 (hr t bS).2 h1 (λx hx=>hb.same (hlt x (fg hx))) (λx hx=>hs x (fg hx)),Cl hl hb (λu hu=>hr u (fg hu)) h2 (λx hx=>hlt x (fg hx)) (λx hx=>hs x (fg hx)),rfl⟩
theorem KF (L:laidOutB P=true){f:Func}{s:ChangeSpec}{d n c o:Bool}{W u:World}{args:Array Value}{v:Value}{ds A:List (DataW H)}{e:List MemPlace}
  (K:∀ t∈f.params.toList,P.readableRec t=true/\t<P.types.size) (a:s.vars=[]) (G:DataW.Whole enc P f.params.toList s.vars d W args.toList ds A e)
  (i:∀ (b:Nat) (g:Nat->Bool) (M:Bool),DataW.TrodAll enc P u b g M f.resultTypes.toList (v.resultList f.resultTypes.size) (s.fn H (ds++A)).results [])
  (l:(s.fn H (ds++A)).args=ds) (B:(s.fn H (ds++A)).vars=[]) (D:Below W.heap.size W u)
  (C:∀ (j:Nat) (t:TypeId) (r:Value),f.resultTypes[j]?=some t->(v.resultList f.resultTypes.size)[j]?=some r->Value.okWide P u .any 0 t r) :
  s.post enc P f d n c o W args v u:=by
 have m:=G;obtain ⟨p,q,N,I,rfl,E,F⟩:=G;rw [a] at I;obtain ⟨rfl,rfl⟩:=trodVars_none I;rw [dG] at m E F;have k:∀ x∈p,x.block<W.heap.size:=λx h=>by simpa using m.lt x h
 have z:∀ g:Nat->Bool,(∀ x∈p,g x.block=true)->DataW.TrodAll enc P u 0 g true f.params.toList args.toList (s.fn H (ds++[])).args p:=λg J=>by
  rw [l];exact Cl L D K N k J
 have y:∀ g:Nat->Bool,DataW.TrodVars enc P u g s.vars (s.fn H (ds++[])).vars []:=λg=>by rw [a,B];rfl
 refine ⟨ds,[],p,[],p,[],m,i _ _ _,z _ (λx h=>by simpa using k x h),y _,World.keptBut_mono (λx h=>⟨h,.inr (cG h)⟩) (D.frame (·∈p)),λ_=>?_⟩;refine ⟨C,_,_,([]++p)++[],⟨[]++p,[],trodAll_append (z _ (λ_ _=>rfl)) (i _ _ _),y _,rfl,?_,?_⟩,?_⟩
 .intro b off hp;have w:MemPlace.cell b off∈p:=by simpa using hp
  have:=E b off w;rw [<- this];exact D.frozen (k _ w)
 .intro ha;simpa using F ha
 .intro x h _;simpa using h
end
end Go.Abs
end
section
set_option maxRecDepth 100000
set_option maxHeartbeats 4000000
open Go Go.Proofs Tryz
namespace Go.Abs
section
variable {H:Type} {enc:TypeId × Value→H} {P:Program} {w:World} {base:Nat} {spare:Nat→Bool} {held:Bool} {bulk:DataW H→Nat} {B:Nat} {n:Nat} {t:TypeId}
end
section
variable {H:Type} {enc:TypeId × Value→H} {w:World} {base:Nat} {spare:Nat→Bool} {held:Bool} {bulk:DataW H→Nat} {B:Nat}
theorem op4:∀ n,Opens enc prog w base spare held bulk B n 4 (λb:Bool=>[D.bool b]) (λ_=>True):=λn=>R4 underlying4
end
theorem Vs (t:Types)(q:t.ok)(a:Int)(y:0<=a)(vs:Xa0):Pua 51 [t.d,dI a,dLI vs] (dI (iW t a vs)):=by
 refine Tz.pK ⟨λt=>t==10,λ_=>[]⟩ func51 rfl (λQ i=>?_);have Y:=trivial;refine wv (h:=?_);repeat first|intro _|refine ⟨iV,?_⟩
 refine wq (λw=>?_) λw=>?_
 .have hE:iW t a vs=6:=by unfold iW;rw [if_pos bL]
  exact wv (h:=i _ _ (eD hE))
 .have hkn:a.toNat<t.i.length:=bL;have u:At t a.toNat=t.i[a.toNat].cO:=by simp [At,aA hkn]
  have b:iW t a vs=if At t a.toNat=true then 13 else if vs.length≠(bZ t a).length then 20 else b6 (DS (bZ t a) vs) 0 (bZ t a).length:=by unfold iW;rw [if_neg bL]
  rw [u] at b;have Y:=xa1 Y (aA hkn) @NodeTy.c.eq_1;refine wv (h:=?_);repeat first|intro _|refine ⟨iV,?_⟩
  refine wq (λn=>?_) λn=>?_
  .rw [if_pos (cG n)] at b;exact wv (h:=i _ _ (eD b))
  .rw [if_neg (cG n)] at b;refine wv (h:=aB (sJ t q a) wl ?_);refine wv (h:=?_);repeat first|intro _|refine ⟨iV,?_⟩
   refine wq (λv=>?_) λv=>?_
   .rw [if_pos bL] at b;exact wv (h:=i _ _ (eD b))
   .rw [if_neg bL] at b;have r:vs.length=(bZ t a).length:=bL;refine wo (h:=bA (λk e H=>(e 3=.adr t.c/\e 2=dLI vs/\e 33=.list ((bZ t a).map Attr.c)/\e 34=dI (bZ t a).length/\e 35=dI k)/\(k<=(bZ t a).length)/\(b6 (DS (bZ t a) vs) k ((bZ t a).length - k)=iW t a vs)) (λk=>(bZ t a).length - k) 0 ⟨wg,wi,(by exact b.symm)⟩ λz m k e H l=>?_);obtain ⟨x,s,p⟩:=l;have Y:=wa Y x;refine dD (λj=>?_) λj=>?_
    .have hv:k<vs.length:=bL;have f:=fG (DS (bZ t a) vs) j;rw [p] at f;have g:DS (bZ t a) vs k=if vs[k]<(bZ t a)[k].am\/(bZ t a)[k].aw<vs[k] then 6 else 0:=by simp only [DS,aA hv,aA j,aF]
     have Y:=xa3 Y j (aA hv) (aA j) @Attr.c.eq_1;refine wv (h:=?_);repeat first|intro _|refine ⟨iV,?_⟩
     refine wq (λo=>?_) λo=>?_
     .rw [if_pos bL] at g;rw [g,if_pos bL] at f;exact wv (h:=i _ _ (eD f))
     .rw [if_neg bL] at g;rw [g,if_neg bL] at f;exact wo (h:=wx m (k+1) ⟨wg,wj,(by exact f.symm)⟩)
    .have hZ:iW t a vs=0:=by rw [<- p,(bL:(bZ t a).length - k=0)];rfl
     exact wv (h:=i _ _ (eD hZ))
theorem rU (t:Types)(w:t.ok)(h:Host):Pua 21 [t.d,h.d] (.tup [dI (oZ t h).1,dI (oZ t h).2]):=by
 refine Tz.pK ⟨λt=>t==13,λ_=>[]⟩ func21 rfl (λQ l=>?_);have Y:=wa @Host.d.eq_1 @Host.c.eq_1;refine wv (h:=aB (nY t w) wl ?_);refine dD (λD=>?_) λD=>?_
 .have hE:oZ t h=(-1,(cW t).2):=by unfold oZ;rw [if_pos (cG D)]
  exact wv (h:=l _ _ (eD hE))
 .have hE0:oZ t h=if graphF h.o≠0 then (-1,graphF h.o) else if h.values.length≠h.o.i.length then (-1,20) else if (iJ (Jq t h) 0 h.o.i.length).2≠0 then iJ (Jq t h) 0 h.o.i.length else iJ (Vt t h) 0 h.o.j.length:=by unfold oZ;rw [if_neg (cG D)]
  refine wv (h:=aB (oG h.o) wl ?_);refine dD (λs=>?_) λs=>?_
  .rw [if_pos (cG s)] at hE0;exact wv (h:=l _ _ (eD hE0))
  .rw [if_neg (cG s)] at hE0;have q:graphF h.o=0:=by simpa using s
   have p:=eI q;have I:=bW q;refine dZ (λJ=>?_) λJ=>?_
   .rw [if_pos bL] at hE0;exact wv (h:=l _ _ (eD hE0))
   .rw [if_neg bL] at hE0;refine wo (h:=bA (λi e H=>(e 2=.adr t.c/\e 3=.adr h.c/\e 38=dLI h.o.i/\e 39=dI h.o.i.length/\e 40=dI i)/\(i<=h.o.i.length)/\(iJ (Jq t h) i (h.o.i.length - i)=iJ (Jq t h) 0 h.o.i.length)) (λi=>h.o.i.length - i) 0 ⟨wg,wi,(by rfl)⟩ λP C i e H A=>?_);obtain ⟨L,N,G⟩:=A;have Y:=wa Y L;refine dD (λg=>?_) λg=>?_
    .have hv:i<h.values.length:=bL;have y:0<=h.o.i[i]:=(p.1 _ (aC g)).1;have a:=tU (Jq t h) g;rw [G] at a;have r:Jq t h i=iW t h.o.i[i] h.values[i]:=by simp only [Jq,aA hv,aA g,aF]
     have Y:=xa3 Y g (aA hv) (aA g) @cL.eq_1;refine wo (h:=aJ (Vs t w h.o.i[i] y h.values[i]) wl ?_);refine dZ (λk=>?_) λk=>?_
     .rw [r,if_pos (cG k)] at a;rw [a,if_pos (cG k)] at hE0;exact wv (h:=l _ _ (eD hE0))
     .rw [r,if_neg (cG k)] at a;exact wo (h:=wx C (i+1) ⟨wg,wj,(by exact a.symm)⟩)
    .have hN0:iJ (Jq t h) 0 h.o.i.length=(-1,0):=by rw [<- G,(bL:h.o.i.length - i=0)];rfl
     rw [hN0,if_neg bS] at hE0;refine wo (h:=bA (λj e H=>(e 2=.adr t.c/\e 3=.adr h.c/\e 60=.list (h.o.j.map Edge.c)/\e 61=dI h.o.j.length/\e 62=dI j)/\(j<=h.o.j.length)/\(iJ (Vt t h) j (h.o.j.length - j)=oZ t h)) (λj=>h.o.j.length - j) 0 ⟨wg,wi,(by exact hE0.symm)⟩ λO B j e H z=>?_);obtain ⟨K,M,F⟩:=z;have Y:=wa Y K;refine dD (λf=>?_) λf=>?_
     .obtain ⟨x,v⟩:=cY (h.o.j[j]);have u:=(p.2 _ (aC f)).2;rw [<- v] at u;have o:x.from_.toNat<h.o.i.length:=bL;have n:x.L.toNat<h.o.i.length:=bL;have a:=tU (Vt t h) f;rw [F] at a;have b:Vt t h j=if (t.j.length:Int)<=x.type then 6 else if qF t x.type h.o.i[x.from_.toNat] h.o.i[x.L.toNat]=true then 0 else 13:=by simp only [Vt,gN,aA f,aF,<- v,aA o,aA n]
      have Y:=xa4 Y f (aA f) (Eq.symm v) (aA o) (aA n);refine dZ (λE=>?_) λE=>?_
      .rw [if_pos bL] at b;rw [b,if_pos bL] at a;exact wv (h:=l _ _ (eD a))
      .rw [if_neg bL] at b;refine wo (h:=aJ (HM t w x.type h.o.i[x.from_.toNat] h.o.i[x.L.toNat]) wl ?_);refine dZ (λm=>?_) λm=>?_
       .rw [if_neg (cG m)] at b;rw [b,if_pos bL] at a;exact wv (h:=l _ _ (eD a))
       .rw [if_pos (cG m)] at b;rw [b,if_neg bL] at a;exact wo (h:=wx B (j+1) ⟨wg,wj,(by exact a.symm)⟩)
     .have hZ:oZ t h=(-1,0):=by rw [<- F,(bL:h.o.j.length - j=0)];rfl
      exact wv (h:=l _ _ (eD hZ))
end Go.Abs
end
section
set_option maxRecDepth 60000
set_option maxHeartbeats 4000000
open Go Go.Proofs Tryz
namespace Go.Abs
def TS (s:Int):Int:=if s<0 then -1 else 0
def P7 (s:Int):Int:=s % 18446744073709551616
theorem VR (x y:Int)(b:0<=x)(a:0<=y)(w:World):(callFunc 361 #[.int .u64 x,.int .u64 y,.int .u64 0]).run prog w =
  .ok (.value (.tuple #[.int .u64 ((x+y+0) % 18446744073709551616),.int .u64 ((x+y+0) / 18446744073709551616)])) w:=by
 rw [run_callFunc_extern func361 en en en (e:=add64Entry) en,run_add64 x y 0 b a bL bL];rfl
open RowKit in
theorem Ra (a b:Int)(j : -4000000<=a/\a<=4000000)(i : -4000000<=b/\b<=4000000)(w:World) :
  Calls prog 313 #[.int .i64 a,.int .i64 b] w λe w'=>e=.returned (.tuple #[.int .i64 (TS (a+b)),.int .u64 (P7 (a+b))])/\w'=w:=by
 have h:=VR (IntKind.u64.wrap a) (IntKind.u64.wrap b) (by rw [IntKind.wrap_u64];omega) (by rw [IntKind.wrap_u64];omega) w;simp only [Int.add_zero] at h
 go_enter func313,ntmps313
 go_wp2
 have d:IntKind.u64.wrap a=if a<0 then a+18446744073709551616 else a:=by rw [IntKind.wrap_u64];split<;>omega
 have c:IntKind.u64.wrap b=if b<0 then b+18446744073709551616 else b:=by rw [IntKind.wrap_u64];split<;>omega
 have g:wrap64 (a / 9223372036854775808+b / 9223372036854775808+wrap64 ((IntKind.u64.wrap a+IntKind.u64.wrap b) / 18446744073709551616))=TS (a+b):=by
  rw [d,c];unfold TS wrap64
  repeat' split
  all_goals omega
 have f:(IntKind.u64.wrap a+IntKind.u64.wrap b) % 18446744073709551616=P7 (a+b):=by
  rw [d,c];unfold P7
  repeat' split
  all_goals omega
 rw [g,f]
 go_ret2
 exact ⟨rfl,rfl⟩
theorem Al (a b:Int)(o : -4000000<=a/\a<=4000000)(n : -4000000<=b/\b<=4000000):Pua 313 [dI a,dI b] (.tup [dI (TS (a+b)),.int .u64 (P7 (a+b))]):=by
 refine ⟨⟨Tryz.f313,func313,rfl,rfl⟩,λM w c s h=>?_⟩;have l:c=[.int .i64 a,.int .i64 b]:=by
  obtain ⟨m,k⟩:=h;match c,m with
  | [x,y],_ =>
   have q:=k 0 x _ rfl rfl;have i:=k 1 y _ rfl rfl;cases q
   cases i
   rfl
 subst l;exact (Ra a b o n w).mono λe r ⟨i,p⟩=>⟨_,i,.tup _ _ rfl (λj u d f g=>by
  match j with
  | 0=>simp at f g;subst f;subst g;exact .int _ _
  | 1=>simp at f g;subst f;subst g;exact .int _ _
  | j+2=>simp at f),by subst p;exact ⟨rfl,rfl,rfl,aT _,λ_ _=>rfl⟩⟩
theorem wT (x:Term)(vs:Xa0)(g:rF x vs.length)(i:Sm vs):Pua 312 [.agg x.c,.adr [dLI vs]] (.tup [dI (TS (dJ x vs)),.int .u64 (P7 (dJ x vs)),.bool true]):=by
 have a:=g;obtain ⟨⟨o,n⟩,m,l⟩:=a;refine Tz.p0 func312 rfl λQ d _=>?_;have Y:=@Term.c.eq_1;refine dD (λk=>?_) λk=>?_
 .have b:dJ x vs=0+x.add:=by unfold dJ;rw [if_pos bL];omega
  refine wv (h:=aB (Al 0 x.add bL bL) wl ?_);exact wv (h:=d _ _ (eD b))
 .have hk:x.var.toNat<vs.length:=bL;have j:=i.get hk;have b:dJ x vs=vs[x.var.toNat]+x.add:=by unfold dJ;rw [if_neg bL,aA hk];rfl
  have f:¬ x.var<0:=bL;have e:¬ (vs.length:Int)<=x.var:=bL;have Y:=xa2 Y (aA hk) f e;refine wo (h:=aJ (Al vs[x.var.toNat] x.add j bL) wl ?_);exact wo (h:=d _ _ (eD b))
theorem JJ (a:Int):Pua 362 [.int .u64 a] (.bool false):=by
 refine Tz.p0 func362 rfl λQ b Y=>?_;exact wv (h:=b _ _ wy)
theorem N3 (a b:Int):Pua 314 [.int .u64 a,.int .u64 b] (dI (cmp1 a b)):=by
 refine Tz.p0 func314 rfl λQ e Y=>?_;refine wv (h:=aB (JJ a) wl ?_);refine wv (h:=aB (JJ b) wl ?_);refine dD (λd=>?_) λd=>?_
 .have Y:=xa1 Y d @cmp1.eq_1;exact wv (h:=e _ _ wy)
 .refine dD (λc=>?_) λc=>?_
  .have Y:=xa2 Y d c @cmp1.eq_1;exact wv (h:=e _ _ wy)
  .have Y:=xa2 Y d c @cmp1.eq_1;exact wv (h:=e _ _ wy)
def Ys (a b:Int):Int:=Tx [cmp1 (TS a) (TS b),cmp1 (P7 a) (P7 b)]
theorem Yr {a b:Int}(f : -10000000<=a/\a<=10000000)(e : -10000000<=b/\b<=10000000):Ys a b=if a<b then -1 else if b<a then 1 else 0:=by
 have d:P7 a=if a<0 then a+18446744073709551616 else a:=by unfold P7;split<;>omega
 have c:P7 b=if b<0 then b+18446744073709551616 else b:=by unfold P7;split<;>omega
 unfold Ys;simp only [Tx,cmp1,TS,d,c]
 repeat' split
 all_goals omega
theorem HT {x:Term}{vs:Xa0}(a:rF x vs.length)(b:Sm vs) : -10000000<=dJ x vs/\dJ x vs<=10000000:=by
 obtain ⟨⟨g,f⟩,e,d⟩:=a;unfold dJ;split
 .omega
 .have hk:x.var.toNat<vs.length:=bL;have c:=b.get hk;rw [aA hk,aF];omega
theorem y3 (x:Test)(vs:Xa0)(i:J6 x vs.length)(b:Sm vs):Pua 252 [.agg x.c,dLI vs] (.bool (B9 x vs)):=by
 obtain ⟨m,f,d⟩:=i;have g:=Yr (HT f b) (HT d b);have a:Ys (dJ x.left vs) (dJ x.right vs)=Tx [cmp1 (TS (dJ x.left vs)) (TS (dJ x.right vs)),cmp1 (P7 (dJ x.left vs)) (P7 (dJ x.right vs))]:=rfl;obtain ⟨o,j⟩:=cY (Ys (dJ x.left vs) (dJ x.right vs));rw [<- j] at g a;have k:B9 x vs=(decide (x.kind=1)&&decide (o<=0)||decide (x.kind=2)&&decide (o=0)):=by
  unfold B9;rw [g,bB];simp;constructor
  .rintro (⟨h1,h2⟩|⟨h1,h2⟩)
   .left;refine ⟨h1,?_⟩;split<;>(try split)<;>omega
   .right;refine ⟨h1,?_⟩;rw [h2];simp
  .rintro (⟨h1,h2⟩|⟨h1,h2⟩)
   .left;refine ⟨h1,?_⟩;split at h2<;>(try split at h2)<;>omega
   .right;refine ⟨h1,?_⟩;split at h2<;>(try split at h2)<;>omega
 refine Tz.p0 func252 rfl λQ l _=>?_;have Y:=@Test.c.eq_1;refine wv (h:=?_);refine aB (wT x.left vs f b) wl ?_;refine wv (h:=?_);refine aB (wT x.right vs d b) wl ?_;refine wv (h:=?_);repeat first|intro _|refine ⟨iV,?_⟩
 refine aB (lQ (TS (dJ x.left vs)) (TS (dJ x.right vs))) wl ?_;refine wv (h:=?_);repeat first|intro _|refine ⟨iV,?_⟩
 refine aB (N3 (P7 (dJ x.left vs)) (P7 (dJ x.right vs))) wl ?_;refine wv (h:=?_);repeat first|intro _|refine ⟨iV,?_⟩
 refine aB ((by have e:=SI [cmp1 (TS (dJ x.left vs)) (TS (dJ x.right vs)),cmp1 (P7 (dJ x.left vs)) (P7 (dJ x.right vs))];rw [<- a] at e;exact e)) wl ?_;refine wv (h:=?_);repeat first|intro _|refine ⟨iV,?_⟩
 exact l _ _ (by simp [go_sem,k]<;>(first|rfl|(rw [bB];simp)))
theorem nA (x:Term)(vs:Xa0)(e:rF x vs.length)(f:Sm vs):Pua 251 [.agg x.c,dLI vs] (dI (dJ x vs)):=by
 have a:=e;obtain ⟨⟨l,k⟩,j,i⟩:=a;refine Tz.p0 func251 rfl λQ b _=>?_;have Y:=@Term.c.eq_1;refine dD (λd=>?_) λd=>?_
 .exact wv (h:=b _ _ (by simp [go_sem,dJ,d]))
 .have hk:x.var.toNat<vs.length:=bL;have g:=f.get hk;have Y:=wa Y (aA hk);exact wo (h:=b _ _ (by simp [go_sem,dJ,(bL:¬ x.var<0),aA hk]))
theorem oL (x:Term)(vs:Xa0)(d:rF x vs.length)(e:Sm vs):Pua 324 [.agg x.c,dLI vs] (.tup [dI (dJ x vs),dI 0]):=by
 have a:=d;obtain ⟨⟨k,j⟩,i,g⟩:=a;have b:inF x.var (-1) ((vs.length:Int) - 1)=true:=by unfold inF;simp;omega
 refine Tz.p0 func324 rfl λQ f _=>?_;have Y:=wa @Term.c.eq_1 b;refine wo (h:=aB (kJ x.var (-1) ((vs.length:Int) - 1)) wl ?_);refine wo (h:=aB (nA x vs d e) wl ?_);exact wo (h:=f _ _ wy)
end Go.Abs
end
section
set_option maxRecDepth 100000
set_option maxHeartbeats 4000000
open Go Go.Proofs Tryz
namespace Go.Abs
theorem Ie (t:Types)(a:Int):Pua 358 [dI a,.adr t.c] (.bool (decide ((t.i.length:Int)<=a))):=by
 refine Tz.p0 func358 rfl λQ b Y=>?_;exact wo (h:=b _ _ wy)
theorem Id (t:Types)(x:Edge):Pua 359 [.agg x.c,.adr t.c] (.bool (decide ((t.j.length:Int)<=x.type))):=by
 refine Tz.p0 func359 rfl λQ a Y=>?_;exact wo (h:=a _ _ wy)
theorem Cn (t:Types)(g:Graph):Pua 310 [t.d,g.d] (.bool (iB t g)):=by
 refine Tz.p0 func310 rfl λQ e Y=>?_;refine wo (h:=aB (iF g.i 358 [.adr t.c] (λa=>decide ((t.i.length:Int)<=a)) eh eh (λa _=>Ie t a)) wl ?_);refine wo (h:=aN (λb=>mS g.j 359 [.adr t.c] (λx=>decide ((t.j.length:Int)<=x.type)) eh eh (λx _=>Id t x)) (λb=>wl) ?_);exact wo (h:=e _ _ (by simp [go_sem,iB];rw [bB];simp))
theorem Lj (t:Types){g:Graph}(d:graphF g=0):iB t g=nL t g:=by
 have c:=eI d;have f:(g.i.any λn=>decide ((t.i.length:Int)<=n))=g.i.any λa=>!insideF t a:=by
  rw [bB,aZ,aZ];constructor<;>rintro ⟨a,b,h⟩<;>refine ⟨a,b,?_⟩<;>have:=c.1 a b<;>simp [insideF] at h ⊢<;>omega
 have e:(g.j.any λx=>decide ((t.j.length:Int)<=x.type))=g.j.any λx=>!qG t x:=by
  rw [bB,aZ,aZ];constructor<;>rintro ⟨a,b,h⟩<;>refine ⟨a,b,?_⟩<;>have:=(c.2 a b).1<;>simp [qG] at h ⊢<;>omega
 unfold iB nL;rw [f,e]
def gvE (p g:Graph)(i:Nat):Int:=if i=0 then graphF p else graphF g
theorem aa3 (p g:Graph):b6 (gvE p g) 0 2=if graphF p≠0 then graphF p else if graphF g≠0 then graphF g else 0:=by simp [b6,gvE]
theorem tN (t:Types)(z:t.ok)(p g:Graph):Pua 249 [t.d,p.d,g.d] (dI (eZ t p g)):=by
 refine Tz.pK ⟨λt=>t==10,λ_=>[]⟩ func249 rfl (λQ m=>?_);have Y:=trivial;refine wv (h:=aB (nY t z) wl ?_);refine dD (λs=>?_) λs=>?_
 .have hA:eZ t p g=(cW t).2:=by unfold eZ;rw [if_pos (cG s)]
  exact wv (h:=m _ _ (eD hA))
 .have hA:eZ t p g=if graphF p≠0 then graphF p else if graphF g≠0 then graphF g else if (!nL t p||!nL t g)=true then 13 else 0:=by unfold eZ;rw [if_neg (cG s)]
  refine wo (h:=bA (λi e H=>(e 3=.adr t.c/\e 4=.adr p.c/\e 5=.adr g.c/\e 22=.list [p.c,g.c]/\e 23=dI 2/\e 24=dI i)/\(i<=2)/\(b6 (gvE p g) i (2 - i)=b6 (gvE p g) 0 2)) (λi=>2 - i) 0 ⟨wg,wi,(by rfl)⟩ λE r i e H o=>?_);obtain ⟨B,C,u⟩:=o;have Y:=wa Y B;refine dD (λv=>?_) λv=>?_
  .have hi2:i<2:=bL;have a:=fG (gvE p g) hi2;rw [u] at a;obtain ⟨x,y,j⟩:∃ x:Graph,[[D.list (p.i.map cI),D.list (p.j.map Edge.c)],[D.list (g.i.map cI),D.list (g.j.map Edge.c)]][i]?=some [D.list (x.i.map cI),D.list (x.j.map Edge.c)]/\gvE p g i=graphF x:=by
    rcases bD i 1 with h|h
    .obtain rfl:i=0:=bL;exact ⟨p,rfl,rfl⟩
    .obtain rfl:i=1:=bL;exact ⟨g,rfl,rfl⟩
   have q:=oG x;have Y:=xa1 Y v y;refine wo (h:=aB (q) wl ?_);refine dZ (λn=>?_) λn=>?_
   .have hR:eZ t p g=graphF x:=by
     rw [j,if_pos (cG n),aa3] at a;rw [hA];by_cases w:graphF p=0
     .rw [if_neg (fg w)] at a ⊢;by_cases l:graphF g=0
      .rw [if_neg (fg l)] at a;exact absurd a.symm n
      .rw [if_pos l] at a ⊢;exact a
     .rw [if_pos w] at a ⊢;exact a
    exact wv (h:=m _ _ (eD hR))
   .rw [j,if_neg (cG n)] at a;exact wo (h:=wx r (i+1) ⟨wg,wj,(by exact a.symm)⟩)
  .have hz:b6 (gvE p g) 0 2=0:=by rw [<- u,(bL:2 - i=0)];rfl
   have f:graphF p=0:=fF _ _ hz 0 bL bL;have k:graphF g=0:=fF _ _ hz 1 bL bL;rw [if_neg (cG f),if_neg (cG k),<- Lj t f,<- Lj t k] at hA;refine wo (h:=aB (Cn t p) wl ?_);refine wo (h:=aN (λA=>Cn t g) (λA=>wl) ?_);refine dZ (λb=>?_) λb=>?_
   .rw [if_pos (by simpa [qM] using b)] at hA;exact wv (h:=m _ _ (eD hA))
   .rw [if_neg (by simpa [qM] using b)] at hA;exact wv (h:=m _ _ (eD hA))
/-! ### below -/
def tH (n:Nat)(l:Xa0):List Bool:=(List.range n).map λ(b:Nat)=>mem l (b:Int)
@[go_sem] theorem Vd (n:Nat)(l:Xa0):(tH n l).length=n:=by simp [tH]
theorem Vc (n:Nat):tH n []=List.replicate n false:=by
 apply gF (by simp [tH]);intro i b a;simp [tH,DR]
theorem R9 (n:Nat)(l:Xa0)(x:Int)(c:0<=x):tH n (l++[x])=(tH n l).set x.toNat true:=by
 apply gF (by simp [tH]);intro i b a;rw [B8];simp only [tH,vQ,rJ,yM];split
 .rename_i h;rw [cX];right;simp;omega
 .rename_i h;rw [show decide ((i:Int)=x)=false by simp;omega,xW]
def Nl (t:Types)(a:Nat):List Bool:=tH t.i.length (lF t a)
def tE (t:Types)(n:Nat):Xa1:=(List.range n).map λa=>[.list ((Nl t a).map cB)]
def belowD (t:Types):D:=.list (tE t t.i.length)
theorem RF (t:Types)(n:Nat):tE t (n+1)=tE t n++[[.list ((Nl t n).map cB)]]:=by simp [tE,c6]
@[go_sem] theorem acN (t:Types)(n:Nat):(tE t n).length=n:=by simp [tE]
@[go_sem] theorem Wj (t:Types)(n:Nat):D.T (tE t n)=true:=by
 unfold tE;exact dL (λa=>[.list ((Nl t a).map cB)]) (λa=>by simp [D.N,go_sem]) _
theorem VL {t:Types}{a:Int}{x:Int}(h:x∈lF t a):0<=x/\x<t.i.length:=by
 unfold lF at h;split at h
 .simp at h;omega
 .cases h
theorem S3 (t:Types)(a:Int):(lF t a).length<=t.i.length:=by
 unfold lF;split
 .rw [bR];exact dA (iC _ _) bS
 .simp
@[go_sem] theorem ac6 (t:Types):(belowD t).U=true:=Wj t _
theorem Du (t:Types)(w:t.ok):Pua 316 [t.d] (belowD t):=by
 have x:=w.bh;refine Tz.pK ⟨λt=>t==3||t==5||t==19,λ_=>[]⟩ func316 rfl (λQ A=>?_);have Y:=trivial;refine wo (h:=bA (λi e H=>(e 1=.adr t.c/\e 11=.list (t.i.map NodeTy.c)/\e 12=dI t.i.length/\e 3=.own 0 i/\e 13=dI i)/\(H.get 0=some ⟨103,1,tE t i,false⟩)/\(0<H.next)/\(i<=t.i.length)) (λi=>t.i.length - i) 0 ⟨wg,(by simp [go_sem,tE]),wn,wi⟩ λG u i e H p=>?_);obtain ⟨C,m,f,E⟩:=p;have Y:=xa2 Y C m (bU f);refine dD (λy=>?_) λy=>?_
 .have hll:=S3 t i;have Y:=wa Y y;refine wo (h:=aB (OL t w i) wl ?_);refine wo (h:=bA (λk e H=>∃ q:Nat,(e 1=.adr t.c/\e 11=.list (t.i.map NodeTy.c)/\e 12=dI t.i.length/\e 3=.own 0 i/\e 13=dI i/\e 4=dI i/\e 5=.own q t.i.length/\e 26=dLI (lF t i)/\e 27=dI (lF t i).length/\e 28=dI k)/\(H.get 0=some ⟨103,1,tE t i,false⟩)/\(0<H.next)/\(H.get q=some ⟨4,1,(tH t.i.length ((lF t i).take k)).map cB,false⟩)/\(q<H.next)/\(k<=(lF t i).length)/\(0<q)) (λk=>(lF t i).length - k) 0 ⟨H.next,wg,wn,wn,(by simp [go_sem,Vc]),wn,wi,wi⟩ λF s k e H o=>?_);obtain ⟨q,B,l,b,j,a,D,z⟩:=o;have v:=b8 (bL:q≠0);have Y:=xa5 Y B l (bU b) j (bU a) v;refine dD (λg=>?_) λg=>?_
  .have hbx:=VL (aC g);have r:(lF t i)[k].toNat<(tH t.i.length ((lF t i).take k)).length:=by rw [Vd];omega
   have n:tH t.i.length ((lF t i).take (k+1))=(tH t.i.length ((lF t i).take k)).set (lF t i)[k].toNat true:=by rw [aD g,R9 _ _ _ hbx.1]
   have Y:=xa4 Y g (aA g) (aA r) hbx.1 hbx.2;exact wo (h:=wx s (k+1) ⟨q,wg,wn,wn,(by simp [go_sem,Y,n,c8,cB]),wn,wj,wj⟩)
  .have hke:(lF t i).take k=lF t i:=aH bL;have Y:=wa Y hke;exact wo (h:=wx u (i+1) ⟨wg,(by simp [go_sem,Y,RF,Nl]),wn,wj⟩)
 .exact wv (h:=A _ _ (by simp [go_sem,Y,belowD,(bL:i=t.i.length)]))
theorem NS {t:Types}(a:(cW t).2=0){k:Int}(h:0<=k/\k<t.i.length):given2F t k k=0:=by
 unfold given2F;rw [if_neg (by rw [a];simp),if_pos (by simp [insideF];omega)]
@[go_sem] theorem aeB (t:Types)(a:Nat):(Nl t a).length=t.i.length:=by simp [Nl,tH]
theorem Lt {t:Types}{a:Int}(h:0<=a/\a<t.i.length):(tE t t.i.length)[a.toNat]?=some [.list ((Nl t a.toNat).map cB)]:=by
 unfold tE;rw [aW,vT bL];rfl
theorem S0 {t:Types}(d:(cW t).2=0){a b:Int}(e:0<=a/\a<t.i.length)(f:0<=b/\b<t.i.length):mem (lF t a) b=Ab t a b:=by
 unfold lF Ab;rw [if_pos (NS d e),bB,mem_iff,aS];constructor
 .rintro ⟨k,c,rfl⟩;rw [dR] at c;simpa using c.2
 .intro h;exact ⟨b.toNat,by rw [dR];exact ⟨by simp;omega,h⟩,bL⟩
theorem O4 {t:Types}(e:(cW t).2=0){a b:Int}(d:0<=a/\a<t.i.length)(c:0<=b/\b<t.i.length):(Nl t a.toNat)[b.toNat]?=some (Ab t a b):=by
 unfold Nl tH;rw [aW,vT bL,fS,Int.toNat_of_nonneg d.1,Int.toNat_of_nonneg c.1,S0 e d c]
theorem Dt (t:Types)(L:t.ok)(p g:Graph)(u:G17 t p g)(K:(cW t).2=0)(m:Part):Pua 255 [t.d,p.d,g.d,m.d] (dI (jY t p g m false)):=by
 have P:=bW u.gp;have O:=bW u.gg;have y:=(eI u.gp).2;refine Tz.pK ⟨λt=>t==14||t==15,λr=>match r with|17=>[(0,10),(1,10),(3,10),(4,10),(5,10),(6,10),(8,10),(9,10),(0,11),(1,11),(3,11),(4,11),(5,11),(6,11),(8,11),(9,11),(10,11),(5,12),(6,12),(8,12),(9,12)]|_=>[]⟩ func255 rfl (λQ l=>?_);have Y:=@belowD.eq_1;refine dZ (λS=>?_) λS=>?_
 .have hM:jY t p g m false=20:=by unfold jY;rw [if_pos bL]
  exact wv (h:=l _ _ (eD hM))
 .have hM:jY t p g m false=(if b6 (LZ t p g m) 0 p.i.length≠0 then b6 (LZ t p g m) 0 p.i.length else if b6 (jP p g m) 0 p.j.length≠0 then b6 (jP p g m) 0 p.j.length else if false=true/\(¬ m.i.Nodup\/¬ m.j.Nodup) then 5 else 0):=by unfold jY;rw [if_neg bL]
  have N:m.i.length=p.i.length:=bL;have M:m.j.length=p.j.length:=bL;refine wv (h:=aB (Du t L) wl ?_);refine wo (h:=bA (λi e H=>(e 4=.adr t.c/\e 5=.adr p.c/\e 6=.adr g.c/\e 7=.adr m.c/\e 9=.list (tE t t.i.length)/\e 35=dLI m.i/\e 36=dI m.i.length/\e 37=dI i)/\(i<=m.i.length)/\(b6 (LZ t p g m) i (p.i.length - i)=b6 (LZ t p g m) 0 p.i.length)) (λi=>m.i.length - i) 0 ⟨wg,wi,(by rfl)⟩ λI0 D i e H A=>?_);obtain ⟨U,X,I⟩:=A;have Y:=wa Y U;refine dD (λv=>?_) λv=>?_
  .have hn:i<p.i.length:=bL;have a:=fG (LZ t p g m) hn;rw [I] at a;have f:LZ t p g m i=(if m.i[i]<0\/(g.i.length:Int)<=m.i[i] then 6 else if Ab t p.i[i] (g.i[m.i[i].toNat]?.getD 0)=true then 0 else 13):=by simp only [LZ,aA v,aA hn,aF]
   have s:=u.tp _ (aC hn);have Y:=xa2 Y v (aA v) (aA hn);refine dZ (λR=>?_) λR=>?_
   .rw [if_pos bL] at f;rw [f,if_pos bL] at a;rw [a,if_pos bL] at hM;exact wv (h:=l _ _ (eD hM))
   .have hkb:m.i[i].toNat<g.i.length:=bL;rw [if_neg bL,aA hkb,aF] at f;have B:=u.tg _ (aC hkb);have w:=Lt s;have x:=O4 K s B;have Y:=xa2 Y (aA hkb) w x;refine dZ (λE=>?_) λE=>?_
    .rw [if_neg (cG E)] at f;rw [f,if_pos bL] at a;rw [a,if_pos bL] at hM;exact wv (h:=l _ _ (eD hM))
    .rw [if_pos (cG E)] at f;rw [f,if_neg bL] at a;exact wo (h:=wx D (i+1) ⟨wg,wj,(by exact a.symm)⟩)
  .have hN0:b6 (LZ t p g m) 0 p.i.length=0:=by rw [<- I,(bL:p.i.length - i=0)];rfl
   rw [hN0,if_neg bL] at hM;refine wo (h:=bA (λk e H=>(e 4=.adr t.c/\e 5=.adr p.c/\e 6=.adr g.c/\e 7=.adr m.c/\e 9=.list (tE t t.i.length)/\e 69=dLI m.j/\e 70=dI m.j.length/\e 71=dI k)/\(k<=m.j.length)/\(b6 (jP p g m) k (p.j.length - k)=b6 (jP p g m) 0 p.j.length)) (λk=>m.j.length - k) 0 ⟨wg,wi,(by rfl)⟩ λZ C k e H z=>?_);obtain ⟨T,W,J⟩:=z;have Y:=wa Y T;refine dD (λj=>?_) λj=>?_
   .have hn:k<p.j.length:=bL;have a:=fG (jP p g m) hn;rw [J] at a;have V:=y _ (aC hn);have q:p.j[k].from_.toNat<m.i.length:=bL;have o:p.j[k].L.toNat<m.i.length:=bL;have b:jP p g m k=(if m.j[k]<0\/(g.j.length:Int)<=m.j[k] then 6 else if p.j[k].type≠(g.j[m.j[k].toNat]?.getD cK).type then 13 else if m.i[p.j[k].from_.toNat]≠(g.j[m.j[k].toNat]?.getD cK).from_\/m.i[p.j[k].L.toNat]≠(g.j[m.j[k].toNat]?.getD cK).L then 11 else 0):=by
     simp only [jP,aA j,aA hn,aF,aA q,aA o]
    have Y:=xa4 Y j (aA j) (aA hn) (aA q) (aA o);refine dZ (λG=>?_) λG=>?_
    .rw [if_pos bL] at b;rw [b,if_pos bL] at a;rw [a,if_pos bL] at hM;exact wv (h:=l _ _ (eD hM))
    .have hkb:m.j[k].toNat<g.j.length:=bL;rw [if_neg bL,aA hkb,aF] at b;have Y:=wa Y (aA hkb);refine dZ (λn=>?_) λn=>?_
     .rw [if_pos n] at b;rw [b,if_pos bL] at a;rw [a,if_pos bL] at hM;exact wv (h:=l _ _ (eD hM))
     .rw [if_neg (cG n)] at b;refine dZ (λF=>?_) λF=>?_
      .rw [if_pos bL] at b;rw [b,if_pos bL] at a;rw [a,if_pos bL] at hM;exact wv (h:=l _ _ (eD hM))
      .rw [if_neg bL] at b;rw [b,if_neg bL] at a;exact wo (h:=wx C (k+1) ⟨wg,wj,(by exact a.symm)⟩)
   .have hE0:b6 (jP p g m) 0 p.j.length=0:=by rw [<- J,(bL:p.j.length - k=0)];rfl
    rw [hE0,if_neg bL] at hM;rw [if_neg bS] at hM;exact wv (h:=l _ _ (eD hM))
/-! ### the finder -/
theorem Ko (i:Nat):Pua 386 [.nil,dI i] (dI (-1)):=by
 refine Tz.p0 func386 rfl λQ a Y=>?_;exact wv (h:=a _ _ wy)
theorem Na (l:Xa0){i:Nat}(h:i<l.length):Pua 386 [dLI l,dI i] (dI l[i]):=by
 have a:l≠[]:=λe=>by rw [e] at h;simp at h
 refine Tz.p0 func386 rfl λQ b _=>?_;have Y:=wa (aA h) a;exact wo (h:=b _ _ wy)
def GivD (d:D)(l:Xa0)(n:Nat):Prop:=d.U=true/\∀ i,i<n->Pure prog 386 [d,dI i] (dI (l[i]?.getD (-1)))
theorem GivD.nil (n:Nat):GivD .nil (List.replicate n (-1)) n:=⟨rfl,λi hi=>by
 have:=Ko i;rw [j6,if_pos hi];exact this⟩
theorem GivD.list (l:Xa0):GivD (dLI l) l l.length:=⟨pA l,λi hi=>by rw [aA hi];exact Na l hi⟩
theorem M9 (k n:Int):Pua 403 [dI k,.adr [dI n]] (.bool (decide (k < -1)||decide (n<=k))):=by
 refine Tz.p0 func403 rfl λQ a Y=>?_;exact wo (h:=a _ _ wy)
theorem Mk {f:Nat->Int}{c:Int}(h:∀ j,f j=0\/f j=c):∀ n k,b6 f k n=0\/b6 f k n=c
 | 0,k=>.inl rfl
 | n+1,k=>by
  unfold b6;split
  .rename_i h1;exact .inr ((h k).resolve_left h1)
  .exact Mk h n (k+1)
theorem PP (l:Xa0)(n:Int):oY l n=if (l.any λk=>decide (k < -1)||decide (n<=k))=true then 6 else 0:=by
 by_cases h:(l.any λk=>decide (k < -1)||decide (n<=k))=true
 .rw [if_pos h];rcases Mk (f:=DN n l) (c:=6) (λj=>by unfold DN;split<;>simp) l.length 0 with h0|h0
  .obtain ⟨x,d,a⟩:=aZ.1 h;obtain ⟨i,e,rfl⟩:=aM d;have:=fF _ _ h0 i bL bL;unfold DN at this;rw [aA e,aF] at this;simp only [cX,decide_eq_true_eq] at a;rw [if_pos a] at this;cases this
  .exact h0
 .rw [if_neg h];refine rY _ _ λj _ g=>?_;unfold DN;rw [if_neg];intro a;have b:j<l.length:=bL;rw [aA b,aF] at a;exact h (aZ.2 ⟨_,aC b,by simpa using a⟩)
theorem F7 (l:Xa0)(n:Int):Pua 402 [dLI l,dI n] (dI (oY l n)):=by
 refine Tz.p0 func402 rfl λQ b Y=>?_;refine wv (h:=aB (iF l 403 [.adr [dI n]] (λk=>decide (k < -1)||decide (n<=k)) eh eh (λk _=>M9 k n)) wl ?_);refine dD (λa=>?_) λa=>?_
 .have hO:oY l n=6:=by rw [PP,if_pos (cG a)]
  exact wv (h:=b _ _ (eD hO))
 .have hO:oY l n=0:=by rw [PP,if_neg (cG a)]
  exact wv (h:=b _ _ (eD hO))
def Srch.aq (S:Srch)(most:Int)(pn pe ns es ou:D):Xa2:=[dLI S.p.i,.list (S.p.j.map Edge.c),dLI S.g.i,.list (S.g.j.map Edge.c),.list (tE S.t S.t.i.length),pn,pe,.bool S.inj,dI most,ns,es,ou]
def G7 (S:Srch)(l:Xa0)(i k:Nat):Bool:=Bq S.pe i k&&Bn S l i k
theorem F9 (S:Srch)(most:Int)(q pe es r:D)(f:q.U=true)(o:es.U=true)(m:r.U=true)(l:Xa0)(i k:Nat)(n:i<S.p.j.length)(u:k<S.g.j.length)
  (a:GivD pe S.pe S.p.j.length) (A:0<=S.p.j[i].from_) (x:S.p.j[i].from_.toNat<l.length) (w:0<=S.p.j[i].L) (d:S.p.j[i].L.toNat<l.length) :
  Pua 388 [.adr (S.aq most q pe (dLI l) es r),dI i,dI k] (.bool (G7 S l i k)):=by
 have j:=a.1;obtain ⟨v,s⟩:=cY (S.pe[i]?.getD (-1));have b:=a.2 i n;rw [<- s] at b;have e:Bq S.pe i k=(decide (v<0)||decide (v=(k:Int))):=by unfold Bq;rw [<- s]
 have B:Bn S l i k=(decide (S.g.j[k].type=S.p.j[i].type)&&(decide (S.g.j[k].from_=l[S.p.j[i].from_.toNat])&&decide (S.g.j[k].L=l[S.p.j[i].L.toNat]))):=by
  simp only [Bn,edX,Xf,aA u,aA n,aF,aA x,aA d];simp
 refine Tz.pK ⟨λt=>t==7,λ_=>[]⟩ func388 rfl (λQ y=>?_);have Y:=xa8 @Srch.aq.eq_1 (aA n) (aA u) (aA x) (aA d) @Edge.c.eq_1 f o m j;refine wo (h:=aB (b) wl ?_);refine dZ (λz=>?_) λz=>?_
 .have hE:G7 S l i k=false:=by unfold G7;rw [e,show decide (v<0)=false by simp;omega,show decide (v=(k:Int))=false by simp;omega];rfl
  exact wv (h:=y _ _ (eD hE))
 .have hE:G7 S l i k=Bn S l i k:=by
   unfold G7;rw [e];rcases Int.lt_or_le v 0 with h|h
   .simp [h]
   .simp [z h]
  exact wo (h:=y _ _ (by simp [go_sem,hE,B,DW,Bool.and_assoc]))
theorem GY (S:Srch)(K:graphF S.p=0)(T:graphF S.g=0)(most:Int)(q r es s:D)(d:q.U=true)(m:es.U=true)(f:s.U=true)(l:Xa0)(u:GivD r S.pe S.p.j.length) :
  Pua 387 [.adr (S.aq most q r (dLI l) es s)] (.bool (wG S l)):=by
 have v:=u.1;have A:=(eI K).2;have R:=bW K;have P:=bW T;have U:D.N (S.aq most q r (dLI l) es s)=true:=by simp [go_sem,Srch.aq,D.N,d,m,f,v]
 refine Tz.pK ⟨λt=>t==5,λ_=>[]⟩ func387 rfl (λQ N=>?_);have Y:=xa3 @Srch.aq.eq_1 d m f v;refine wo (h:=bA (λi e H=>(e 0=.adr (S.aq most q r (dLI l) es s)/\e 3=dI ((l.length:Int) - 1)/\e 18=.list (S.p.j.map Edge.c)/\e 19=dI S.p.j.length/\e 20=dI i)/\(i<=S.p.j.length)/\(∀ j,j<i->IN S l j=true)) (λi=>S.p.j.length - i) 0 ⟨wg,wi,(by intro j B;omega)⟩ λI0 w i e H E=>?_);obtain ⟨X,hi,G⟩:=E;have Y:=wa Y X;refine dD (λo=>?_) λo=>?_
 .have hxi:=(A _ (aC o)).2;have n:IN S l i=(decide (max S.p.j[i].from_ S.p.j[i].L≠(l.length:Int) - 1)||(List.range S.g.j.length).any (G7 S l i)):=by
   unfold IN;rw [aA o,aF];rfl
  have Y:=xa2 Y o (aA o) @Edge.c.eq_1;refine dZ (λO=>?_) λO=>?_
  .have hKi:IN S l i=true:=by rw [n];simp;omega
   exact wo (h:=wx w (i+1) ⟨wg,wj,(by intro j B;rcases bD j i with hji|hji;exact G j hji;(obtain rfl:j=i:=bL;exact hKi))⟩)
  .have hf:S.p.j[i].from_.toNat<l.length:=bL;have F:S.p.j[i].L.toNat<l.length:=bL;have z:=hxi.1.1;have y:=hxi.2.1;have V:=o;have Y:=wa Y O;refine wo (h:=bA (λk e H=>(e 0=.adr (S.aq most q r (dLI l) es s)/\e 3=dI ((l.length:Int) - 1)/\e 18=.list (S.p.j.map Edge.c)/\e 19=dI S.p.j.length/\e 20=dI i/\e 4=dI i/\e 6=.bool false/\e 37=dI S.g.j.length/\e 38=dI k)/\(k<=S.g.j.length)/\((List.range k).any (G7 S l i)=false)) (λk=>S.g.j.length - k) 0 ⟨wg,wi,(by rfl)⟩ λI2 I k e H C=>?_);obtain ⟨W,Z,M⟩:=C;have Y:=wa Y W;refine dD (λx=>?_) λx=>?_
   .obtain ⟨fb,L⟩:∃ b,b=G7 S l i k:=⟨_,rfl⟩;have Y:=wa Y x;refine wv (h:=aB (F9 S most q r es s d m f l i k V x u z hf y F) wl ?_);refine dD (λa=>?_) λa=>?_
    .have hKi:IN S l i=true:=by
      rw [n,cX];right;exact aZ.2 ⟨k,by simpa using x,by simpa using a⟩
     exact wo (h:=wx w (i+1) ⟨wg,wj,(by intro j B;rcases bD j i with hji|hji;exact G j hji;(obtain rfl:j=i:=bL;exact hKi))⟩)
    .have hfb:G7 S l i k=false:=by simpa using a
     have Y:=wa Y a;exact wo (h:=wx I (k+1) ⟨wg,wj,(by rw [BA,M,hfb];rfl)⟩)
   .have hb0:(List.range S.g.j.length).any (G7 S l i)=false:=by rw [(bL:S.g.j.length=k)];exact M
    have J:wG S l=false:=by
     simp only [wG,s8,bN];exact ⟨i,o,by rw [n,hb0];simp;omega⟩
    exact wo (h:=N _ _ (eD J))
 .have J:wG S l=true:=by
   simp only [wG,cF,bN];exact λj B=>G j bL
  exact wv (h:=N _ _ (eD J))
def Mm (S:Srch)(N:Nat)(ns es:Xa0)(out:List Part):List Part:=if ns.length<S.p.i.length then Tr S N (S.p.i.length - ns.length) ns out else Kl S N ns (S.p.j.length - es.length) es out
theorem Ws (S:Srch){N:Nat}(d:Nat)(l:Xa0){a:List Part}(h:N<=a.length):Tr S N d l a=a:=by cases d<;>simp only [Tr,if_pos h]
theorem Jw (S:Srch){N:Nat}(ns es:Xa0){a:List Part}(h:N<=a.length):Mm S N ns es a=a:=by
 unfold Mm;split;exact Ws S _ _ h;exact H5 _ _ _ h
theorem Jv (S:Srch)(N:Nat)(ns:Xa0)(a:List Part):Mm S N ns [] a=Tr S N (S.p.i.length - ns.length) ns a:=by
 unfold Mm;split
 .rfl
 .rename_i h;rw [(bL:S.p.i.length - ns.length=0)];simp only [Tr,i6,Nat.sub_zero];split
  .rename_i h2;exact H5 _ _ _ h2
  .rfl
structure FdS (f a b o:Nat) (S:Srch) (N:Nat) (pn pe:D) (ns es:Xa0) (out:List Part) (H:AHeap):Prop where
 bf:H.get f=some ⟨379,12,[S.aq N pn pe (.own a ns.length) (.own b es.length) (.own o out.length)],false⟩
 ba:H.get a=some ⟨3,1,ns.map cI,false⟩
 bb:H.get b=some ⟨3,1,es.map cI,false⟩
 bo:H.get o=some ⟨55,2,out.map Part.c,false⟩
 le:out.length<=N
 nf:f<H.next/\a<H.next/\b<H.next/\o<H.next
 d:(f≠a/\f≠b/\f≠o)/\(a≠b/\a≠o)/\b≠o
@[go_sem] theorem abI (H:AHeap)(i:Nat):(H.drop i).next=H.next:=rfl
@[go_sem] theorem ac2 (H:AHeap)(i j:Nat):(H.drop i).get j=if j=i then none else H.get j:=rfl
theorem x8 {H:AHeap}{d:D}(h:d.U=true):fM H d=d:=by cases d<;>first|rfl|simp [D.U] at h
def XM (S:Srch)(N:Nat)(pn pe:D)(f o m:Nat):Prop :=
  ∀ (ns es:Xa0) (out:List Part) (a b:Nat) (G:AHeap) (Q:D->AHeap->Prop),(S.p.i.length - ns.length)+(S.p.j.length - es.length)=m->ns.length<=S.p.i.length->es.length<=S.p.j.length->(ns.length<S.p.i.length->es=[])->FdS f a b o S N pn pe ns es out G ->
  (∀ a' b' H',FdS f a' b' o S N pn pe ns es (Mm S N ns es out) H'->Q (.tup []) H')->ACalls prog 360 [.ptr f 1 0 0] G Q
theorem Nf (S:Srch)(A:G17 S.t S.p S.g)(hv:(cW S.t).2=0)(N:Nat)(hN:N<=5001)(pn E:D)(X:GivD pn S.pn S.p.i.length)(Z:GivD E S.pe S.p.j.length)(f o:Nat)(m:Nat)(ih:∀ k,k<m->XM S N pn E f o k)(ns es:Xa0)(i:List Part)(a b:Nat)(G:AHeap)(Q:D->AHeap->Prop)(hm:(S.p.i.length - ns.length)+(S.p.j.length - es.length)=m)(f5:ns.length<=S.p.i.length)(f0:es.length<=S.p.j.length)(c5:ns.length<S.p.i.length->es=[])(hF:FdS f a b o S N pn E ns es i G)
  (hQ:∀ a' b' H',FdS f a' b' o S N pn E ns es (Mm S N ns es i) H'->Q (.tup []) H') (c6:ns.length<S.p.i.length) :
  ACalls prog 360 [.ptr f 1 0 0] G Q:=by
 have f7:=bW A.gp;have f6:=bW A.gg;have f8:∀ x∈S.p.j,(0<=x.from_/\x.from_<S.p.i.length)/\(0<=x.L/\x.L<S.p.i.length):=λx hx=>((eI A.gp).2 x hx).2;obtain ⟨gf,ga,gb,go,a5,⟨lf,la,lb,lo⟩,⟨d1,d2,d3⟩,⟨d4,d5⟩,d6⟩:=hF;have ff:=bU lf;have fa:=bU la;have fb:=bU lb;have fo:=bU lo;have w:=X.1;have F:=Z.1;have b6:∀ H:AHeap,fM H pn=pn:=λH=>x8 w;have W:∀ H:AHeap,fM H E=E:=λH=>x8 F;refine (Tz.cK ⟨λ_=>false,λr=>match r with|0=>[(2,16),(3,16),(4,16)]|_=>[]⟩ func360 rfl ?_);have e8:=xa4 (b8 (bL:o≠b)) (b8 (bL:o≠a)) (b8 (bL:o≠f)) (b8 (bL:b≠a)) (b8 (bL:b≠f)) (b8 (bL:a≠f));have Y:=xa3 gf ga gb go (xb0 ff fa fb fo @Part.c.eq_1 @Srch.aq.eq_1 w F b6 W c6 e8);refine jH (λh1=>?_) λh1=>?_
 .have hX:Mm S N ns es i=i:=Jw S _ _ bL;refine wv (h:=?_);exact hQ a b _ (by rw [hX];exact ⟨gf,ga,gb,go,a5,⟨by first|exact lf|(simp;omega),by first|exact la|(simp;omega),by first|exact lb|(simp;omega),by first|exact lo|(simp;omega)⟩,⟨d1,d2,d3⟩,⟨d4,d5⟩,d6⟩)
 .have hnf:¬ N<=i.length:=bL;have c9:=c5 bL;subst c9;obtain ⟨U,c0⟩:∃ U,S.p.i.length - ns.length=U+1:=⟨S.p.i.length - ns.length - 1,bL⟩;have C:ns.length<S.p.i.length:=bL;have a7:=A.tp _ (aC C);have b4:=Lt a7;obtain ⟨v,V⟩:=cY (S.pn[ns.length]?.getD (-1));have a6:=X.2 ns.length C;rw [<- V] at a6;have a0:∀ j (hj:j<S.g.i.length),LM S ns j=((decide (v<0)||decide (v=(j:Int)))&&(!(S.inj&&mem ns j)&&Ab S.t S.p.i[ns.length] S.g.i[j])):=λj hj=>by
   simp only [LM,Bq,<- V,aA hj,aA C,aF]
  have Y:=xa1 Y (aA C) b4;refine wp (h:=bA (λj e H=>∃ s:Nat,∃ q:Nat,∃ n:List Part,(e 0=.ptr f 1 0 0/\e 2=dI ns.length/\e 61=dLI S.g.i/\e 62=dI S.g.i.length/\e 63=dI j)/\(H.get f=some ⟨379,12,[S.aq N pn E (.own s ns.length) (.own q 0) (.own o n.length)],false⟩)/\(f<H.next)/\(H.get s=some ⟨3,1,ns.map cI,false⟩)/\(s<H.next)/\(H.get q=some ⟨3,1,[],false⟩)/\(q<H.next)/\(H.get o=some ⟨55,2,n.map Part.c,false⟩)/\(o<H.next)/\(f≠s)/\(f≠q)/\(s≠q)/\(s≠o)/\(q≠o)/\(j<=S.g.i.length)/\(n.length<=N)/\(n=(List.range j).foldl (λn k=>if (LM S ns k&&wG S (ns++[(k:Int)]))=true then Tr S N U (ns++[(k:Int)]) n else n) i)) (λj=>S.g.i.length - j) 0 ⟨a,b,i,wg,wn,wn,wn,wn,wn,wn,wn,wn,wi,wi,wi,wi,wi,wi,(by exact a5),(by rfl)⟩ λI1 K j e H c4=>?_);obtain ⟨s,q,n,E1,b0,R,O,J,M,I,a9,P,e1,e2,e3,e4,e5,hj,l,B⟩:=c4;have e7:=xa4 (b8 (bL:o≠q)) (b8 (bL:o≠s)) (b8 (bL:o≠f)) (b8 (bL:q≠s)) (b8 (bL:q≠f)) (b8 (bL:s≠f));have Y:=xa9 Y E1 b0 (bU R) O (bU J) M (bU I) a9 (bU P) e7;refine dD (λh5=>?_) λh5=>?_
  .have hEj:=a0 j h5;have c7:=A.tg _ (aC h5);have b5:=O4 hv a7 c7;have Y:=xa2 Y h5 (aA h5) b5;refine wp (h:=aB (a6) wl ?_);refine wp (h:=KQ (λhg=>gX ns j) wr (λhg=>wl) (λhg=> rfl) rfl wrd ?_);refine jH (λh8=>?_) λh8=>?_
   .have hE:(LM S ns j&&wG S (ns++[(j:Int)]))=false:=by
     have:LM S ns j=false:=by
      rw [hEj,bP];intro hT;simp at hT;obtain ⟨c1,c2,c3⟩:=hT;rcases h8 with (⟨k1,T⟩|k1)|⟨k1,T⟩
      .rcases c1 with c1|c1
       .omega
       .exact T c1
      .rw [k1] at c3;cases c3
      .rcases c2 with c2|c2
       .rw [k1] at c2;cases c2
       .rw [T] at c2;cases c2
     rw [this];rfl
    obtain ⟨u,d⟩:∃ x,x=n:=⟨_,rfl⟩;obtain ⟨a2,z⟩:∃ x,x=s:=⟨_,rfl⟩;obtain ⟨b2,y⟩:∃ x,x=q:=⟨_,rfl⟩;have Y:=xa2 Y d z y;exact wp (h:=wx K (j+1) ⟨a2,b2,u,wg,wn,wn,wn,wn,wn,wn,wn,wn,wj,wj,wj,wj,wj,wj,(by rw [d];first|exact l|exact RY A.gp _ _ l),(by rw [eP,<- B,d];first|rw [if_pos hE]|rw [if_neg (by rw [hE];simp)])⟩)
   .have hO:LM S ns j=true:=by
     obtain ⟨⟨k1,T⟩,k3⟩:=h8;have c1:(decide (v<0)||decide (v=(j:Int)))=true:=by simp;omega
     have c2:(S.inj&&mem ns (j:Int))=false:=by cases hI:S.inj;rfl;simp [k3 hI]
     rw [hEj,c1,T,c2];rfl
    have a4:(S.p.i.length - (ns++[(j:Int)]).length)+(S.p.j.length - ([]:Xa0).length)=m - 1:=by simp at hm ⊢;omega
    obtain ⟨m',b7⟩:∃ x,x=m - 1:=⟨_,rfl⟩;rw [<- b7] at a4;have Y:=wa Y h8;refine wp (h:=GH (GY S A.gp A.gg N pn E (dLI []) (.list (n.map Part.c)) w (by simp [D.U,go_sem]) (by simp [D.U,yJ]) (ns++[(j:Int)]) Z) wrq wl rfl ?_);refine jH (λL=>?_) λL=>?_
    .have hE:(LM S ns j&&wG S (ns++[(j:Int)]))=true:=by rw [hO,L];rfl
     obtain ⟨u,d⟩:∃ x,x=Tr S N U (ns++[(j:Int)]) n:=⟨_,rfl⟩;have b9:S.p.i.length - (ns.length+1)=U:=bL;have Y:=xa1 Y b9 (Eq.symm d);refine wv (h:=?_);unfold dQ;refine ih m' bL (ns++[(j:Int)]) [] n s q _ _ a4 et bS (λ_=>rfl) ⟨by simp [go_sem,Y],by simp [go_sem,Y],by simp [go_sem,Y],by simp [go_sem,Y],l,⟨by simp [go_sem];omega,by simp [go_sem];omega,by simp [go_sem];omega,by simp [go_sem];omega⟩,⟨e1,e2,d3⟩,⟨e3,e4⟩,e5⟩ (λa3 b3 H3 a8=>?_);rw [Jv] at a8;obtain ⟨d7,d9,d8,d0,e9,⟨f2,f4,f3,f1⟩,⟨x1,x2,x3⟩,⟨x4,x5⟩,x6⟩:=a8;have e0:=xa2 (bU (bL:f<H3.next)) (bU (bL:a3<H3.next)) (bU (bL:b3<H3.next)) (bU (bL:o<H3.next));have e6:=xa4 (b8 (bL:o≠b3)) (b8 (bL:o≠a3)) (b8 (bL:o≠f)) (b8 (bL:b3≠a3)) (b8 (bL:b3≠f)) (b8 (bL:a3≠f));obtain ⟨a2,z⟩:∃ x,x=H3.next:=⟨_,rfl⟩;obtain ⟨b2,y⟩:∃ x,x=b3:=⟨_,rfl⟩;have Y:=xa7 Y d7 d9 d8 d0 e0 e6 z y;exact wp (h:=IT (Ghosts.trunc (.refl _) f 0 9 a3 ns.length _ _ _ (by simp [go_sem,Y];rfl) rfl rfl (by simp [go_sem,Y];rfl) cl rfl bL) (j+1) bL ((K _ _ _).2 ⟨a2,b2,u,wg,wn,wn,wn,wn,wn,wn,wn,wn,wj,wj,wj,wj,wj,wj,(by rw [d];first|exact l|exact RY A.gp _ _ l),(by rw [eP,<- B,d];first|rw [if_pos hE]|rw [if_neg (by rw [hE];simp)])⟩))
    .have hE:(LM S ns j&&wG S (ns++[(j:Int)]))=false:=by rw [hO,L];rfl
     obtain ⟨u,d⟩:∃ x,x=n:=⟨_,rfl⟩;obtain ⟨a2,z⟩:∃ x,x=H.next+41:=⟨_,rfl⟩;obtain ⟨b2,y⟩:∃ x,x=q:=⟨_,rfl⟩;have Y:=xa2 Y d z y;exact wp (h:=IT (Ghosts.trunc (.refl _) f 0 9 s ns.length _ _ _ (by simp [go_sem,Y];rfl) rfl rfl (by simp [go_sem,Y];rfl) cl rfl bL) (j+1) bL ((K _ _ _).2 ⟨a2,b2,u,wg,wn,wn,wn,wn,wn,wn,wn,wn,wj,wj,wj,wj,wj,wj,(by rw [d];first|exact l|exact RY A.gp _ _ l),(by rw [eP,<- B,d];first|rw [if_pos hE]|rw [if_neg (by rw [hE];simp)])⟩))
  .have hJ:j=S.g.i.length:=bL;have c8:Mm S N ns [] i=n:=by rw [Jv,c0];simp only [Tr];rw [if_neg hnf,B,hJ]
   refine wv (h:=?_);exact hQ s q _ (by rw [c8];exact ⟨by assumption,by assumption,by assumption,by assumption,l,⟨by assumption,by assumption,by assumption,by assumption⟩,⟨e1,e2,d3⟩,⟨e3,e4⟩,e5⟩)
end Go.Abs
end
