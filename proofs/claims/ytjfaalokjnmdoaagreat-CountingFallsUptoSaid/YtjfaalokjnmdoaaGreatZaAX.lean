/- From a reading of an argument to an abstract value of a type -/
import Derived.Test.YtjfaalokjnmdoaaGreatZaAE
import Derived.Test.YtjfaalokjnmdoaaGreatZaAW
import Derived.Carry
import Derived.ChangeArms
import Derived.WideShapes
import Derived.DataElems
import Derived.Test.YtjfaalokjnmdoaaGreatRows
import Derived.OpenShut
set_option linter.unusedVariables false
set_option linter.unusedSimpArgs false
section
namespace Go.Abs
open Go.ChangeShapes Go.WideShapes Go.RowKit
structure Bulk {H:Type} (bulk:DataW H→Nat):Prop where
 len:∀ e s,e.length≤bulk (.slice e s)
 el:∀ e s,∀ d∈e,bulk d≤bulk (.slice e s)
 part:∀ l,∀ d∈l,bulk d≤bulk (.agg l)
 str:∀ s:List UInt8,s.length≤bulk (.lit (.string s))
abbrev N5:Nat→Prop:=fun _=>False
section
variable {H:Type} {enc:TypeId × Value→H} {P:Program} {w:World} {base:Nat} {spare:Nat→Bool} {held:Bool} {bulk:DataW H→Nat} {B:Nat}
def Opens (enc:TypeId × Value→H)(P:Program)(w:World)(base:Nat)(spare:Nat→Bool)(held:Bool)(bulk:DataW H→Nat)(B:Nat)(n:Nat)(t:TypeId){α:Type}(C:α→List D)(G:α→Prop):Prop :=
 ∀ (fuel:Nat) (cs:List Value) (x:DataW H × List MemPlace),fuel≤n→DataW.trod enc P w base spare held fuel t cs=some x→bulk x.1≤B →
  ∃ a,G a∧RepL N5 gB pM w cs (C a)∧∀ u∈cs,u.oneCell'=true
variable {n:Nat} {t:TypeId}
theorem Opens.mono {α:Type}{C:α→List D}{G:α→Prop}{m:Nat}(h:Opens enc P w base spare held bulk B n t C G)(hm:m≤n):Opens enc P w base spare held bulk B m t C G :=
 fun fuel cs x hf hx hb=>h fuel cs x (cN hf hm) hx hb
theorem Opens.zero {α:Type}{C:α→List D}{G:α→Prop}:Opens enc P w base spare held bulk B 0 t C G:=fun fuel cs x hf hx _=>by
 have:fuel=0:=by omega
 subst this
 simp [DataW.trod] at hx
theorem Opens.map {α β:Type}{C:α→List D}{G:α→Prop}{C':β→List D}{G':β→Prop}(h:Opens enc P w base spare held bulk B n t C G)(f:α→β)(hC:∀ a,C a=C' (f a))(hG:∀ a,G a→G' (f a)):Opens enc P w base spare held bulk B n t C' G' :=
 fun fuel cs x hf hx hb=>by
  obtain ⟨a,h1,h2,h3⟩:=h fuel cs x hf hx hb
  exact ⟨f a,hG a h1,by rw [← hC];exact h2,h3⟩
theorem qH {v:Value}{d:D}(h:RepV N5 gB pM w v d):RepL N5 gB pM w [v] [d] :=
 ⟨rfl,fun j u x hu hx=>by
  cases j with
  | zero=>simp at hu hx;subst hu;subst hx;exact h
  | succ j=>simp at hu⟩
theorem K8 {a b:List Value}{c d:List D}(h:RepL N5 gB pM w a c)(k:RepL N5 gB pM w b d):RepL N5 gB pM w (a++b) (c++d):=by
 refine ⟨by simp [h.len,k.len],fun j u x hu hx=>?_⟩
 by_cases hj:j<a.length
 ·rw [bA hj] at hu
  rw [bA (by rw [← h.len];exact hj)] at hx
  exact h.rep j u x hu hx
 ·rw [bK (by omega)] at hu
  rw [bK (by rw [← h.len];omega),← h.len] at hx
  exact k.rep _ u x hu hx
theorem N2 (ht:P.underlying t=some .bool):Opens enc P w base spare held bulk B n t (fun b:Bool=>[D.bool b]) (fun _=>True):=fun fuel cs x _ hx _=>by
 obtain ⟨b,rfl,_⟩:=DataW.trod_bool ht hx
 exact ⟨b,trivial,qH (.bool b),by simp [Value.oneCell']⟩
theorem WC {α:Type}{C:α→List D}{G:α→Prop}{ad:Addr}{sz:Nat}:∀ (len:Nat),
  (∀ i,i<len→∃ c a,w.cells? base (ad.add (i * sz)) sz=some c∧G a∧RepL N5 gB pM w c (C a)∧∀ u∈c,u.oneCell'=true) →
  ∃ (l:List α) (xs:List Value),l.length=len∧(∀ a∈l,G a)∧RepL N5 gB pM w xs (l.map C).flatten∧(∀ u∈xs,u.oneCell'=true)∧xs.length=len * sz ∧
   (∀ (j:Nat) (u:Value),xs[j]?=some u→w.cell? (ad.add j)=some u)∧∀ c∈l.map C,c.length=sz
 | 0,_=>⟨[],[],rfl,by simp,⟨rfl,fun j u d hu=>by simp at hu⟩,by simp,by simp,by simp,by simp⟩
 | len+1,h=>by
  obtain ⟨l,xs,h1,h2,h3,h4,h5,h6,h7⟩:=WC len fun i hi=>h i (by omega)
  obtain ⟨c,a,hc,hg,hr,h1c⟩:=h len (by omega)
  obtain ⟨_,hcl,hcell⟩:=World.cells?_some hc
  refine ⟨l++[a],xs++c,by simp [h1],fun b hb=>?_,?_,fun u hu=>?_,by rw [aG,h5,hcl,Nat.succ_mul],fun j u hu=>?_,fun b hb=>?_⟩
  ·rcases bD.1 hb with h|h
   ·exact h2 b h
   ·simp at h;subst h;exact hg
  ·rw [List.map_append,iQ]
   refine K8 h3 ?_
   simpa using hr
  ·rcases bD.1 hu with h|h
   ·exact h4 u h
   ·exact h1c u h
  ·by_cases hj:j<xs.length
   ·rw [bA hj] at hu;exact h6 j u hu
   ·rw [bK (by omega)] at hu
    have hlt:j - xs.length<sz:=by rw [← hcl];exact (aO.1 hu).1
    have:=hcell (j - xs.length) hlt
    rw [Addr.add_add,hu] at this
    rwa [show len * sz+(j - xs.length)=j by omega] at this
  ·rw [List.map_append] at hb
   rcases bD.1 hb with h|h
   ·exact h7 b h
   ·simp at h;subst h;rw [← hr.len,hcl]
theorem oP (hB:Bulk bulk){e:TypeId}(ht:P.underlying t=some (.slice e)){α:Type}{C:α→List D}{G:α→Prop}(h:Opens enc P w base spare held bulk B n e C G) :
  Opens enc P w base spare held bulk B (n+1) t (fun l:List α=>[.list (l.map C)]) (fun l=>l.length≤B∧∀ a∈l,G a):=fun fuel cs x hf hx hb=>by
 rcases DataW.trod_slice ht hx with ⟨rfl,rfl⟩|⟨ad,len,cap,elems,rest,m,rfl,rfl,rfl,hbase,hlc,hcap,hlen,hel,_,_⟩
 ·exact ⟨[],⟨dY _,by simp⟩,qH .listN,by simp [Value.oneCell']⟩
 ·simp only at hb
  have hb1:=hB.len (elems.map (·.1)) (rest.map (·.1))
  rw [bE] at hb1
  obtain ⟨l,xs,h1,h2,h3,h4,h5,h6,h7⟩:=WC (w:=w) (base:=base) (C:=C) (G:=G) (ad:=ad) (sz:=P.cellsOf e) len fun i hi=>by
   have:=hel i hi
   rw [aA (by omega),Option.bind_eq_some_iff] at this
   obtain ⟨c,hc,hd⟩:=this
   obtain ⟨a,g1,g2,g3⟩:=h m c _ (by omega) hd (cN (hB.el _ (rest.map (·.1)) _ (aU.2 ⟨_,aB (by omega),rfl⟩)) hb)
   exact ⟨c,a,hc,g1,g2,g3⟩
  refine ⟨l,⟨by omega,h2⟩,qH ?_,by simp [Value.oneCell']⟩
  have key:=RepV.list (M:=N5) (σ:=gB) (N:=pM) (w:=w) ad cap (P.cellsOf e) xs (l.map C) (by rw [bE];omega) hcap h7 h3.len h4 (fun j u hu=>⟨fun h=>h,h6 j u hu⟩) h3.rep
  rw [bE,h1] at key
  exact key
def TJ (enc:TypeId × Value→H)(P:Program)(w:World)(base:Nat)(spare:Nat→Bool)(held:Bool)(bulk:DataW H→Nat)(B n:Nat):List TypeId→List Value→Prop
 | [],cs=>cs=[]
 | t :: ts,cs=>(∃ y,DataW.trod enc P w base spare held n t (cs.take (P.cellsOf t))=some y∧bulk y.1≤B)∧TJ enc P w base spare held bulk B n ts (cs.drop (P.cellsOf t))
def GB (enc:TypeId × Value→H)(P:Program)(w:World)(base:Nat)(spare:Nat→Bool)(held:Bool)(bulk:DataW H→Nat)(B:Nat)(n:Nat)(ts:List TypeId){α:Type}(C:α→List D)(G:α→Prop):Prop :=
 ∀ (fuel:Nat) (cs:List Value),fuel≤n→TJ enc P w base spare held bulk B fuel ts cs→∃ a,G a∧RepL N5 gB pM w cs (C a)∧∀ u∈cs,u.oneCell'=true
theorem jU:GB enc P w base spare held bulk B n [] (fun _:Unit=>[]) (fun _=>True):=fun fuel cs _ h=>by
 have h:cs=[]:=h
 subst h
 exact ⟨(),trivial,⟨rfl,fun j u d hu=>by simp at hu⟩,by simp⟩
theorem cD {ts:List TypeId}{α β:Type}{C:α→List D}{G:α→Prop}{C':β→List D}{G':β→Prop}(h:Opens enc P w base spare held bulk B n t C G)(k:GB enc P w base spare held bulk B n ts C' G') :
  GB enc P w base spare held bulk B n (t :: ts) (fun p:α × β=>C p.1++C' p.2) (fun p=>G p.1∧G' p.2):=fun fuel cs hf hs=>by
 obtain ⟨⟨y,hy,hyb⟩,hs⟩:=hs
 obtain ⟨a,a1,a2,a3⟩:=h fuel _ y hf hy hyb
 obtain ⟨b,b1,b2,b3⟩:=k fuel _ hf hs
 refine ⟨(a,b),⟨a1,b1⟩,?_,fun u hu=>?_⟩
 ·have:=K8 a2 b2
  rwa [List.take_append_drop] at this
 ·rw [← List.take_append_drop (P.cellsOf t) cs] at hu
  rcases bD.1 hu with h|h
  ·exact a3 u h
  ·exact b3 u h
def RO (P:Program):Nat→List Field→Option Nat
 | o,[]=>some o
 | o,f :: r=>if f.offset=o then RO P (o+P.cellsOf f.type) r else none
theorem Pa {fuel:Nat}{cs:List Value}:∀ (fs:List Field) (o:Nat),RO P o fs=some cs.length →
  (∀ f∈fs,∃ y,DataW.trod enc P w base spare held fuel f.type ((cs.drop f.offset).take (P.cellsOf f.type))=some y∧bulk y.1≤B)→o≤cs.length∧TJ enc P w base spare held bulk B fuel (fs.map (·.type)) (cs.drop o)
 | [],o,ho,_=>by
  simp only [RO,bH] at ho
  subst ho
  exact ⟨bQ _,by show cs.drop cs.length=[];simp⟩
 | f :: fs,o,ho,h=>by
  unfold RO at ho
  split at ho
  ·rename_i hof
   subst hof
   obtain ⟨h1,h2⟩:=Pa fs _ ho fun g hg=>h g (by simp [hg])
   refine ⟨by omega,?_⟩
   refine ⟨h f (by simp),?_⟩
   rw [List.drop_drop]
   exact h2
  ·cases ho
theorem mT (hB:Bulk bulk){fs:Array Field}(ht:P.underlying t=some (.struct fs))(ho:RO P 0 fs.toList=some (P.cellsOf t)){α:Type}{C:α→List D}{G:α→Prop}(h:GB enc P w base spare held bulk B n (fs.toList.map (·.type)) C G) :
  Opens enc P w base spare held bulk B (n+1) t C G:=fun fuel cs x hf hx hb=>by
 obtain ⟨xs,m,rfl,rfl,hcl,hxl,hfl⟩:=DataW.trod_struct ht hx
 simp only at hb
 have hs:=(Pa (enc:=enc) (P:=P) (w:=w) (base:=base) (spare:=spare) (held:=held) (bulk:=bulk) (B:=B) (fuel:=m) (cs:=cs) fs.toList 0 (by rw [hcl];exact ho) fun f hfm=>by
  obtain ⟨i,hi,rfl⟩:=aT hfm
  have hi':i<fs.size:=by simpa using hi
  have hfi:=hfl i (fs.toList[i]) (by simp [hi'])
  rw [aA (by omega)] at hfi
  exact ⟨_,hfi,cN (hB.part _ _ (aU.2 ⟨_,aB (by omega),rfl⟩)) hb⟩).2
 rw [List.drop_zero] at hs
 exact h m cs (by omega) hs
theorem OV {r:Reach}{b0:Nat}{fs:Array Field}{v:Value}{d:DataW H}{ps:List MemPlace}{α:Type}{C:α→List D}{G:α→Prop}(ht:P.underlying t=some (.struct fs))(h:∀ n,Opens enc P w base spare held bulk B n t C G)
  (hval:Value.okWide P w r b0 t v) (hd:DataW.Trod enc P w base spare held t v d ps) (hb:bulk d≤B):∃ a,G a∧RepV N5 gB pM w v (.agg (C a)):=by
 obtain ⟨cs,rfl,_⟩:=okWide_struct ht hval
 obtain ⟨fuel,hf⟩:=hd
 obtain ⟨a,h1,h2,h3⟩:=h fuel fuel _ _ (bQ _) hf hb
 have hc:(Value.agg cs).cells.toList=cs.toList:=rfl
 rw [hc] at h2 h3
 have:=RepV.agg (M:=N5) (σ:=gB) (N:=pM) (w:=w) cs.toList (C a) h2.len h3 h2.rep
 exact ⟨a,h1,by simpa using this⟩
theorem y5 (hl:laidOutB P=true){W W':World}{sp':Nat→Bool}(hb:Below W.heap.size W W'):∀ {ts:List TypeId} {vs:List Value} {ds:List (DataW H)} {ps:List MemPlace},(∀ t∈ts,P.readableRec t=true∧t<P.types.size) →
  DataW.TrodAll enc P W 0 (fun _=>true) true ts vs ds ps→(∀ x∈ps,x.block<W.heap.size)→(∀ x∈ps,sp' x.block=true)→DataW.TrodAll enc P W' 0 sp' true ts vs ds ps
 | [],_,_,_,_,h,_,_=>by
  obtain ⟨rfl,rfl,rfl⟩:=trodAll_nil h
  rfl
 | t :: ts,_,_,_,hr,h,hlt,hs=>by
  obtain ⟨v,vs,d,ds,p,q,rfl,rfl,rfl,h1,h2⟩:=trodAll_cons h
  refine ⟨p,q,WideElems.Trod_stays hl (hr t (by simp)).1 (hr t (by simp)).2 h1 (fun x hx=>hb.same (hlt x (by simp [hx]))) (fun x hx=>hs x (by simp [hx])),y5 hl hb (fun u hu=>hr u (by simp [hu])) h2 (fun x hx=>hlt x (by simp [hx])) (fun x hx=>hs x (by simp [hx])),rfl⟩
theorem Hb (hl:laidOutB P=true){f:Func}{s:ChangeSpec}{apart fresh handsOn again:Bool}{W W':World}{args:Array Value}{v:Value}{ds gs:List (DataW H)}{before:List MemPlace}
  (hr:∀ t∈f.params.toList,P.readableRec t=true∧t<P.types.size) (hvars:s.vars=[]) (hW:DataW.Whole enc P f.params.toList s.vars apart W args.toList ds gs before)
  (hres:∀ (b:Nat) (sp:Nat→Bool) (hd:Bool),DataW.TrodAll enc P W' b sp hd f.resultTypes.toList (v.resultList f.resultTypes.size) (s.fn H (ds++gs)).results [])
  (hargs:(s.fn H (ds++gs)).args=ds) (hvs:(s.fn H (ds++gs)).vars=[]) (hb:Below W.heap.size W W')
  (hok:∀ (j:Nat) (t:TypeId) (r:Value),f.resultTypes[j]?=some t→(v.resultList f.resultTypes.size)[j]?=some r→Value.okWide P W' .any 0 t r) :
  s.post enc P f apart fresh handsOn again W args v W':=by
 have hW':=hW
 obtain ⟨p,q,hA,hV,rfl,hz,hn⟩:=hW
 rw [hvars] at hV
 obtain ⟨rfl,rfl⟩:=trodVars_none hV
 rw [fE] at hW' hz hn
 have hlt:∀ x∈p,x.block<W.heap.size:=fun x hx=>by simpa using hW'.lt x hx
 have hTr:∀ sp:Nat→Bool,(∀ x∈p,sp x.block=true)→DataW.TrodAll enc P W' 0 sp true f.params.toList args.toList (s.fn H (ds++[])).args p:=fun sp hs=>by
  rw [hargs];exact y5 hl hb hr hA hlt hs
 have hVr:∀ sp:Nat→Bool,DataW.TrodVars enc P W' sp s.vars (s.fn H (ds++[])).vars []:=fun sp=>by rw [hvars,hvs];rfl
 refine ⟨ds,[],p,[],p,[],hW',hres _ _ _,hTr _ (fun x hx=>by simpa using hlt x hx),hVr _,World.keptBut_mono (fun x hx=>⟨hx,.inr (by simpa using hx)⟩) (hb.frame (·∈p)),fun _=>?_⟩
 refine ⟨hok,_,_,([]++p)++[],⟨[]++p,[],trodAll_append (hTr _ (fun _ _=>rfl)) (hres _ _ _),hVr _,rfl,?_,?_⟩,?_⟩
 ·intro b off hp
  have hp':MemPlace.cell b off∈p:=by simpa using hp
  have:=hz b off hp'
  rw [← this]
  exact hb.frozen (hlt _ hp')
 ·intro ha
  simpa using hn ha
 ·intro x hx _
  simpa using hx
end
end Go.Abs
end
section
namespace Go.Proofs.YtjfaalokjnmdoaaGreat.bulks
open Go.Abs
theorem one_le {H:Type}(d:DataW H):1≤Rows.uptoBulk d:=by
 cases d with
 | lit l=>cases l<;>simp [Rows.uptoBulk]
 | _=>simp [Rows.uptoBulk]
theorem mem_le {H:Type}{d:DataW H}:∀ {l:List (DataW H)},d∈l→Rows.uptoBulk d≤Rows.uptoBulkAll l
 | [],h=>by cases h
 | x :: r,h=>by
  simp only [Rows.uptoBulkAll]
  rcases bB.1 h with rfl|h
  ·omega
  ·have:=mem_le h;omega
theorem len_le {H:Type}:∀ l:List (DataW H),l.length≤Rows.uptoBulkAll l
 | []=>by simp [Rows.uptoBulkAll]
 | x :: r=>by have:=one_le x;have:=len_le r;simp only [Rows.uptoBulkAll,eU];omega
theorem ok {H:Type}:Go.Abs.Bulk (Rows.uptoBulk (H:=H)) where
 len e s:=by have:=len_le e;simp only [Rows.uptoBulk];omega
 el e s d h:=by have:=mem_le h;simp only [Rows.uptoBulk];omega
 part l d h:=by have:=mem_le h;simp only [Rows.uptoBulk];omega
 str s:=by simp [Rows.uptoBulk]
theorem bound {H:Type}{l:List (DataW H)}(hk:Rows.uptoSmall H l=true):∀ d∈l,Rows.uptoBulk d≤1048576:=fun d hd=>by
 have h:=of_decide_eq_true hk
 have:=mem_le hd
 omega
end Go.Proofs.YtjfaalokjnmdoaaGreat.bulks
end
section
set_option maxRecDepth 100000
set_option maxHeartbeats 4000000
open Go Go.Proofs
namespace Go.Abs
section
variable {H:Type} {enc:TypeId × Value→H} {P:Program} {w:World} {base:Nat} {spare:Nat→Bool} {held:Bool} {bulk:DataW H→Nat} {B:Nat} {n:Nat} {t:TypeId}
theorem KX {fuel:Nat}{cs:List Value}{e:TypeId}:∀ (k o:Nat),cs.length=(o+k) * P.cellsOf e →
  (∀ i,o≤i→i<o+k→∃ y,DataW.trod enc P w base spare held fuel e ((cs.drop (i * P.cellsOf e)).take (P.cellsOf e))=some y∧bulk y.1≤B)→TJ enc P w base spare held bulk B fuel (List.replicate k e) (cs.drop (o * P.cellsOf e))
 | 0,o,hl,_=>by
  show cs.drop _=[]
  rw [List.drop_eq_nil_iff,hl];simp
 | k+1,o,hl,h=>by
  rw [jY]
  refine ⟨h o (bQ _) (by omega),?_⟩
  rw [List.drop_drop,show o * P.cellsOf e+P.cellsOf e=(o+1) * P.cellsOf e by rw [Nat.succ_mul]]
  exact KX k (o+1) (by rw [hl];congr 1;omega) fun i h1 h2=>h i (by omega) (by omega)
theorem rY (hB:Bulk bulk){k:Nat}{e:TypeId}(ht:P.underlying t=some (.array k e))(hc:P.cellsOf t=k * P.cellsOf e){α:Type}{C:α→List D}{G:α→Prop}(h:GB enc P w base spare held bulk B n (List.replicate k e) C G) :
  Opens enc P w base spare held bulk B (n+1) t C G:=fun fuel cs x hf hx hb=>by
 obtain ⟨xs,m,rfl,rfl,hcl,hxl,hfl⟩:=DataW.trod_array ht hx
 simp only at hb
 have hs:=KX (enc:=enc) (P:=P) (w:=w) (base:=base) (spare:=spare) (held:=held) (bulk:=bulk) (B:=B) (fuel:=m) (cs:=cs) (e:=e) k 0 (by rw [hcl,hc];simp) fun i _ hi=>by
  have hfi:=hfl i (by omega)
  rw [aA (by omega)] at hfi
  exact ⟨_,hfi,cN (hB.part _ _ (aU.2 ⟨_,aB (by omega),rfl⟩)) hb⟩
 rw [Nat.zero_mul,List.drop_zero] at hs
 exact h m cs (by omega) hs
theorem RK (ht:P.underlying t=some (.int .u8)):Opens enc P w base spare held bulk B n t cU (fun _=>True):=fun fuel cs x _ hx _=>by
 obtain ⟨z,rfl,_,hw⟩:=DataW.trod_int ht hx
 refine ⟨UInt8.ofNat z.toNat,trivial,?_,by simp [Value.oneCell']⟩
 have hz:0≤z∧z<256:=by
  have h1:IntKind.u8.min=0:=by decide
  have h2:IntKind.u8.max=255:=by decide
  simp only [Lit.wf,aL,decide_eq_true_eq,h1,h2] at hw;omega
 have he:(((UInt8.ofNat z.toNat).toNat:Nat):Int)=z:=by simp;omega
 unfold cU;rw [he];exact qH (.int .u8 z)
theorem RL (ht:P.underlying t=some (.int .i8)):Opens enc P w base spare held bulk B n t (fun x:Int8=>[D.int .i8 x.toInt]) (fun _=>True):=fun fuel cs x _ hx _=>by
 obtain ⟨z,rfl,_,hw⟩:=DataW.trod_int ht hx
 refine ⟨Int8.ofInt z,trivial,?_,by simp [Value.oneCell']⟩
 have hz : -128≤z∧z<128:=by
  have h1:IntKind.i8.min = -128:=by decide
  have h2:IntKind.i8.max=127:=by decide
  simp only [Lit.wf,aL,decide_eq_true_eq,h1,h2] at hw;omega
 have he:(Int8.ofInt z).toInt=z:=by rw [Int8.toInt_ofInt_of_le]<;>omega
 show RepL N5 gB pM w _ [D.int .i8 (Int8.ofInt z).toInt]
 rw [he];exact qH (.int .i8 z)
theorem Qm (ht:P.underlying t=some (.int .u64)):Opens enc P w base spare held bulk B n t (fun x:UInt64=>[D.int .u64 (x.toNat:Int)]) (fun _=>True):=fun fuel cs x _ hx _=>by
 obtain ⟨z,rfl,_,hw⟩:=DataW.trod_int ht hx
 refine ⟨UInt64.ofNat z.toNat,trivial,?_,by simp [Value.oneCell']⟩
 have hz:0≤z∧z<18446744073709551616:=by
  have h1:IntKind.u64.min=0:=by decide
  have h2:IntKind.u64.max=18446744073709551615:=by decide
  simp only [Lit.wf,aL,decide_eq_true_eq,h1,h2] at hw;omega
 have he:(((UInt64.ofNat z.toNat).toNat:Nat):Int)=z:=by simp;omega
 show RepL N5 gB pM w _ [D.int .u64 (((UInt64.ofNat z.toNat).toNat:Nat):Int)]
 rw [he];exact qH (.int .u64 z)
end
section
variable {H:Type} {enc:TypeId × Value→H} {w:World} {base:Nat} {spare:Nat→Bool} {held:Bool} {bulk:DataW H→Nat} {B:Nat}
theorem Zu:∀ n,Opens enc Tryz.prog w base spare held bulk B n 4 (fun b:Bool=>[D.bool b]) (fun _=>True):=fun n=>N2 Tryz.underlying4
theorem SQ:∀ n,Opens enc Tryz.prog w base spare held bulk B n 5 cU (fun _=>True):=fun n=>RK Tryz.underlying5
theorem Pk:∀ n,Opens enc Tryz.prog w base spare held bulk B n 321 (fun x:Int8=>[D.int .i8 x.toInt]) (fun _=>True):=fun n=>RL Tryz.underlying321
theorem Y3:∀ n,Opens enc Tryz.prog w base spare held bulk B n 81 (fun x:UInt64=>[D.int .u64 (x.toNat:Int)]) (fun _=>True):=fun n=>Qm Tryz.underlying81
theorem WH (hB:Bulk bulk):∀ n,Opens enc Tryz.prog w base spare held bulk B n 180 cP (fun _=>True)
 | 0=>Opens.zero
 | n+1=>(rY hB (k:=2) Tryz.underlying180 (by kernel_rfl) (cD (SQ n) (cD (SQ n) (jU)))).map (fun p=>(p.1,p.2.1)) (fun p=>rfl) (fun _ _=>trivial)
theorem WG (hB:Bulk bulk):∀ n,Opens enc Tryz.prog w base spare held bulk B n 192 cT3 (fun _=>True)
 | 0=>Opens.zero
 | n+1=>(rY hB (k:=3) Tryz.underlying192 (by kernel_rfl) (cD (SQ n) (cD (SQ n) (cD (SQ n) (jU))))).map (fun p=>(p.1,p.2.1,p.2.2.1)) (fun p=>rfl) (fun _ _=>trivial)
theorem Y2 (hB:Bulk bulk):∀ n,Opens enc Tryz.prog w base spare held bulk B n 82 cU4 (fun _=>True)
 | 0=>Opens.zero
 | n+1=>(rY hB (k:=4) Tryz.underlying82 (by kernel_rfl) (cD (SQ n) (cD (SQ n) (cD (SQ n) (cD (SQ n) (jU)))))).map (fun p=>(p.1,p.2.1,p.2.2.1,p.2.2.2.1)) (fun p=>rfl) (fun _ _=>trivial)
theorem WF (hB:Bulk bulk):∀ n,Opens enc Tryz.prog w base spare held bulk B n 322 cT4 (fun _=>True)
 | 0=>Opens.zero
 | n+1=>(rY hB (k:=4) Tryz.underlying322 (by kernel_rfl) (cD (Pk n) (cD (Pk n) (cD (Pk n) (cD (Pk n) (jU)))))).map (fun p=>(p.1,p.2.1,p.2.2.1,p.2.2.2.1)) (fun p=>rfl) (fun _ _=>trivial)
theorem UE (hB:Bulk bulk):∀ n,Opens enc Tryz.prog w base spare held bulk B n 22 (fun l:List B2=>[D.list (l.map cP)]) (fun _=>True)
 | 0=>Opens.zero
 | n+1=>(oP hB Tryz.underlying22 (WH hB n)).map id (fun _=>rfl) (fun _ _=>trivial)
theorem RM (hB:Bulk bulk):∀ n,Opens enc Tryz.prog w base spare held bulk B n 24 (fun l:List B3=>[D.list (l.map cT3)]) (fun _=>True)
 | 0=>Opens.zero
 | n+1=>(oP hB Tryz.underlying24 (WG hB n)).map id (fun _=>rfl) (fun _ _=>trivial)
theorem UD (hB:Bulk bulk):∀ n,Opens enc Tryz.prog w base spare held bulk B n 75 (fun l:List UInt8=>[D.list (l.map cU)]) (fun _=>True)
 | 0=>Opens.zero
 | n+1=>(oP hB Tryz.underlying75 (SQ n)).map id (fun _=>rfl) (fun _ _=>trivial)
theorem Y5 (hB:Bulk bulk):∀ n,Opens enc Tryz.prog w base spare held bulk B n 78 (fun l:List T4=>[D.list (l.map cT4)]) (fun _=>True)
 | 0=>Opens.zero
 | n+1=>(oP hB Tryz.underlying78 (WF hB n)).map id (fun _=>rfl) (fun _ _=>trivial)
theorem Y6 (hB:Bulk bulk):∀ n,Opens enc Tryz.prog w base spare held bulk B n 77 Dr5.c (fun _=>True)
 | 0=>Opens.zero
 | n+1=>(mT hB Tryz.underlying77 (by kernel_rfl) (cD (UD hB n) (cD (RM hB n) (jU)))).map (fun p=>⟨p.1,p.2.1⟩) (fun p=>rfl) (fun _ _=>trivial)
theorem Y4 (hB:Bulk bulk):∀ n,Opens enc Tryz.prog w base spare held bulk B n 80 Dr21.c (fun _=>True)
 | 0=>Opens.zero
 | n+1=>(mT hB Tryz.underlying80 (by kernel_rfl) (cD (Y6 hB n) (cD (RM hB n) (cD (Y5 hB n) (jU))))).map (fun p=>⟨p.1,p.2.1,p.2.2.1⟩) (fun p=>rfl) (fun _ _=>trivial)
theorem Y1 (hB:Bulk bulk):∀ n,Opens enc Tryz.prog w base spare held bulk B n 84 Dr24.c (fun _=>True)
 | 0=>Opens.zero
 | n+1=>(mT hB Tryz.underlying84 (by kernel_rfl) (cD (Y4 hB n) (cD (Y3 n) (cD (UD hB n) (cD (RM hB n) (cD (RM hB n) (cD (Zu n) (cD (Zu n) (cD (Y2 hB n) (cD (UD hB n) (jU))))))))))).map (fun p=>⟨p.1,p.2.1,p.2.2.1,p.2.2.2.1,p.2.2.2.2.1,p.2.2.2.2.2.1,p.2.2.2.2.2.2.1,p.2.2.2.2.2.2.2.1,p.2.2.2.2.2.2.2.2.1⟩) (fun p=>rfl) (fun _ _=>trivial)
theorem Y8 (hB:Bulk bulk):∀ n,Opens enc Tryz.prog w base spare held bulk B n 26 Dr15.c (fun _=>True)
 | 0=>Opens.zero
 | n+1=>(mT hB Tryz.underlying26 (by kernel_rfl) (cD (UE hB n) (cD (RM hB n) (jU)))).map (fun p=>⟨p.1,p.2.1⟩) (fun p=>rfl) (fun _ _=>trivial)
theorem Y9 (hB:Bulk bulk):∀ n,Opens enc Tryz.prog w base spare held bulk B n 23 (fun l:List Dr24=>[D.list (l.map Dr24.c)]) (fun _=>True)
 | 0=>Opens.zero
 | n+1=>(oP hB Tryz.underlying23 (Y1 hB n)).map id (fun _=>rfl) (fun _ _=>trivial)
theorem Y7 (hB:Bulk bulk):∀ n,Opens enc Tryz.prog w base spare held bulk B n 28 DrT.c (fun _=>True)
 | 0=>Opens.zero
 | n+1=>(mT hB Tryz.underlying28 (by kernel_rfl) (cD (UE hB n) (cD (UE hB n) (cD (Y9 hB n) (cD (Y8 hB n) (jU)))))).map (fun p=>⟨p.1,p.2.1,p.2.2.1,p.2.2.2.1⟩) (fun p=>rfl) (fun _ _=>trivial)
end
end Go.Abs
end
