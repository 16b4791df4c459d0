/- Hosts: what a valid one is; a host that lies in owned slices -/
import Derived.Test.YtiklfilfhnfagaaGreatZfG
import Derived.Test.YtiklfilfhnfagaaGreatZfK
import Derived.Test.YtiklfilfhnfagaaGreatZfJ
import Derived.Test.YtiklfilfhnfagaaGreatZfA
set_option linter.unusedVariables false
set_option linter.unusedSimpArgs false
section
set_option maxRecDepth 100000
set_option maxHeartbeats 4000000
open Go Go.Proofs
namespace Go.Abs
theorem qF {t:Types}(hv:(cJ t).2=0){a:Int}(h0:0≤a)(h1:a<t.nodes.length):cN t a=t.attrs a.toNat:=by
 unfold cN;rw [if_pos];simp [iV,hv,insideF,h0,h1]
theorem u0 {t:Types}(hv:(cJ t).2=0)(a:Int):(cN t a).length≤8:=by
 by_cases h:0≤a∧a<t.nodes.length
 ·rw [qF hv h.1 h.2];exact (mJ hv).attrs _ (by omega)
 ·unfold cN;rw [if_neg (by simp [iV,hv,insideF];omega)];simp
theorem Bn {t:Types}(hv:(cJ t).2=0)(a:Int):∀ x∈cN t a,SmallA x:=by
 by_cases h:0≤a∧a<t.nodes.length
 ·rw [qF hv h.1 h.2];exact Li hv _ (by omega)
 ·unfold cN;rw [if_neg (by simp [iV,hv,insideF];omega)];simp
structure HostOk (t:Types) (h:Host):Prop where
 vf:(cJ t).2=0
 gg:graphF h.graph=0
 vl:h.values.length=h.graph.nodes.length
 nd:∀ (i:Nat) (hi:i<h.graph.nodes.length) (hv:i<h.values.length),kA t h.graph.nodes[i] h.values[i]=0
 ed:∀ x∈h.graph.edges,x.type<t.edges.length∧rA t x.type (gN h.graph x.from_) (gN h.graph x.to_)=true
theorem Fh {t:Types}{h:Host}(h0:eR t h=0):HostOk t h:=by
 unfold eR vG at h0
 split at h0
 ·rename_i h1;exact absurd h0 h1
 ·rename_i h1
  split at h0
  ·rename_i h2;exact absurd h0 h2
  ·rename_i h2
   split at h0
   ·cases h0
   ·rename_i h3
    split at h0
    ·rename_i h4;exact absurd h0 h4
    ·rename_i h4
     rw [j8] at h4
     rw [sF] at h4 h0
     refine ⟨by omega,by omega,by omega,fun i hi hv=>?_,fun x hx=>?_⟩
     ·have:=eJ _ _ h4 i (dE _) (by omega)
      simpa only [Mt,aA hi,aA hv,aF] using this
     ·obtain ⟨k,hk,rfl⟩:=aM hx
      have:=eJ _ _ h0 k (dE _) (by omega)
      simp only [Ts,aA hk,aF] at this
      split at this
      ·cases this
      ·split at this
       ·exact ⟨by omega,by assumption⟩
       ·cases this
theorem tQ {t:Types}{k:Int}{vs:List Int}(h:kA t k vs=0):k<t.nodes.length∧Br t k.toNat=false∧vs.length=(cN t k).length ∧
  ∀ (j:Nat) (hj:j<vs.length) (ha:j<(cN t k).length),(cN t k)[j].low≤vs[j]∧vs[j]≤(cN t k)[j].high:=by
 unfold kA at h
 split at h
 ·cases h
 ·rename_i h1
  split at h
  ·cases h
  ·rename_i h2
   split at h
   ·cases h
   ·rename_i h3
    refine ⟨by omega,by simpa using h2,by omega,fun j hj ha=>?_⟩
    have:=eJ _ _ h j (dE _) (by omega)
    simp only [IA,aA hj,aA ha,aF] at this
    split at this
    ·cases this
    ·omega
theorem HostOk.row {t:Types}{h:Host}(ho:HostOk t h):∀ v∈h.values,v.length≤8∧∀ x∈v,-1000000≤x∧x≤1000000:=fun v hv=>by
 obtain ⟨i,hi,rfl⟩:=aM hv
 have hn:=ho.vl
 obtain ⟨h1,h2,h3,h4⟩:=tQ (ho.nd i (by omega) hi)
 have hl:=u0 ho.vf (h.graph.nodes[i]'(by omega))
 refine ⟨by omega,fun x hx=>?_⟩
 obtain ⟨j,hj,rfl⟩:=aM hx
 have:=h4 j hj (by omega)
 have hs:=Bn ho.vf _ _ (aC (show j<(cN t (h.graph.nodes[i]'(by omega))).length by omega))
 have:=hs.lo;have:=hs.hi
 omega
/-! ### a host in owned slices -/
def mL (qs:List Nat)(vs:List (List Int)):List (List D):=List.zipWith (fun q (v:List Int)=>[D.own q v.length]) qs vs
theorem kM {qs:List Nat}{vs:List (List Int)}(h:qs.length=vs.length):(mL qs vs).length=vs.length:=by simp [mL,h]
theorem Et {qs:List Nat}{vs:List (List Int)}(h:qs.length=vs.length)(q:Nat)(v:List Int):mL (qs++[q]) (vs++[v])=mL qs vs++[[.own q v.length]]:=by
 simp [mL,List.zipWith_append h]
theorem tE {qs:List Nat}{vs:List (List Int)}{i q:Nat}{v:List Int}(h1:qs[i]?=some q)(h2:vs[i]?=some v):(mL qs vs)[i]?=some [.own q v.length]:=by
 simp [mL,List.getElem?_zipWith,h1,h2]
theorem OH {qs:List Nat}{vs:List (List Int)}{i:Nat}{v v':List Int}(h2:vs[i]?=some v)(hl:v'.length=v.length):mL qs (vs.set i v')=mL qs vs:=by
 apply eD
 intro j
 simp only [mL,List.getElem?_zipWith,bR]
 by_cases h:i=j
 ·subst h
  have hi:=(aI.1 h2).1
  rw [if_pos rfl,if_pos hi,h2]
  cases qs[i]?<;>simp [hl]
 ·rw [if_neg h]
structure HH (H:AHeap) (lo a b V:Nat) (qs:List Nat) (h:Host):Prop where
 ga:H.get a=some ⟨3,1,h.graph.nodes.map cI,false⟩
 gb:H.get b=some ⟨103,3,h.graph.edges.map Edge.c,false⟩
 gV:H.get V=some ⟨31,1,mL qs h.values,false⟩
 len:qs.length=h.values.length
 gq:∀ (i q:Nat) (v:List Int),qs[i]?=some q→h.values[i]?=some v→H.get q=some ⟨3,1,v.map cI,false⟩
 nd:(a :: b :: V :: qs).Nodup
 rng:∀ q∈a :: b :: V :: qs,lo≤q∧q<H.next
section
variable {H H':AHeap} {lo a b V:Nat} {qs:List Nat} {x:Host}
theorem HH.a_in (h:HH H lo a b V qs x):a∈a :: b :: V :: qs:=by simp
theorem HH.b_in (h:HH H lo a b V qs x):b∈a :: b :: V :: qs:=by simp
theorem HH.V_in (h:HH H lo a b V qs x):V∈a :: b :: V :: qs:=by simp
theorem HH.q_in (h:HH H lo a b V qs x){q:Nat}(hq:q∈qs):q∈a :: b :: V :: qs:=by simp [hq]
theorem HH.ab (h:HH H lo a b V qs x):a≠b∧a≠V∧b≠V:=by
 have:=h.nd;simp only [s4,aO,not_or] at this
 exact ⟨this.1.1,this.1.2.1,this.2.1.1⟩
theorem HH.qn (h:HH H lo a b V qs x){q:Nat}(hq:q∈qs):q≠a∧q≠b∧q≠V:=by
 have:=h.nd;simp only [s4,aO,not_or] at this
 exact ⟨fun e=>this.1.2.2 (e ▸ hq),fun e=>this.2.1.2 (e ▸ hq),fun e=>this.2.2.1 (e ▸ hq)⟩
theorem HH.same (h:HH H lo a b V qs x)(hn:H.next≤H'.next)(hf:∀ j∈a :: b :: V :: qs,H'.get j=H.get j):HH H' lo a b V qs x where
 ga:=(hf a h.a_in).trans h.ga
 gb:=(hf b h.b_in).trans h.gb
 gV:=(hf V h.V_in).trans h.gV
 len:=h.len
 gq i q v h1 h2:=(hf q (h.q_in (aJ h1))).trans (h.gq i q v h1 h2)
 nd:=h.nd
 rng q hq:=⟨(h.rng q hq).1,b8 (h.rng q hq).2 hn⟩
theorem HH.nodes (h:HH H lo a b V qs x)(hn:H.next≤H'.next){ns:List Int}(ga:H'.get a=some ⟨3,1,ns.map cI,false⟩)(hf:∀ j∈b :: V :: qs,H'.get j=H.get j):HH H' lo a b V qs ⟨⟨ns,x.graph.edges⟩,x.values⟩ where
 ga:=ga
 gb:=(hf b (by simp)).trans h.gb
 gV:=(hf V (by simp)).trans h.gV
 len:=h.len
 gq i q v h1 h2:=(hf q (by simp [aJ h1])).trans (h.gq i q v h1 h2)
 nd:=h.nd
 rng q hq:=⟨(h.rng q hq).1,b8 (h.rng q hq).2 hn⟩
theorem HH.edges (h:HH H lo a b V qs x)(hn:H.next≤H'.next){es:List Edge}(gb:H'.get b=some ⟨103,3,es.map Edge.c,false⟩)(hf:∀ j∈a :: V :: qs,H'.get j=H.get j):HH H' lo a b V qs ⟨⟨x.graph.nodes,es⟩,x.values⟩ where
 ga:=(hf a (by simp)).trans h.ga
 gb:=gb
 gV:=(hf V (by simp)).trans h.gV
 len:=h.len
 gq i q v h1 h2:=(hf q (by simp [aJ h1])).trans (h.gq i q v h1 h2)
 nd:=h.nd
 rng q hq:=⟨(h.rng q hq).1,b8 (h.rng q hq).2 hn⟩
theorem HH.rowSet (h:HH H lo a b V qs x)(hn:H.next≤H'.next){i q:Nat}{v v':List Int}(h1:qs[i]?=some q)(h2:x.values[i]?=some v)(hl:v'.length=v.length)(gq:H'.get q=some ⟨3,1,v'.map cI,false⟩)
  (hf:∀ j∈a :: b :: V :: qs,j≠q→H'.get j=H.get j):HH H' lo a b V qs ⟨x.graph,x.values.set i v'⟩ where
 ga:=(hf a h.a_in (Ne.symm (h.qn (aJ h1)).1)).trans h.ga
 gb:=(hf b h.b_in (Ne.symm (h.qn (aJ h1)).2.1)).trans h.gb
 gV:=by rw [OH h2 hl];exact (hf V h.V_in (Ne.symm (h.qn (aJ h1)).2.2)).trans h.gV
 len:=by simp [h.len]
 gq j q' w k1 k2:=by
  have hqn:qs.Nodup:=by have:=h.nd;simp only [s4] at this;exact this.2.2.2
  rw [bR] at k2
  by_cases hj:i=j
  ·subst hj
   rw [h1] at k1;cases k1
   rw [if_pos rfl] at k2
   split at k2
   ·cases k2;exact gq
   ·cases k2
  ·rw [if_neg hj] at k2
   refine (hf q' (h.q_in (aJ k1)) fun e=>hj ?_).trans (h.gq j q' w k1 k2)
   subst e
   obtain ⟨a1,a2⟩:=aI.1 h1
   obtain ⟨b1,b2⟩:=aI.1 k1
   exact (GP hqn).1 (a2.trans b2.symm)
 nd:=h.nd
 rng q hq:=⟨(h.rng q hq).1,b8 (h.rng q hq).2 hn⟩
theorem HH.read (h:HH H lo a b V qs x):(mL qs x.values).map (·.map (eQ H))=x.values.map cL:=by
 apply eD
 intro i
 simp only [aN]
 by_cases hi:i<x.values.length
 ·have hq:i<qs.length:=by rw [h.len];exact hi
  have e1:=aA hi
  have e2:=aA hq
  rw [tE e2 e1,e1]
  have:=h.gq i _ _ e2 e1
  simp [eQ,this,cL,dLI]
 ·rw [bA (by rw [kM h.len];omega),bA (by omega)];rfl
theorem HH.deep (h:HH H lo a b V qs x):jV H (.agg [.own a x.graph.nodes.length,.own b x.graph.edges.length,.own V x.values.length])=x.d:=by
 have h1:∀ l:List (List D),(∀ c∈l,∀ y∈c,∀ i n,y≠D.own i n∧∀ p q r,y≠D.win i p q r)→l.map (·.map (eQ H))=l:=fun l hl=>by
  conv=>rhs;rw [← List.map_id l]
  refine bP fun c hc=>?_
  conv=>rhs;rw [id,← List.map_id c]
  refine bP fun y hy=>?_
  cases y<;>first|rfl|(exfalso;first|exact (hl c hc _ hy _ _).1 rfl|exact (hl c hc _ hy _ 0).2 _ _ _ rfl)
 simp only [jV,mK,i6,rS,h.ga,h.gb,h.gV,bM,kM h.len,if_true,h.read]
 rw [h1 (x.graph.nodes.map cI) (fun c hc y hy i n=>by
  rw [aS] at hc;obtain ⟨z,_,rfl⟩:=hc
  simp [cI] at hy;subst hy;simp),h1 (x.graph.edges.map Edge.c) (fun c hc y hy i n=>by
  rw [aS] at hc;obtain ⟨z,_,rfl⟩:=hc
  simp [Edge.c,dI] at hy;rcases hy with rfl|rfl|rfl<;>simp)]
 rfl
theorem KG {l:List (List D)}(hl:∀ c∈l,∀ y∈c,jZ y=[]):l.flatten.flatMap jZ=[]:=by
 rw [List.eq_nil_iff_forall_not_mem]
 intro i hi
 rw [bK] at hi
 obtain ⟨y,hy,hi⟩:=hi
 rw [fQ] at hy
 obtain ⟨c,hc,hy⟩:=hy
 rw [hl c hc y hy] at hi;cases hi
theorem HH.ids (h:HH H lo a b V qs x)(n m k:Nat)(e:Int):∀ i∈Hn H (.tup [.agg [.own a n,.own b m,.own V k],dI e]),i∈a :: b :: V :: qs:=by
 intro i hi
 have e1:(x.graph.nodes.map cI).flatten.flatMap jZ=[]:=KG fun c hc y hy=>by
  rw [aS] at hc;obtain ⟨z,_,rfl⟩:=hc
  simp [cI] at hy;subst hy;rfl
 have e2:(x.graph.edges.map Edge.c).flatten.flatMap jZ=[]:=KG fun c hc y hy=>by
  rw [aS] at hc;obtain ⟨z,_,rfl⟩:=hc
  simp [Edge.c,dI] at hy;rcases hy with rfl|rfl|rfl<;>rfl
 simp only [Hn,KH,Gw,vU,List.flatMap_nil,h.ga,h.gb,h.gV,e1,e2,dI,jZ,gJ,aW,aO,eW,or_false] at hi
 rcases hi with rfl|rfl|rfl|hi
 ·exact h.a_in
 ·exact h.b_in
 ·exact h.V_in
 ·rw [bK] at hi
  obtain ⟨y,hy,hi⟩:=hi
  rw [fQ] at hy
  obtain ⟨c,hc,hy⟩:=hy
  simp only [mL] at hc
  obtain ⟨j,hj,rfl⟩:=aM hc
  rw [List.getElem_zipWith,aR] at hy
  subst hy
  simp only [jZ,aR] at hi
  subst hi
  exact h.q_in (aC _)
end
theorem Lt (h:Host):D.clL h.c=true:=by simp [Host.c,D.clL,D.cl,mC,tW];exact cE _ (fun v=>by simp [cL,D.clL,mC]) _
@[go_sem] theorem Host.cld (h:Host):h.d.cl=true:=by simp [Host.d,D.cl,Lt]
/-! ### Extract -/
def Zv (t:Types)(h:Host)(p:Part):Int:=if eR t h≠0 then eR t h else subF h.graph p
def Zu (t:Types)(h:Host)(p:Part):Host:=if Zv t h p=0 then ⟨dN h.graph p,p.nodes.map fun k=>h.values[k.toNat]?.getD []⟩ else ⟨⟨[],[]⟩,[]⟩
def Ex (l l1:List Nat)(j:Nat):Nat:=if j∈l then l1[l.idxOf j]?.getD 0 else j
theorem AJ {l l1:List Nat}(hn:l.Nodup){i j j1:Nat}(h:l[i]?=some j)(h1:l1[i]?=some j1):Ex l l1 j=j1:=by
 obtain ⟨hi,he⟩:=aI.1 h
 unfold Ex
 rw [if_pos (he ▸ aC hi)]
 have:l.idxOf j=i:=by rw [← he];exact hn.idxOf_getElem i hi
 rw [this,h1];rfl
theorem wO {l l1:List Nat}{j:Nat}(h:j∉l):Ex l l1 j=j:=by unfold Ex;rw [if_neg h]
theorem wZ {τ:Nat→Nat}{l:List (List D)}(hl:∀ c∈l,∀ y∈c,tI τ y=y):l.map (·.map (tI τ))=l:=by
 conv=>rhs;rw [← List.map_id l]
 refine bP fun c hc=>?_
 conv=>rhs;rw [id,← List.map_id c]
 exact bP fun y hy=>hl c hc y hy
theorem HH.exact {H H1 E:AHeap}{lo lo1 a b V a1 b1 V1:Nat}{qs qs1:List Nat}{x:Host}(hE:HH E lo a b V qs x)(h1:HH H1 lo1 a1 b1 V1 qs1 x)
  (hnx:∀ j,H.al j→j<H.next) (hnon:∀ j,¬ H.al j→H.get j=none) (Mt:H.next≤E.next)
  (hal:∀ j,E.al j↔H.al j∨j∈a :: b :: V :: qs) (hf1:∀ j,H.al j→j∉a :: b :: V :: qs→H1.get j=H.get j) (hfE:∀ j,j∉a :: b :: V :: qs→E.get j=H.get j)
  (hold:∀ (i j j1:Nat),(a :: b :: V :: qs)[i]?=some j→(a1 :: b1 :: V1 :: qs1)[i]?=some j1→(H.al j→j1=j)∧(¬ H.al j→¬ H.al j1)) :
  ∃ τ,Exact H H1 E τ∧.agg [.own a1 x.graph.nodes.length,.own b1 x.graph.edges.length,.own V1 x.values.length]=Qq τ (.agg [.own a x.graph.nodes.length,.own b x.graph.edges.length,.own V x.values.length])∧X3 E.al (.agg [.own a x.graph.nodes.length,.own b x.graph.edges.length,.own V x.values.length]):=by
 obtain ⟨l,hl⟩:∃ l,l=a :: b :: V :: qs:=⟨_,rfl⟩
 obtain ⟨l1,hl1⟩:∃ l1,l1=a1 :: b1 :: V1 :: qs1:=⟨_,rfl⟩
 have hnd:=hE.nd
 have hnd1:=h1.nd
 have hin:=hE.rng
 rw [← hl] at hal hf1 hfE hold hnd hin
 rw [← hl1] at hold hnd1
 have hlen:l1.length=l.length:=by rw [hl,hl1];simp [h1.len,hE.len]
 have hpos:∀ j∈l,∃ i j1,l[i]?=some j∧l1[i]?=some j1∧Ex l l1 j=j1:=fun j hj=>by
  obtain ⟨i,hi,he⟩:=aM hj
  have e1:l[i]?=some j:=by rw [aA hi,he]
  have e2:=aA (show i<l1.length by omega)
  exact ⟨i,_,e1,e2,AJ hnd e1 e2⟩
 have ra:Ex l l1 a=a1:=AJ hnd (i:=0) (by rw [hl];rfl) (by rw [hl1];rfl)
 have rb:Ex l l1 b=b1:=AJ hnd (i:=1) (by rw [hl];rfl) (by rw [hl1];rfl)
 have rV:Ex l l1 V=V1:=AJ hnd (i:=2) (by rw [hl];rfl) (by rw [hl1];rfl)
 have rq:∀ i q q1,qs[i]?=some q→qs1[i]?=some q1→Ex l l1 q=q1:=fun i q q1 e e1=>AJ hnd (i:=i+3) (by rw [hl];exact e) (by rw [hl1];exact e1)
 have cI_ren:∀ (v:List Int),(v.map cI).map (·.map (tI (Ex l l1)))=v.map cI:=fun v=>wZ fun c hc y hy=>by
  rw [aS] at hc;obtain ⟨z,_,rfl⟩:=hc
  simp [cI] at hy;subst hy;rfl
 have cI_ok:∀ (v:List Int),∀ c∈v.map cI,∀ y∈c,Ua E.al y:=fun v c hc y hy=>by
  rw [aS] at hc;obtain ⟨z,_,rfl⟩:=hc
  simp [cI] at hy;subst hy;rfl
 refine ⟨Ex l l1,⟨fun j hj=>?_,fun i j hi hj he=>?_,fun j hj=>⟨(hal j).2 (.inl hj),?_⟩,fun j hj=>?_,fun j k hk=>?_⟩,?_,?_⟩
 ·rcases (hal j).1 hj with h|h
  ·exact b8 (hnx j h) Mt
  ·exact (hin j h).2
 ·by_cases hi2:i∈l<;>by_cases hj2:j∈l
  ·obtain ⟨p,i1,e1,e2,e3⟩:=hpos i hi2
   obtain ⟨p',j1,f1,f2,f3⟩:=hpos j hj2
   rw [e3,f3] at he
   subst he
   obtain ⟨u1,u2⟩:=aI.1 e2
   obtain ⟨v1,v2⟩:=aI.1 f2
   have:p=p':=(GP hnd1).1 (u2.trans v2.symm)
   subst this
   rw [e1] at f1;cases f1;rfl
  ·obtain ⟨p,i1,e1,e2,e3⟩:=hpos i hi2
   rw [e3,wO hj2] at he
   subst he
   have hjA:H.al i1:=(((hal i1).1 hj).resolve_right hj2)
   by_cases hiA:H.al i
   ·exact ((hold p i i1 e1 e2).1 hiA).symm
   ·exact absurd hjA ((hold p i i1 e1 e2).2 hiA)
  ·obtain ⟨p,j1,e1,e2,e3⟩:=hpos j hj2
   rw [e3,wO hi2] at he
   subst he
   have hiA:H.al i:=(((hal i).1 hi).resolve_right hi2)
   by_cases hjA:H.al j
   ·exact (hold p j i e1 e2).1 hjA
   ·exact absurd hiA ((hold p j i e1 e2).2 hjA)
  ·rwa [wO hi2,wO hj2] at he
 ·by_cases hj2:j∈l
  ·obtain ⟨p,j1,e1,e2,e3⟩:=hpos j hj2
   rw [e3];exact (hold p j j1 e1 e2).1 hj
  ·exact wO hj2
 ·have h2:¬ H.al j∧j∉l:=⟨fun h=>hj ((hal j).2 (.inl h)),fun h=>hj ((hal j).2 (.inr h))⟩
  rw [hfE j h2.2];exact hnon j h2.1
 ·by_cases hj2:j∈l
  ·right
   have hj3:=hj2
   rw [hl,aO,aO,aO] at hj3
   rcases hj3 with rfl|rfl|rfl|hq
   ·rw [hE.ga] at hk;cases hk
    rw [ra]
    exact ⟨_,h1.ga,rfl,rfl,rfl,(cI_ren _).symm,cI_ok _⟩
   ·rw [hE.gb] at hk;cases hk
    rw [rb]
    refine ⟨_,h1.gb,rfl,rfl,rfl,(wZ fun c hc y hy=>?_).symm,fun c hc y hy=>?_⟩
    ·rw [aS] at hc;obtain ⟨z,_,rfl⟩:=hc
     simp [Edge.c,dI] at hy;rcases hy with rfl|rfl|rfl<;>rfl
    ·rw [aS] at hc;obtain ⟨z,_,rfl⟩:=hc
     simp [Edge.c,dI] at hy;rcases hy with rfl|rfl|rfl<;>rfl
   ·rw [hE.gV] at hk;cases hk
    rw [rV]
    refine ⟨_,h1.gV,rfl,rfl,rfl,?_,fun c hc y hy=>?_⟩
    ·apply eD
     intro i
     simp only [aN]
     by_cases hi:i<x.values.length
     ·have e0:=aA hi
      have e1:=aA (show i<qs.length by rw [hE.len];exact hi)
      have e2:=aA (show i<qs1.length by rw [h1.len];exact hi)
      rw [tE e1 e0,tE e2 e0]
      simp [tI,rq i _ _ e1 e2]
     ·rw [bA (by rw [kM h1.len];omega),bA (by rw [kM hE.len];omega)];rfl
    ·simp only [mL] at hc
     obtain ⟨i,hi,rfl⟩:=aM hc
     rw [List.getElem_zipWith,aR] at hy
     subst hy
     show E.al _
     exact (hal _).2 (.inr (by rw [hl];exact bH _ (bH _ (bH _ (aC _)))))
   ·obtain ⟨i,hi,rfl⟩:=aM hq
    have e1:=aA hi
    have hiv:i<x.values.length:=by rw [← hE.len];exact hi
    have e0:=aA hiv
    have e2:=aA (show i<qs1.length by rw [h1.len];exact hiv)
    rw [hE.gq i _ _ e1 e0] at hk;cases hk
    rw [rq i _ _ e1 e2]
    exact ⟨_,h1.gq i _ _ e2 e0,rfl,rfl,rfl,(cI_ren _).symm,cI_ok _⟩
  ·left
   have hg:=hfE j hj2
   rw [hk] at hg
   have hA:H.al j:=bJ fun hn=>by rw [hnon j hn] at hg;cases hg
   exact ⟨hA,hg.symm,(hf1 j hA hj2).trans hg.symm⟩
 ·simp [Qq,tI,ra,rb,rV]
 ·intro c hc
  simp only [aO,eW,or_false] at hc
  rcases hc with rfl|rfl|rfl
  ·exact (hal _).2 (.inr (by rw [hl];simp))
  ·exact (hal _).2 (.inr (by rw [hl];simp))
  ·exact (hal _).2 (.inr (by rw [hl];simp))
theorem ACalls.wf {P:Program}{f:FuncId}{args:List D}{H:AHeap}{Q:D→AHeap→Prop}(he:RQ P f)(h:(∀ j,H.al j→j<H.next)→(∀ j,¬ H.al j→H.get j=none)→ACalls P f args H Q):ACalls P f args H Q :=
 ⟨he,fun M0 σ w vals hR ha=>(h hR.nxt fun j hj=>(hR.top j hj).2).2 M0 σ w vals hR ha⟩
theorem KE {l:List Int}{v:Int}(hs:l.Pairwise (· < ·))(hm:mem l v=true):KF l v=tJ l v:=by
 obtain ⟨i,hi,he⟩:=aM ((mem_iff l v).1 hm)
 have hpw:=b6.1 hs
 rw [xE (i:=i) (fun j hj h=>by
   have hjl:j<l.length:=by omega
   rw [aA hjl] at h
   have:=hpw j i hjl hi hj
   simp at h;omega) (by rw [aA hi,he])]
 rw [Nw (n:=i) (fun j hj h=>by have:=hpw j i hj hi h;omega) (by omega) (fun _=>by omega)]
theorem oQ {α:Type}{f:α→Int}:∀ {l:List α},jD f l=0→∀ x∈l,f x=0
 | [],_,x,hx=>by cases hx
 | a :: l,h,x,hx=>by
  unfold jD at h
  split at h
  ·rename_i h1;exact absurd h h1
  ·rename_i h1
   rcases aO.1 hx with h2|h2
   ·subst h2;omega
   ·exact oQ h x h2
theorem GW {g:Graph}{p:Part}(h:subF g p=0):∀ k∈p.edges,mem p.nodes (g.edges[k.toNat]?.getD cC).from_=true∧mem p.nodes (g.edges[k.toNat]?.getD cC).to_=true:=by
 unfold subF zD at h
 split at h
 ·rename_i h1;exact absurd h h1
 ·split at h
  ·rename_i h2;exact absurd h h2
  ·split at h
   ·rename_i h3;exact absurd h h3
   ·intro k hk
    have:=oQ h k hk
    unfold Fz at this
    split at this
    ·rename_i h4;simpa using h4
    ·cases this
structure Rule.thin (r:Rule):Prop where
 s1:r.left.slots.length≤1000000
 t1:r.left.tests.length≤1000000
 s2:r.right.slots.length≤1000000
theorem Uo {l:List Int}{v:Int}(h:mem l v=true):0≤KF l v∧(KF l v).toNat<l.length∧l[(KF l v).toNat]?=some v:=by
 obtain ⟨i,hi,he⟩:=aM ((mem_iff l v).1 h)
 have h0:0≤KF l v:=by simpa [mem] using h
 unfold KF at h0 ⊢
 cases hf:l.findIdx? (fun x=>decide (x=v)) with
 | none=>rw [hf] at h0;simp at h0
 | some k =>
  rw [fC] at hf
  obtain ⟨hk,hv,_⟩:=hf
  simp only [decide_eq_true_eq] at hv
  exact ⟨by simp,by simpa using hk,by simp [hk,hv]⟩
theorem oS {f:Nat→Int}:∀ (n k:Nat),(∀ j,k≤j→j<k+n→f j=0)→bY f k n=0
 | 0,k,_=>rfl
 | n+1,k,h=>by
  unfold bY
  rw [if_neg (by rw [h k (aL _) (by omega)];simp)]
  exact oS n (k+1) fun j h1 h2=>h j (by omega) (by omega)
theorem Ru {l:List Int}{n:Int}(h1:∀ x∈l,0≤x∧x<n)(h2:l.Pairwise (· < ·)):GJ l n=0:=by
 refine oS _ _ fun j _ hj=>?_
 have hj':j<l.length:=by omega
 have hx:=h1 _ (aC hj')
 unfold M4
 rw [aA hj',aF,if_neg (by omega),if_neg]
 rintro ⟨h0,hle⟩
 rw [aA (show j - 1<l.length by omega),aF] at hle
 have:=b6.1 h2 (j - 1) j (by omega) hj' (by omega)
 omega
theorem Rw {l:List Int}(h:l.Pairwise (· < ·))(h0:∀ x∈l,0≤x):∀ i (hi:i<l.length),(i:Int)≤l[i]
 | 0,hi=>by have:=h0 _ (aC hi);omega
 | i+1,hi=>by
  have h1:=Rw h h0 i (by omega)
  have h2:=b6.1 h i (i+1) (by omega) hi (by omega)
  omega
theorem Ku {α:Type}{f:α→Int}:∀ {l:List α},(∀ x∈l,f x=0)→jD f l=0
 | [],_=>rfl
 | x :: l,h=>by
  unfold jD
  rw [if_neg (by rw [h x (dA ..)];simp)]
  exact Ku fun y hy=>h y (bH _ hy)
def eA (g:Graph)(k:Int):Edge:=g.edges[k.toNat]?.getD cC
def iA (l:List Int)(k:Int):Int:=l[k.toNat]?.getD 0
theorem R5 {g:Graph}{p:Part}(hg:graphF g=0)(hn:∀ x∈p.nodes,0≤x∧x<g.nodes.length)(hns:p.nodes.Pairwise (· < ·))(he:∀ x∈p.edges,0≤x∧x<g.edges.length)(hes:p.edges.Pairwise (· < ·))
  (hends:∀ k∈p.edges,(eA g k).from_∈p.nodes∧(eA g k).to_∈p.nodes):subF g p=0:=by
 unfold subF zD
 rw [if_neg (by rw [hg];simp),if_neg (by rw [Ru hn hns];simp),if_neg (by rw [Ru he hes];simp)]
 refine Ku fun k hk=>?_
 have h1:=(mem_iff _ _).2 (hends k hk).1
 have h2:=(mem_iff _ _).2 (hends k hk).2
 unfold eA at h1 h2
 unfold Fz;rw [if_pos (by rw [h1,h2];rfl)]
theorem L9 (p:Nat→Bool)(n:Nat):(((List.range n).filter p).map fun (b:Nat)=>(b:Int)).Pairwise (· < ·):=by
 rw [j7]
 have h:((List.range n).filter p).Pairwise (· < ·):=List.Pairwise.filter _ List.pairwise_lt_range
 exact h.imp fun h=>by omega
theorem EC (p:Nat→Bool)(n:Nat)(x:Int):x∈(((List.range n).filter p).map fun (b:Nat)=>(b:Int))↔(0≤x∧x<n)∧p x.toNat=true:=by
 simp only [aS,dM,b7]
 constructor
 ·rintro ⟨a,⟨h1,h2⟩,rfl⟩;exact ⟨by omega,by simpa using h2⟩
 ·rintro ⟨⟨h1,h2⟩,h3⟩;exact ⟨x.toNat,⟨by omega,h3⟩,by omega⟩
theorem lJ {l:List Int}{n:Nat}{x:Int}:x∈cV l n↔(0≤x∧x<n)∧x∉l:=by
 unfold cV
 rw [EC]
 constructor
 ·rintro ⟨h,h2⟩
  refine ⟨h,fun hm=>?_⟩
  rw [show ((x.toNat:Nat):Int)=x by omega,(mem_iff l x).2 hm] at h2;cases h2
 ·rintro ⟨h,h2⟩
  refine ⟨h,?_⟩
  rw [show ((x.toNat:Nat):Int)=x by omega,cH,eE]
  exact fun hm=>h2 ((mem_iff l x).1 hm)
theorem r6 (l:List Int)(n:Nat):(cV l n).Pairwise (· < ·):=L9 _ n
theorem Hf {a b:Graph}{m:Part}(h:fH a b m=0):(∀ i,i<a.nodes.length→nQ a b m i=0)∧∀ k,k<a.edges.length→l9 a b m k=0:=by
 obtain ⟨g1,g2,h3,h4⟩:=mW h
 have hM:fH a b m=(if bY (nQ a b m) 0 a.nodes.length≠0 then bY (nQ a b m) 0 a.nodes.length else bY (l9 a b m) 0 a.edges.length):=by
  unfold fH;rw [if_neg (by rw [g1];simp),if_neg (by rw [g2];simp),if_neg (by omega)]
 rw [hM] at h
 split at h
 ·rename_i q;exact absurd h q
 ·rename_i q
  exact ⟨fun i hi=>eJ a.nodes.length 0 (show bY (nQ a b m) 0 a.nodes.length=0 by omega) i (by omega) (by omega),fun k hk=>eJ a.edges.length 0 h k (by omega) (by omega)⟩
theorem Me {a b:Graph}{m:Part}(h:fH a b m=0){i:Int}(h0:0≤i)(hi:i<a.nodes.length):(0≤iA m.nodes i∧iA m.nodes i<b.nodes.length)∧gN b (iA m.nodes i)=gN a i:=by
 have q:=(Hf h).1 i.toNat (by omega)
 unfold nQ at q
 split at q
 ·cases q
 ·rename_i q1
  split at q
  ·cases q
  ·rename_i q2
   exact ⟨by unfold iA;omega,by unfold gN iA;simpa using q2⟩
theorem Mf {a b:Graph}{m:Part}(h:fH a b m=0){k:Int}(h0:0≤k)(hk:k<a.edges.length):(0≤iA m.edges k∧iA m.edges k<b.edges.length)∧(eA a k).type=(eA b (iA m.edges k)).type ∧
  iA m.nodes (eA a k).from_=(eA b (iA m.edges k)).from_∧iA m.nodes (eA a k).to_=(eA b (iA m.edges k)).to_:=by
 have q:=(Hf h).2 k.toNat (by omega)
 unfold l9 at q
 split at q
 ·cases q
 ·rename_i q1
  split at q
  ·cases q
  ·rename_i q2
   split at q
   ·cases q
   ·rename_i q3
    unfold eA iA
    refine ⟨by omega,by simpa using q2,?_,?_⟩<;>exact bJ fun hc=>q3 (by first|exact .inl hc|exact .inr hc)
theorem NR {g:Graph}(hg:graphF g=0){k:Int}(h0:0≤k)(hk:k<g.edges.length):(0≤(eA g k).from_∧(eA g k).from_<g.nodes.length)∧(0≤(eA g k).to_∧(eA g k).to_<g.nodes.length)∧0≤(eA g k).type∧(eA g k).type≤99:=by
 have hk':k.toNat<g.edges.length:=by omega
 have hx:=(gA hg).2 _ (aC hk')
 unfold eA
 rw [aA hk',aF]
 exact ⟨hx.2.1,hx.2.2,hx.1⟩
theorem KU {im keep:List Int}(h:uV im keep=[]){i k:Nat}(hik:i<k)(hk:k<im.length):Ad im keep i k=false:=by
 rw [eE]
 intro hd
 have hm:(i,k)∈uV im keep:=by
  unfold uV IS
  rw [bK]
  refine ⟨i,b7.2 (by omega),?_⟩
  unfold nU
  rw [aS]
  exact ⟨k - (i+1),dM.2 ⟨b7.2 (by omega),by rw [show i+1+(k - (i+1))=k by omega];exact hd⟩,by simp;omega⟩
 rw [h] at hm;cases hm
theorem Q8 {im keep:List Int}(h:uV im keep=[]){i k:Nat}(hi:i<im.length)(hk:k<im.length)(hne:i≠k)(he:im[i]?.getD 0=im[k]?.getD 0):mem keep i=true∧mem keep k=true:=by
 rcases Nat.lt_or_gt_of_ne hne with hlt|hlt
 ·have:=KU h hlt hk
  unfold Ad at this;rw [he] at this;simpa using this
 ·have:=KU h hlt hi
  unfold Ad at this;rw [he] at this;simp at this;exact ⟨this.2,this.1⟩
theorem IV {l g:Graph}{keep m:Part}(h:xM l g keep m=0):fH l g m=0∧subF l keep=0∧uV m.nodes keep.nodes=[]∧uV m.edges keep.edges=[]∧Fy g m.edges (nC m.nodes keep.nodes)=[]:=by
 unfold xM at h
 split at h
 ·rename_i q;exact absurd h q
 ·rename_i q
  have q':compG l g keep m=0:=by omega
  unfold compG at q'
  split at h
  ·cases h
  ·rename_i q2
   split at h
   ·cases h
   ·rename_i q3
    have q4:fH l g m=0∧subF l keep=0:=by
     split at q'
     ·rename_i q5;exact absurd q' q5
     ·rename_i q5;exact ⟨by omega,q'⟩
    exact ⟨q4.1,q4.2,aV (by omega),aV (by omega),aV (by omega)⟩
theorem yG {im keep:List Int}(hd:uV im keep=[]){j:Int}(h0:0≤j)(hj:j<im.length)(hk:j∈keep):iA im j∉nC im keep:=by
 intro hm
 obtain ⟨i,hi,hki,he⟩:=B9.1 hm
 have hne:i≠j.toNat:=by
  rintro rfl
  rw [show ((j.toNat:Nat):Int)=j by omega,(mem_iff _ _).2 hk] at hki;cases hki
 have:=Q8 hd hi (show j.toNat<im.length by omega) hne (by rw [he];rfl)
 rw [hki] at this;exact absurd this.1 (by simp)
theorem SN {l g:Graph}{keep m:Part}(h:xM l g keep m=0):subF g (zK l g keep m)=0:=by
 obtain ⟨hm,hs,hd1,hd2,hda⟩:=IV h
 unfold zK;rw [if_pos h]
 obtain ⟨hgl,hg,hln,hle⟩:=mW hm
 refine R5 hg (fun x hx=>nA hx) (r6 _ _) (fun x hx=>nA hx) (r6 _ _) fun k hk=>?_
 obtain ⟨hkr,hkn⟩:=lJ.1 hk
 have hen:=NR hg hkr.1 hkr.2
 by_cases hkm:k∈m.edges
 ·obtain ⟨i,hi,hik⟩:=aM hkm
  have hkeep:(i:Int)∈keep.edges:=by
   refine bJ fun hc=>hkn (B9.2 ⟨i,hi,?_,?_⟩)
   ·rw [eE];exact fun h'=>hc ((mem_iff _ _).1 h')
   ·rw [aA hi,hik]
  have hse:=GW hs i hkeep
  have hei:=NR (k:=(i:Int)) hgl (by omega) (by omega)
  have hme:=Mf (k:=(i:Int)) hm (by omega) (by omega)
  have hii:iA m.edges i=k:=by unfold iA;simp [hi,hik]
  rw [hii] at hme
  have g1:=yG hd1 hei.1.1 (by omega) ((mem_iff _ _).1 hse.1)
  have g2:=yG hd1 hei.2.1.1 (by omega) ((mem_iff _ _).1 hse.2)
  rw [hme.2.2.1] at g1
  rw [hme.2.2.2] at g2
  exact ⟨lJ.2 ⟨hen.1,g1⟩,lJ.2 ⟨hen.2.1,g2⟩⟩
 ·have hb:C2 g m.edges (nC m.nodes keep.nodes) k.toNat=false:=by
   rw [eE]
   intro hb
   have hmm:k∈Fy g m.edges (nC m.nodes keep.nodes):=by
    unfold Fy;rw [EC];exact ⟨hkr,hb⟩
   rw [hda] at hmm;cases hmm
  unfold C2 at hb
  rw [show ((k.toNat:Nat):Int)=k by omega,show mem m.edges k=false by rw [eE];exact fun h'=>hkm ((mem_iff _ _).1 h')] at hb
  simp only [Bool.not_false,gL,pX] at hb
  exact ⟨lJ.2 ⟨hen.1,fun h'=>by have:=(mem_iff _ _).2 h';unfold eA at this;rw [hb.1] at this;cases this⟩,lJ.2 ⟨hen.2.1,fun h'=>by have:=(mem_iff _ _).2 h';unfold eA at this;rw [hb.2] at this;cases this⟩⟩
theorem Pr {g:Graph}(h1:g.nodes.length≤40)(h2:g.edges.length≤80)(hn:∀ a∈g.nodes,0≤a∧a≤99)
  (he:∀ x∈g.edges,(0≤x.type∧x.type≤99)∧(0≤x.from_∧x.from_<g.nodes.length)∧(0≤x.to_∧x.to_<g.nodes.length)):graphF g=0:=by
 unfold graphF
 rw [if_neg (by omega),if_neg,if_neg]
 ·rw [bX];rintro ⟨x,hx,hf⟩
  have h3:=he x hx
  have h4:CZ x g.nodes.length=true:=by simp [CZ,kQ];omega
  rw [h4] at hf;cases hf
 ·rw [bX];rintro ⟨a,ha,hf⟩
  have h3:=hn a ha
  have h4:kQ a 99=true:=by simp [kQ];omega
  rw [h4] at hf;cases hf
theorem Q2 {g:Graph}{n:Int}(h0:0≤n)(h:n<g.nodes.length):gN g n∈g.nodes:=by
 unfold gN;rw [aA (show n.toNat<g.nodes.length by omega),aF];exact aC _
theorem UN {g:Graph}{n:Int}(h0:0≤n)(h:n<g.edges.length):eA g n∈g.edges:=by
 unfold eA;rw [aA (show n.toNat<g.edges.length by omega),aF];exact aC _
theorem Rv {l:List Int}{n:Nat}(h:l.Pairwise (· < ·))(hr:∀ x∈l,0≤x∧x<n):l.length≤n:=by
 rcases Nat.eq_zero_or_pos l.length with h1|h1
 ·omega
 ·have h2:=Rw h (fun x hx=>(hr x hx).1) (l.length - 1) (by omega)
  have h3:=hr _ (aC (show l.length - 1<l.length by omega))
  omega
theorem Qv {l:List Int}(hs:l.Pairwise (· < ·)){v:Int}(hv:v∈l):tJ l v<l.length∧iA l (tJ l v)=v∧KF l v=tJ l v:=by
 have hm:=(mem_iff l v).2 hv
 have h1:=KE hs hm
 obtain ⟨h2,h3,h4⟩:=Uo hm
 rw [h1] at h2 h3 h4
 refine ⟨by simpa using h3,?_,h1⟩
 unfold iA;rw [h4];rfl
theorem JG {g:Graph}{p:Part}(h:subF g p=0){k:Int}(hk:k∈p.edges):(eA g k).from_∈p.nodes∧(eA g k).to_∈p.nodes:=by
 have:=GW h k hk
 exact ⟨(mem_iff _ _).1 this.1,(mem_iff _ _).1 this.2⟩
theorem UG (g:Graph)(p:Part)(k:Int):gEd g p k=⟨(eA g k).type,tJ p.nodes (eA g k).from_,tJ p.nodes (eA g k).to_⟩:=rfl
theorem Uc {α β:Type}(f:α→β)(l:List α)(d:α)(e:β){i:Nat}(h:i<l.length):((l.map f)[i]?).getD e=f ((l[i]?).getD d):=by simp [h]
theorem IQ {g:Graph}{p:Part}(h:subF g p=0){i:Int}(h0:0≤i)(hi:i<p.nodes.length):gN (dN g p) i=gN g (iA p.nodes i):=by
 unfold dN;rw [if_pos h]
 exact Uc (gN g) p.nodes 0 0 (by omega)
theorem uO (l:List Int)(i:Nat):cV l (i+1)=cV l i++if mem l i=true then [] else [(i:Int)]:=by
 unfold cV;rw [cA,eU,List.map_append]
 congr 1
 simp only [List.filter_cons,List.filter_nil]
 split<;>simp_all
def Pq (t:Types)(r:Rule)(x:Host)(i:Nat):Host :=
 ⟨⟨x.graph.nodes++(cV r.into.nodes i).map (gN r.right.graph),x.graph.edges⟩,x.values++(cV r.into.nodes i).map (fun k=>qY t (gN r.right.graph k))⟩
def Tt (t:Types)(r:Rule)(c:Part)(x:Host)(i:Nat):Host:=⟨⟨x.graph.nodes,x.graph.edges++(cV r.into.edges i).map (fun k=>freshE c (r.right.graph.edges[k.toNat]?.getD cC))⟩,x.values⟩
theorem UO {im keep:List Int}{i k:Nat}(hi:i<im.length)(hk:k<im.length):Ad im keep i k=(decide (im[i]=im[k])&&(!mem keep i||!mem keep k)):=by
 unfold Ad;rw [aA hi,aA hk];rfl
theorem Cf (im keep:List Int){i k:Nat}(h:i+1≤k):nU im keep i (k+1 - (i+1))=nU im keep i (k - (i+1))++(if Ad im keep i k=true then [(i,k)] else []):=by
 rw [show k+1 - (i+1)=(k - (i+1))+1 by omega,KV,show i+1+(k - (i+1))=k by omega]
theorem KW {im keep:List Int}(h:im.length≤1000):(uV im keep).length≤1000000:=by
 have h1:=A8 im keep im.length
 have h2:im.length * im.length≤1000 * 1000:=lT h h
 unfold uV;omega
theorem t6 (im keep:List Int)(hn:im.length≤1000):Pure Tryz.prog 184 [dLI im,dLI keep] (.list ((uV im keep).map cPr)):=by
 refine Tz.pK ⟨fun t=>t==5,fun _=>[]⟩ Tryz.func184 rfl (fun Q hQ=>?_)
 have Y:=trivial
 refine wo (h:=cD (fun i e H=>∃ xs:List (Nat × Nat),(e 0=dLI im∧e 1=dLI keep∧e 9=dI im.length∧e 5=.own 0 xs.length∧e 10=dI i)∧(H.get 0=some ⟨328,2,xs.map cPr,false⟩)∧(0<H.next)∧(i≤im.length)∧(xs=IS im keep i)) (fun i=>im.length - i) 0 ⟨([]),wg,wn,wn,wi,(by rfl)⟩ fun I0 hI0 i e H hi0=>?_)
 obtain ⟨xs,E0,g0_0,n0_0,hi,hx⟩:=hi0
 have Y:=wa Y (wa E0 (wa g0_0 (cO n0_0)))
 refine dU (fun h3=>?_) fun h3=>?_
 ·have Y:=wa Y (wa h3 (aA h3))
  refine wo (h:=cD (fun k e H=>∃ ys:List (Nat × Nat),(e 0=dLI im∧e 1=dLI keep∧e 9=dI im.length∧e 5=.own 0 ys.length∧e 6=dI i∧e 10=dI i∧e 7=dI k)∧(H.get 0=some ⟨328,2,ys.map cPr,false⟩)∧(0<H.next)∧(i+1≤k)∧(k≤im.length)∧(ys=xs++nU im keep i (k - (i+1)))∧(ys.length≤1000000)) (fun k=>im.length - k) (i+1) ⟨xs,wg,wn,wn,wi,wi,(by (simp [nU])),(by (have:=A8 im keep i;have:i * im.length≤1000 * 1000:=lT (by omega) hn;rw [hx];omega))⟩ fun I2 hI2 k e H hi2=>?_)
  obtain ⟨ys,E2,g0_2,n0_2,hk1,hk2,hy,hyl⟩:=hi2
  have Y:=wa Y (wa E2 (wa g0_2 (cO n0_2)))
  refine mP (fun h6=>?_) fun h6=>?_
  ·have hd:=UO (keep:=keep) h3 h6
   have hyl2:(ys++(if Ad im keep i k=true then [(i,k)] else [])).length≤1000000:=by
    have e1:ys++(if Ad im keep i k=true then [(i,k)] else [])=IS im keep i++nU im keep i (k+1 - (i+1)):=by rw [Cf _ _ (by omega),← List.append_assoc,hy,hx]
    rw [e1,aT]
    have h1:=A8 im keep i
    have h2:=Fv im keep i (k+1 - (i+1))
    have h3:i * im.length+im.length≤1000 * 1000:=by
     have:=lT (show i+1≤1000 by omega) hn
     rw [Nat.add_mul] at this;omega
    omega
   have Y:=wa Y (wa h3 (wa (aA h3) (wa h6 (aA h6))))
   refine wo (h:=gW (fun hg=>fF keep i) (fun hg=>wl) ?_)
   refine wo (h:=gW (fun hg=>fF keep k) (fun hg=>wl) ?_)
   refine mP (fun h8=>?_) fun h8=>?_
   ·have hdt:Ad im keep i k=true:=by rw [hd];simpa using h8
    have Y:=wa Y (wa hdt @cPr.eq_1)
    exact wo (h:=wx hI2 (k+1) ⟨(ys++(if Ad im keep i k=true then [(i,k)] else [])),wg,wn,wn,wj,wj,(by (rw [Cf _ _ (by omega),← List.append_assoc,← hy])),(by (exact hyl2))⟩)
   ·have hdf:Ad im keep i k=false:=by rw [hd,eE];intro hb;simp at hb;simp_all
    have Y:=wa Y hdf
    exact wo (h:=wx hI2 (k+1) ⟨(ys++(if Ad im keep i k=true then [(i,k)] else [])),wg,wn,wn,wj,wj,(by (rw [Cf _ _ (by omega),← List.append_assoc,← hy])),(by (exact hyl2))⟩)
  ·have hJ:k=im.length:=by omega
   subst hJ
   subst hy
   exact wo (h:=wx hI0 (i+1) ⟨(xs++nU im keep i (im.length - (i+1))),wg,wn,wn,wj,(by (rw [HI,← hx]))⟩)
 ·have hX:uV im keep=xs:=by rw [hx,show i=im.length by omega];rfl
  exact wv (h:=hQ _ _ (by simp [go_sem,Y,hX]))
def r8 (n:Nat)(l:List Int):List Bool:=l.foldl (fun acc x=>acc.set x.toNat true) (List.replicate n false)
theorem ES (n:Nat)(l:List Int)(x:Int):r8 n (l++[x])=(r8 n l).set x.toNat true:=by unfold r8;rw [cG];rfl
theorem BZ (n:Nat)(l:List Int):(r8 n l).length=n:=by
 unfold r8
 have:∀ (l:List Int) (a:List Bool),a.length=n→(l.foldl (fun acc x=>acc.set x.toNat true) a).length=n:=by
  intro l
  induction l with
  | nil=>intro a h;exact h
  | cons x l ih=>intro a h;exact ih _ (by simpa using h)
 exact this l _ (by simp)
theorem Pf (n : Nat) : ∀ (l : List Int), (∀ x ∈ l, 0 ≤ x ∧ x < n) → ∀ i : Nat, i < n → (r8 n l)[i]? = some (mem l i) := by
  have : ∀ (l : List Int) (a : List Bool), a.length = n → (∀ x ∈ l, 0 ≤ x ∧ x < n) → ∀ i : Nat, i < n → (l.foldl (fun acc x => acc.set x.toNat true) a)[i]? = some (a[i]?.getD false || mem l i) := by
    intro l
    induction l with
    | nil => intro a ha _ i hi; rw [List.foldl_nil, aA (by omega), DG]; simp
    | cons x l ih =>
      intro a ha hl i hi
      have hx := hl x (by simp)
      rw [c8, ih _ (by simpa using ha) (fun y hy => hl y (by simp [hy])) i hi]
      congr 1
      have hm : mem (x :: l) (i : Int) = (decide ((i : Int) = x) || mem l i) := by
        rw [bF, mem_iff, cK, mem_iff, decide_eq_true_eq, aO]
      rw [hm]
      by_cases he : x.toNat = i
      · subst he
        rw [List.getElem?_set_self (by omega)]
        have : ((x.toNat : Nat) : Int) = x := by omega
        simp [this]
      · rw [List.getElem?_set_ne he]
        have : ¬ ((i : Int) = x) := by omega
        simp [this]
  intro l hl i hi
  unfold r8
  rw [this l _ (by simp) hl i hi]
  simp [hi]
theorem vL (n:Nat)(hn:n≤1000000)(im keep:List Int)(hi1:im.length≤1000000)(him:∀ x∈im,0≤x∧x<n):Pure Tryz.prog 149 [dI n,dLI im,dLI keep] (dLI (cV (nC im keep) n)):=by
 refine Tz.pK ⟨fun t=>t==14||t==10,fun _=>[]⟩ Tryz.func149 rfl (fun Q hQ=>?_)
 have Y:=trivial
 refine wo (h:=cD (fun i e H=>∃ go:List Int,(e 0=dI n∧e 2=dLI keep∧e 15=dLI im∧e 16=dI im.length∧e 7=.own 0 n∧e 17=dI i)∧(H.get 0=some ⟨4,1,(r8 n go).map cB,false⟩)∧(0<H.next)∧(i≤im.length)∧((r8 n go).length=n)∧(go=((List.range i).filter fun (b:Nat)=>!mem keep b).map (fun i=>im[i]?.getD 0))) (fun i=>im.length - i) 0 ⟨([]),wg,(by (simp [go_sem,r8,cB])),wn,wi,(by (exact BZ _ _)),(by rfl)⟩ fun I0 hI0 i e H hi0=>?_)
 obtain ⟨go,E0,g0_0,n0_0,hi,hgl,hx⟩:=hi0
 have Y:=wa Y (wa E0 (wa g0_0 (cO n0_0)))
 refine dU (fun h3=>?_) fun h3=>?_
 ·have hb:=him _ (aC h3)
  have hbl:im[i].toNat<(r8 n go).length:=by omega
  have Y:=wa Y (wa h3 (wa (aA h3) (aA hbl)))
  refine wo (h:=aB (fF keep i) wl ?_)
  refine mP (fun h5=>?_) fun h5=>?_
  ·have Y:=wa Y h5
   exact wo (h:=wx hI0 (i+1) ⟨(go++(if (!mem keep i)=true then [im[i]] else [])),wg,(by (simp [go_sem,Y,ES,eF,cB])),wn,wj,(by (exact BZ _ _)),(by (rw [uT _ _ h3,← hx]))⟩)
  ·have Y:=wa Y h5
   exact wo (h:=wx hI0 (i+1) ⟨(go++(if (!mem keep i)=true then [im[i]] else [])),wg,(by (simp [go_sem,Y,ES,eF,cB])),wn,wj,(by (exact BZ _ _)),(by (rw [uT _ _ h3,← hx]))⟩)
 ·have hgo:nC im keep=go:=by rw [hx,show i=im.length by omega];rfl
  have hgi:∀ x∈go,0≤x∧x<n:=fun x hxm=>by
   rw [← hgo,B9] at hxm
   obtain ⟨j,_,_,h⟩:=hxm
   exact him x (aJ h)
  refine wo (h:=cD (fun k e H=>∃ xs:List Int,∃ b10:Nat,(e 0=dI n∧e 2=dLI keep∧e 15=dLI im∧e 16=dI im.length∧e 30=.own 0 n∧e 31=dI n∧e 32=dI k∧e 10=.own b10 xs.length)∧(H.get 0=some ⟨4,1,(r8 n go).map cB,false⟩)∧(0<H.next)∧(H.get b10=some ⟨3,1,xs.map cI,false⟩)∧(b10<H.next)∧(b10≠0)∧(k≤n)∧(xs.length≤k)∧(xs=((List.range k).filter fun (b:Nat)=>!mem go b).map (fun (b:Nat)=>(b:Int)))) (fun k=>n - k) 0 ⟨([]),H.next,wg,wn,wn,wn,wn,(by omega),wi,(by simp),(by rfl)⟩ fun I2 hI2 k e H hi2=>?_)
  obtain ⟨xs,b10,E2,g0_2,n0_2,gb10_2,nb10_2,hb0,hk,hl,hxx⟩:=hi2
  have di1:=dP (show 0≠b10 by omega)
  have Y:=wa Y (wa E2 (wa g0_2 (wa (cO n0_2) (wa gb10_2 (wa (cO nb10_2) (wa hgl di1))))))
  refine dU (fun h10=>?_) fun h10=>?_
  ·have hkm:k<(r8 n go).length:=by omega
   have hg:(r8 n go)[k]=mem go k:=by have:=Pf n go hgi k h10;rw [aA hkm] at this;exact Option.some.inj this
   have Y:=wa Y (wa h10 (wa (aA hkm) hg))
   refine mP (fun h12=>?_) fun h12=>?_
   ·have Y:=wa Y h12
    exact wo (h:=wx hI2 (k+1) ⟨(xs++(if (!mem go k)=true then [(k:Int)] else [])),b10,wg,wn,wn,wn,wn,(by omega),wj,(by (rw [aT];split<;>simp<;>omega)),(by (rw [fA,← hxx]))⟩)
   ·have Y:=wa Y h12
    exact wo (h:=wx hI2 (k+1) ⟨(xs++(if (!mem go k)=true then [(k:Int)] else [])),b10,wg,wn,wn,wn,wn,(by omega),wj,(by (rw [aT];split<;>simp<;>omega)),(by (rw [fA,← hxx]))⟩)
  ·exact wv (h:=hQ _ _ (by simp [go_sem,Y,hgo,cV];rw [hxx,show k=n by omega];simp))
def gluC (l g:Graph)(keep m:Part):List D:=[dLI l.nodes,.list (l.edges.map Edge.c),dLI g.nodes,.list (g.edges.map Edge.c),dLI keep.nodes,dLI keep.edges,dLI m.nodes,dLI m.edges]
theorem Cj (l g:Graph)(keep m:Part)(hk:keep.nodes.length≤1000000):Pure Tryz.prog 146 [.agg (gluC l g keep m)] (dI (compG l g keep m)):=by
 refine Tz.pK ⟨fun _=>false,fun _=>[]⟩ Tryz.func146 rfl (fun Q hQ=>?_)
 have Y:=@gluC.eq_1
 refine wv (h:=aB (nP l g m) wl ?_)
 refine dU (fun h2=>?_) fun h2=>?_
 ·have Y:=wa Y (wa h2 @compG.eq_1)
  exact wv (h:=hQ _ _ wy)
 ·refine wv (h:=aB (wI l keep hk) wl ?_)
  have Y:=wa Y (wa h2 @compG.eq_1)
  exact wv (h:=hQ _ _ wy)
theorem Ag (l g:Graph)(keep m:Part)(hn:m.nodes.length≤1000000):Pure Tryz.prog 185 [.agg (gluC l g keep m)] (dLI (nC m.nodes keep.nodes)):=by
 refine Tz.pK ⟨fun t=>t==3,fun _=>[]⟩ Tryz.func185 rfl (fun Q hQ=>?_)
 have Y:=@gluC.eq_1
 refine wo (h:=cD (fun i e H=>∃ xs:List Int,(e 1=.adr (gluC l g keep m)∧e 8=dLI m.nodes∧e 9=dI m.nodes.length∧e 3=.own 0 xs.length∧e 10=dI i)∧(H.get 0=some ⟨3,1,xs.map cI,false⟩)∧(0<H.next)∧(i≤m.nodes.length)∧(xs.length≤i)∧(xs=((List.range i).filter fun (b:Nat)=>!mem keep.nodes b).map (fun i=>m.nodes[i]?.getD 0))) (fun i=>m.nodes.length - i) 0 ⟨([]),wg,wn,wn,wi,(by simp),(by rfl)⟩ fun I0 hI0 i e H hi0=>?_)
 obtain ⟨xs,E0,g0_0,n0_0,hi,hl,hx⟩:=hi0
 have Y:=wa Y (wa E0 (wa g0_0 (cO n0_0)))
 refine dU (fun h3=>?_) fun h3=>?_
 ·have Y:=wa Y (wa h3 (aA h3))
  refine wo (h:=aB (fF keep.nodes i) wl ?_)
  refine mP (fun h5=>?_) fun h5=>?_
  ·have Y:=wa Y h5
   exact wo (h:=wx hI0 (i+1) ⟨(xs++(if (!mem keep.nodes i)=true then [m.nodes[i]] else [])),wg,wn,wn,wj,(by (rw [aT];split<;>simp<;>omega)),(by (rw [uT _ _ h3,← hx]))⟩)
  ·have Y:=wa Y h5
   exact wo (h:=wx hI0 (i+1) ⟨(xs++(if (!mem keep.nodes i)=true then [m.nodes[i]] else [])),wg,wn,wn,wj,(by (rw [aT];split<;>simp<;>omega)),(by (rw [uT _ _ h3,← hx]))⟩)
 ·refine wv (h:=?_)
  have hX:nC m.nodes keep.nodes=xs:=by rw [hx,show i=m.nodes.length by omega];rfl
  exact hQ _ _ (by simp [go_sem,Y,hX])
theorem yX (l g:Graph)(keep m:Part)(hn:m.nodes.length≤1000000)(hg:g.edges.length≤1000000):Pure Tryz.prog 148 [.agg (gluC l g keep m)] (dLI (Fy g m.edges (nC m.nodes keep.nodes))):=by
 obtain ⟨go,hgo⟩:∃ go,nC m.nodes keep.nodes=go:=⟨_,rfl⟩
 refine Tz.pK ⟨fun t=>t==6||t==4,fun _=>[]⟩ Tryz.func148 rfl (fun Q hQ=>?_)
 have Y:=wa hgo @gluC.eq_1
 refine wv (h:=aB ((by have:=Ag l g keep m hn;simp only [gluC] at this;exact this)) wl ?_)
 refine wo (h:=cD (fun k e H=>∃ xs:List Int,(e 1=.adr (gluC l g keep m)∧e 3=dLI go∧e 11=.list (g.edges.map Edge.c)∧e 12=dI g.edges.length∧e 4=.own 0 xs.length∧e 13=dI k)∧(H.get 0=some ⟨3,1,xs.map cI,false⟩)∧(0<H.next)∧(k≤g.edges.length)∧(xs.length≤k)∧(xs=((List.range k).filter (C2 g m.edges go)).map (fun (b:Nat)=>(b:Int)))) (fun k=>g.edges.length - k) 0 ⟨([]),wg,wn,wn,wi,(by simp),(by rfl)⟩ fun I0 hI0 k e H hi0=>?_)
 obtain ⟨xs,E0,g0_0,n0_0,hi,hl,hx⟩:=hi0
 have Y:=wa Y (wa E0 (wa g0_0 (cO n0_0)))
 refine dU (fun h4=>?_) fun h4=>?_
 ·have hdb:=Rb (me:=m.edges) (gone:=go) h4
  have c1:=fF go g.edges[k].from_
  have c2:=fF go g.edges[k].to_
  have Y:=wa Y (wa h4 (wa (aA h4) (wa hdb @Edge.c.eq_1)))
  refine wo (h:=aB (fF m.edges k) wl ?_)
  refine wo (h:=bD (fun hg=>c1) (fun hg=>wl) ?_)
  refine wo (h:=bD (fun hg=>c2) (fun hg=>wl) ?_)
  refine mP (fun h6=>?_) fun h6=>?_
  ·have Y:=wa Y h6
   exact wo (h:=wx hI0 (k+1) ⟨(xs++(if C2 g m.edges go k=true then [(k:Int)] else [])),wg,wn,wn,wj,(by (rw [aT];split<;>simp<;>omega)),(by (rw [fA,← hx]))⟩)
  ·have Y:=wa Y h6
   exact wo (h:=wx hI0 (k+1) ⟨(xs++(if C2 g m.edges go k=true then [(k:Int)] else [])),wg,wn,wn,wj,(by (rw [aT];split<;>simp<;>omega)),(by (rw [fA,← hx]))⟩)
 ·refine wv (h:=?_)
  have hX:Fy g m.edges go=xs:=by rw [hx,show k=g.edges.length by omega];rfl
  exact hQ _ _ (by simp [go_sem,Y,hX])
theorem vZ (l g:Graph)(keep m:Part)(h1:m.nodes.length≤1000)(h2:m.edges.length≤1000):Pure Tryz.prog 147 [.agg (gluC l g keep m)] (.tup [.list ((uV m.nodes keep.nodes).map cPr),.list ((uV m.edges keep.edges).map cPr)]):=by
 refine Tz.pK ⟨fun _=>false,fun _=>[]⟩ Tryz.func147 rfl (fun Q hQ=>?_)
 have Y:=@gluC.eq_1
 refine wv (h:=bB (t6 m.nodes keep.nodes h1) wl ?_)
 refine wv (h:=bB (t6 m.edges keep.edges h2) wl ?_)
 exact wv (h:=hQ _ _ wy)
theorem yE {a b:Graph}{m:Part}(h:fH a b m=0):(∀ x∈m.nodes,0≤x∧x<b.nodes.length)∧∀ x∈m.edges,0≤x∧x<b.edges.length:=by
 obtain ⟨_,_,h3,h4⟩:=mW h
 have hM:fH a b m=(if bY (nQ a b m) 0 a.nodes.length≠0 then bY (nQ a b m) 0 a.nodes.length else bY (l9 a b m) 0 a.edges.length):=by
  obtain ⟨g1,g2,_,_⟩:=mW h
  unfold fH;rw [if_neg (by simp [g1]),if_neg (by simp [g2]),if_neg (by omega)]
 rw [hM] at h
 split at h
 ·rename_i h5;exact absurd h h5
 ·rename_i h5
  constructor
  ·intro x hx
   obtain ⟨i,hi,rfl⟩:=aM hx
   have:=eJ _ _ (show bY (nQ a b m) 0 a.nodes.length=0 by omega) i (by omega) (by omega)
   unfold nQ at this
   rw [aA hi] at this
   simp only [aF] at this
   split at this<;>omega
  ·intro x hx
   obtain ⟨i,hi,rfl⟩:=aM hx
   have:=eJ _ _ h i (by omega) (by omega)
   unfold l9 at this
   rw [aA hi] at this
   simp only [aF] at this
   split at this<;>omega
theorem GD (l g:Graph)(keep m:Part)(hk:keep.nodes.length≤1000000)(hm1:m.nodes.length≤1000)(hm2:m.edges.length≤1000)(hg1:g.nodes.length≤1000000)(hg2:g.edges.length≤1000000):Pure Tryz.prog 109 [l.d,g.d,keep.d,m.d] (.tup [(zK l g keep m).d,dI (xM l g keep m)]):=by
 have hd1:=KW (keep:=keep.nodes) hm1
 have hd2:=KW (keep:=keep.edges) hm2
 refine Tz.pK ⟨fun t=>t==8||t==10,fun _=>[]⟩ Tryz.func109 rfl (fun Q hQ=>?_)
 have Y:=trivial
 refine wv (h:=aB ((by have:=Cj l g keep m hk;simp only [gluC] at this;exact this)) wl ?_)
 refine dU (fun h3=>?_) fun h3=>?_
 ·have hC:xM l g keep m=compG l g keep m:=if_pos h3
  have hZ:zK l g keep m=⟨[],[]⟩:=if_neg (by rw [hC];exact h3)
  exact wv (h:=hQ _ _ (by simp [go_sem,hC,hZ]))
 ·have hC:xM l g keep m=if 0<(uV m.nodes keep.nodes).length+(uV m.edges keep.edges).length then 15 else if 0<(Fy g m.edges (nC m.nodes keep.nodes)).length then 14 else 0:=if_neg (by rw [h3];simp)
  have hin:(∀ x∈m.nodes,0≤x∧x<g.nodes.length)∧∀ x∈m.edges,0≤x∧x<g.edges.length:=yE (a:=l) (by unfold compG at h3;by_cases hz:fH l g m=0;exact hz;rw [if_pos hz] at h3;exact h3)
  refine wv (h:=aB ((by have:=vZ l g keep m hm1 hm2;simp only [gluC] at this;exact this)) wl ?_)
  refine mP (fun h6=>?_) fun h6=>?_
  ·rw [if_pos (by omega)] at hC
   have hZ:zK l g keep m=⟨[],[]⟩:=if_neg (by rw [hC];simp)
   exact wv (h:=hQ _ _ (by simp [go_sem,hC,hZ]))
  ·rw [if_neg (by first|omega|simp [h6])] at hC
   refine wo (h:=aB ((by have:=yX l g keep m (by omega) hg2;simp only [gluC] at this;exact this)) wl ?_)
   refine mP (fun h8=>?_) fun h8=>?_
   ·rw [if_pos (by omega)] at hC
    have hZ:zK l g keep m=⟨[],[]⟩:=if_neg (by rw [hC];simp)
    exact wv (h:=hQ _ _ (by simp [go_sem,hC,hZ]))
   ·rw [if_neg (by first|omega|simp [h8])] at hC
    have hZ:zK l g keep m=⟨cV (nC m.nodes keep.nodes) g.nodes.length,cV (nC m.edges keep.edges) g.edges.length⟩:=if_pos hC
    refine wo (h:=bB (vL g.nodes.length hg1 m.nodes keep.nodes (by omega) hin.1) wl ?_)
    refine wo (h:=bB (vL g.edges.length hg2 m.edges keep.edges (by omega) hin.2) wl ?_)
    exact wo (h:=hQ _ _ (by simp [go_sem,hC,hZ]))
theorem NJ (a b:Int):(a==b)=decide (a=b):=by rw [bF];simp
theorem FW (f:Nat→Bool)(k:Nat):(List.range (k+1)).any f=((List.range k).any f||f k):=by rw [cA,s6];simp
@[go_sem] theorem EK (l:List Part):D.clLL (l.map Part.c)=true:=cE _ (fun p=>by simp [Part.c,D.clL,mC]) l
@[go_sem] theorem VA (l:List Part):D.clLL (l.map Part.c)=true:=EK l
def ID (t:Types)(p g:Graph)(m:Part):Graph:=if fY t p g m false=0 then xC p g m else ⟨[],[]⟩
theorem BY {t:Types}{p g:Graph}{m:Part}{inj:Bool}(h:jW t p g m inj=0) :
  (m.nodes.length=p.nodes.length∧m.edges.length=p.edges.length)∧(∀ x∈m.nodes,0≤x∧x<g.nodes.length)∧(∀ x∈m.edges,0≤x∧x<g.edges.length):=by
 unfold jW at h
 split at h
 ·cases h
 ·rename_i h1
  split at h
  ·exact absurd h (by assumption)
  ·rename_i h2
   split at h
   ·exact absurd h (by assumption)
   ·rename_i h3
    refine ⟨by omega,fun x hx=>?_,fun x hx=>?_⟩
    ·obtain ⟨k,hk,rfl⟩:=aM hx
     have:=eJ _ _ (by simpa using h2) k (dE _) (by omega)
     unfold P2 at this
     rw [aA hk,aF] at this
     split at this
     ·cases this
     ·omega
    ·obtain ⟨k,hk,rfl⟩:=aM hx
     have:=eJ _ _ (by simpa using h3) k (dE _) (by omega)
     unfold l9 at this
     rw [aA hk,aF] at this
     split at this
     ·cases this
     ·omega
theorem Cn {t:Types}{p g:Graph}{m:Part}{inj:Bool}(h:fY t p g m inj=0):G17 t p g∧jW t p g m inj=0:=by
 unfold fY at h
 split at h
 ·exact absurd h (by assumption)
 ·rename_i h1;exact ⟨q8 (by simpa using h1),h⟩
theorem Kt {α:Type}{f:α→Int}{m:Int}(h0:(0:Int)≠m)(h:∀ x,f x≠m):∀ l,jD f l≠m
 | []=>h0
 | x :: l=>by
  simp only [jD];split
  ·exact h x
  ·exact Kt h0 h l
theorem Ol (n:Int)(l:List Test):oJ n l≠9:=by
 unfold oJ
 split
 ·decide
 ·split
  ·decide
  ·refine Kt (by decide) (fun x=>?_) l
   unfold As;split
   ·decide
   ·split<;>decide
structure PatOk (t:Types) (q:Pattern):Prop where
 vf:(cJ t).2=0
 gg:graphF q.graph=0
 ty:iL t q.graph=true
 vars:0≤q.vars∧q.vars≤12
 few:q.slots.length≤10∧q.tests.length≤10
 slot:∀ s∈q.slots,kH t q s=0
 test:∀ x∈q.tests,As q.vars x=0
theorem J9 {t:Types}{q:Pattern}(h:dG t q=9∨dG t q=0):PatOk t q:=by
 have hv:=mM h
 have hne:=GS t
 have hg9:graphF q.graph≠9:=by
  unfold graphF;repeat' split
  all_goals decide
 have ht9:=Ol q.vars q.tests
 unfold dG at h
 by_cases h1:(cJ t).2=0
 ·rw [if_neg (by omega)] at h
  by_cases h2:graphF q.graph=0
  ·rw [if_neg (by omega)] at h
   by_cases h3:iL t q.graph=false
   ·rw [if_pos h3] at h;omega
   ·rw [if_neg h3] at h
    by_cases h4:inF q.vars 0 12=false
    ·rw [if_pos h4] at h;omega
    ·rw [if_neg h4] at h
     by_cases h5:10<q.slots.length∨10<q.tests.length
     ·rw [if_pos h5] at h;omega
     ·rw [if_neg h5] at h
      by_cases h6:jD (kH t q) q.slots=0
      ·rw [if_neg (by omega)] at h
       by_cases h7:oJ q.vars q.tests=0
       ·refine ⟨h1,h2,by simpa using h3,hv,by omega,oQ h6,oQ ?_⟩
        unfold oJ at h7
        split at h7
        ·cases h7
        ·split at h7
         ·cases h7
         ·exact h7
       ·rw [if_pos h7] at h;omega
      ·rw [if_pos h6] at h;omega
  ·rw [if_pos h2] at h;omega
 ·rw [if_pos h1] at h;omega
theorem JF {n:Int}{x:Term}(h:termB n x=true)(hn:0≤n):rL x n.toNat:=by
 simp only [termB,aQ,decide_eq_true_eq] at h
 exact ⟨⟨by omega,by omega⟩,by omega,by omega⟩
theorem PatOk.tests {t:Types}{q:Pattern}(hp:PatOk t q):∀ x∈q.tests,M8 x q.vars.toNat:=fun x hx=>by
 have:=hp.test x hx
 unfold As at this
 split at this
 ·cases this
 ·rename_i h1
  split at this
  ·rename_i h2
   rw [aQ] at h2
   exact ⟨by omega,JF h2.1 hp.vars.1,JF h2.2 hp.vars.1⟩
  ·cases this
theorem PatOk.slots {t:Types}{q:Pattern}(hp:PatOk t q):∀ s∈q.slots,(0≤s.node∧s.node<q.graph.nodes.length)∧(0≤s.attr∧s.attr<(cN t (q.graph.nodes[s.node.toNat]?.getD 0)).length)∧rL s.term q.vars.toNat:=fun s hs=>by
 have:=hp.slot s hs
 have hv:=hp.vars
 unfold kH at this
 split at this
 ·rename_i h1
  simp only [aQ,pV,decide_eq_true_eq,inF,Pattern.kind] at h1
  exact ⟨h1.1.1.1,⟨h1.1.1.2.1,of_decide_eq_true h1.1.1.2.2⟩,⟨by omega,by omega⟩,by omega,by omega⟩
 ·cases this
structure MOk (t:Types) (p g:Graph) (m:Part):Prop where
 len:m.nodes.length=p.nodes.length
 elen:m.edges.length=p.edges.length
 img:∀ (i:Nat) (hi:i<m.nodes.length) (hp:i<p.nodes.length),(0≤m.nodes[i]∧m.nodes[i]<g.nodes.length)∧yY t p.nodes[i] (g.nodes[m.nodes[i].toNat]?.getD 0)=true
 eimg:∀ (i:Nat) (hi:i<m.edges.length),0≤m.edges[i]∧m.edges[i]<g.edges.length
theorem zY {t:Types}{p g:Graph}{m:Part}{inj:Bool}(h:jW t p g m inj=0):MOk t p g m:=by
 obtain ⟨⟨h1,h2⟩,h3,h4⟩:=BY h
 refine ⟨h1,h2,fun i hi hp=>⟨h3 _ (aC hi),?_⟩,fun i hi=>h4 _ (aC hi)⟩
 unfold jW at h
 rw [if_neg (by omega)] at h
 split at h
 ·exact absurd h (by assumption)
 ·rename_i h5
  have:=eJ _ _ (by simpa using h5) i (dE _) (by omega)
  unfold P2 at this
  rw [aA hi,aA hp,aF,aF] at this
  split at this
  ·cases this
  ·split at this
   ·assumption
   ·cases this
theorem KQ {S:Srch}{ns:List Int}:∀ (d:Nat) (l es:List Int),es∈Do S ns d l→es.length=l.length+d∧(∀ x∈l,0≤x∧x<S.g.edges.length→True)∧((∀ x∈l,0≤x∧x<S.g.edges.length)→∀ x∈es,0≤x∧x<S.g.edges.length)
 | 0,l,es,h=>by
  simp only [Do,aR] at h;subst h
  exact ⟨rfl,fun _ _ _=>trivial,fun h=>h⟩
 | d+1,l,es,h=>by
  simp only [Do,bK,dM,b7] at h
  obtain ⟨k,⟨hk,_⟩,hr⟩:=h
  obtain ⟨h1,_,h3⟩:=KQ d _ es hr
  refine ⟨by simp at h1;omega,fun _ _ _=>trivial,fun hl=>h3 fun x hx=>?_⟩
  rw [aW,aR] at hx
  rcases hx with hx|rfl
  ·exact hl x hx
  ·omega
theorem KP {S:Srch}:∀ (d:Nat) (l:List Int) (m:Part),m∈Fq S d l→m.nodes.length=l.length+d∧∀ i,l.length≤i→i<l.length+d→∃ k:Nat,m.nodes[i]?=some (k:Int)∧k<S.g.nodes.length∧yY S.t (S.p.nodes[i]?.getD 0) (S.g.nodes[k]?.getD 0)=true
 | 0,l,m,h=>by
  simp only [Fq,aS] at h
  obtain ⟨es,_,rfl⟩:=h
  exact ⟨rfl,fun i h1 h2=>by omega⟩
 | d+1,l,m,h=>by
  have h':=h
  simp only [Fq,bK,dM,b7] at h
  obtain ⟨k,⟨hk,ho⟩,hr⟩:=h
  obtain ⟨h1,h2⟩:=KP d _ m hr
  simp at h1 h2
  refine ⟨by omega,fun i h3 h4=>?_⟩
  by_cases hi:i=l.length
  ·subst hi
   obtain ⟨⟨r,hr2⟩,_⟩:=A4 d _ m hr
   refine ⟨k,by rw [hr2];simp,hk,?_⟩
   simp only [O0,aQ] at ho
   exact ho.2.2
  ·exact h2 i (by omega) (by omega)
theorem Lp {S:Srch}{m:Part}(h:m∈GM S):MOk S.t S.p S.g m:=by
 unfold GM at h
 obtain ⟨h1,h2⟩:=KP _ _ m h
 obtain ⟨_,h3⟩:=A4 _ _ m h
 obtain ⟨h4,_,h5⟩:=KQ _ _ _ h3
 simp at h1 h2 h4
 refine ⟨h1,h4,fun i hi hp=>?_,fun i hi=>h5 (by intro x hx;cases hx) _ (aC hi)⟩
 obtain ⟨k,k1,k2,k3⟩:=h2 i (by omega)
 rw [aA hi] at k1
 have hk:m.nodes[i]=(k:Int):=Option.some.inj k1
 rw [aA hp,aF] at k3
 rw [hk]
 exact ⟨by omega,by simpa using k3⟩
theorem CX {t:Types}{h:Host}(ho:HostOk t h):∀ a∈h.graph.nodes,0≤a∧a<t.nodes.length:=fun a ha=>by
 obtain ⟨i,hi,rfl⟩:=aM ha
 have:=ho.vl
 exact ⟨((gA ho.gg).1 _ ha).1,(tQ (ho.nd i hi (by omega))).1⟩
theorem Wd {t:Types}{q:Pattern}{h:Host}{m:Part}(hp:PatOk t q)(ho:HostOk t h)(hm:MOk t q.graph h.graph m):SOk q h m where
 vars:=hp.vars
 node s hs:=by have:=hp.slots s hs;have:=hm.len;omega
 img k hk:=by
  obtain ⟨i,hi,rfl⟩:=aM hk
  have:=(hm.img i hi (by have:=hm.len;omega)).1
  have:=ho.vl
  omega
 attr s hs:=by
  obtain ⟨h1,h2,_⟩:=hp.slots s hs
  have hl:=hm.len
  have hi:s.node.toNat<m.nodes.length:=by omega
  have hq:s.node.toNat<q.graph.nodes.length:=by omega
  obtain ⟨h3,h4⟩:=hm.img _ hi hq
  have hvl:=ho.vl
  have hk:m.nodes[s.node.toNat].toNat<h.graph.nodes.length:=by omega
  have hkv:m.nodes[s.node.toNat].toNat<h.values.length:=by omega
  rw [aA hi,aF,aA hkv,aF]
  rw [aA hq,aF] at h2
  rw [aA hk,aF] at h4
  have ha:=(oI hp.gg hp.ty).1 _ (aC hq)
  have hb:=CX ho _ (aC hk)
  rw [qF hp.vf ha.1 ha.2] at h2
  have hrow:=(tQ (ho.nd _ hk hkv)).2.2.1
  rw [qF hp.vf hb.1 hb.2] at hrow
  unfold yY at h4
  obtain ⟨r,hr⟩:=HV (mJ hp.vf) (h.graph.nodes[m.nodes[s.node.toNat].toNat]).toNat (by omega) (q.graph.nodes[s.node.toNat]).toNat (by rw [Int.toNat_of_nonneg ha.1];exact h4)
  rw [hr,aT] at hrow
  omega
 small l hl v hv:=(ho.row l hl).2 v hv
 term s hs:=(hp.slots s hs).2.2
 test:=hp.tests
/-! ### values -/
def LS (p:Pattern)(vs:List Int):List Int × List Bool:=(vs++List.replicate (p.vars.toNat - vs.length) 0,List.replicate vs.length true++List.replicate (p.vars.toNat - vs.length) false)
theorem Nd (p:Pattern):LS p []=(List.replicate p.vars.toNat 0,List.replicate p.vars.toNat false):=by simp [LS]
theorem iK {p:Pattern}{h:Host}{m:Part}{vs:List Int}(h0:i7 h m (LS p vs) p.slots=none):gH p h m vs=([],11):=by
 unfold gH;unfold LS at h0;rw [h0]
theorem uG {p:Pattern}{h:Host}{m:Part}{vs:List Int}{q:List Int × List Bool}(h0:i7 h m (LS p vs) p.slots=some q):gH p h m vs=if p.tests.all (fun x=>LI x q.1)=true then (q.1,0) else ([],16):=by
 unfold gH;unfold LS at h0;rw [h0]
structure StOk (n:Nat) (st:List Int × List Bool):Prop where
 l1:st.1.length=n
 l2:st.2.length=n
 sm:∀ v∈st.1,-2000000≤v∧v≤2000000
theorem StOk.big {n:Nat}{st:List Int × List Bool}(h:StOk n st):Sm st.1:=fun v hv=>by have:=h.sm v hv;omega
theorem Qe {p:Pattern}{vs:List Int}(hv:0≤p.vars)(hl:vs.length≤p.vars.toNat)(hs:∀ v∈vs,-2000000≤v∧v≤2000000):StOk p.vars.toNat (LS p vs):=by
 refine ⟨by simp [LS];omega,by simp [LS];omega,fun v h=>?_⟩
 simp only [LS,aW,List.mem_replicate] at h
 rcases h with h|h
 ·exact hs v h
 ·omega
theorem Ee {n:Nat}{h:Host}{m:Part}{st:List Int × List Bool}{s:Slot}(hst:StOk n st)(hb : -1000000≤oF h m s∧oF h m s≤1000000)(ht:rL s.term n):StOk n (o8 h m st s):=by
 unfold o8
 split
 ·refine ⟨by simp [hst.l1],by simp [hst.l2],fun v hv=>?_⟩
  rcases iY hv with h1|rfl
  ·exact hst.sm v h1
  ·have:=ht.2;omega
 ·exact hst
theorem SOk.have_ {p:Pattern}{h:Host}{m:Part}(hO:SOk p h m){s:Slot}(hs:s∈p.slots) : -1000000≤oF h m s∧oF h m s≤1000000:=by
 have hn:=hO.node s hs
 have hn2:s.node.toNat<m.nodes.length:=by omega
 have hk:=hO.img _ (aC hn2)
 have hk2:(m.nodes[s.node.toNat]).toNat<h.values.length:=by omega
 have ha:=hO.attr s hs
 unfold oF
 rw [aA hn2,aF,aA hk2,aF] at ha ⊢
 have ha2:s.attr.toNat<(h.values[(m.nodes[s.node.toNat]).toNat]).length:=by omega
 rw [aA ha2]
 exact hO.small _ (aC hk2) _ (aC ha2)
theorem GX {p:Pattern}{h:Host}{m:Part}(hO:SOk p h m):∀ (l:List Slot) (st q:List Int × List Bool),(∀ s∈l,s∈p.slots)→StOk p.vars.toNat st→i7 h m st l=some q→StOk p.vars.toNat q
 | [],st,q,_,hst,hq=>by simp only [i7,aY] at hq;exact hq ▸ hst
 | s :: l,st,q,hl,hst,hq=>by
  simp only [i7] at hq
  split at hq
  ·have hs:=hl s (dA ..)
   exact GX hO l _ q (fun x hx=>hl x (bH _ hx)) (Ee hst (hO.have_ hs) (hO.term s hs)) hq
  ·cases hq
theorem DS {p:Pattern}{h:Host}{m:Part}(hO:SOk p h m){vs:List Int}(hl:vs.length≤p.vars.toNat)(hs:∀ v∈vs,-2000000≤v∧v≤2000000)(h0:(gH p h m vs).2=0) :
  (gH p h m vs).1.length=p.vars.toNat∧∀ v∈(gH p h m vs).1,-2000000≤v∧v≤2000000:=by
 cases hq:i7 h m (LS p vs) p.slots with
 | none=>rw [iK hq] at h0;cases h0
 | some q =>
  have hk:=GX hO _ _ _ (fun _ h=>h) (Qe hO.vars.1 hl hs) hq
  rw [uG hq] at h0 ⊢
  split at h0
  ·rename_i h1;rw [if_pos h1];exact ⟨hk.l1,hk.sm⟩
  ·cases h0
theorem uE (q:Pattern)(h:Host)(vars:List Int)(l:List Part)(x:Part):wF q h vars (l++[x])=wF q h vars l++if (gH q h x vars).2=0 then [⟨x,(gH q h x vars).1⟩] else []:=by
 unfold wF
 rw [List.filterMap_append]
 congr 1
 simp only [List.filterMap_cons,List.filterMap_nil]
 split<;>simp_all
def Qw (at_ im:List Int)(n i:Nat):List Int:=(List.range i).foldl (fun acc i=>acc.set (at_[i]?.getD 0).toNat (im[i]?.getD 0)) (List.replicate n (-1))
theorem J7 (at_ im:List Int)(n i:Nat):Qw at_ im n (i+1)=(Qw at_ im n i).set (at_[i]?.getD 0).toNat (im[i]?.getD 0):=by unfold Qw;rw [iG]
theorem Iw (at_ im:List Int)(n:Nat):∀ i,(Qw at_ im n i).length=n
 | 0=>by simp [Qw]
 | i+1=>by rw [J7,fI];exact Iw at_ im n i
def VG (len i:Nat):List Bool:=(List.range i).map fun j=>decide (j<len)
theorem NH (len n:Nat)(h:len≤n):VG len n=List.replicate len true++List.replicate (n - len) false:=by
 apply fS (by simp [VG];omega)
 intro i h1 h2
 simp only [VG,rM,oD,List.getElem_append,List.getElem_replicate,o5]
 split
 ·rename_i h3;simpa using h3
 ·rename_i h3;simpa using h3
def V4 (vs:List Int)(i:Nat):List Int:=vs++List.replicate (i - vs.length) 0
structure MatOk (t:Types) (p:Pattern) (h:Host) (m:Mat):Prop where
 mok:MOk t p.graph h.graph m.m
 vl:m.vars.length=p.vars.toNat
 vs:∀ v∈m.vars,-2000000≤v∧v≤2000000
structure ExOk (t:Types) (p:Pattern) (mp:Part) (q:Pattern):Prop where
 pq:PatOk t q
 pv:p.vars≤q.vars
 p0:0≤p.vars
 mo:fH p.graph q.graph mp=0
theorem ExOk.img {t:Types}{p:Pattern}{mp:Part}{q:Pattern}(h:ExOk t p mp q):(mp.nodes.length=p.graph.nodes.length∧mp.edges.length=p.graph.edges.length)∧(∀ x∈mp.nodes,0≤x∧x<q.graph.nodes.length)∧(∀ x∈mp.edges,0≤x∧x<q.graph.edges.length):=by
 have:=mW h.mo
 exact ⟨this.2.2,(yE h.mo).1,(yE h.mo).2⟩
theorem KO {t:Types}{p g:Graph}{q:Part}{inj:Bool}{m:Part}(h:m∈(tT t p g q inj).1):MOk t p g m:=by
 unfold tT at h
 split at h
 ·cases h
 ·split at h
  ·cases h
  ·split at h
   ·cases h
   ·split at h
    ·cases h
    ·unfold GA at h
     split at h
     ·cases h
     ·exact Lp (S:=⟨t,p,g,_,_,inj⟩) (bN h)
theorem P6 {t:Types}{q:Pattern}{h:Host}{vars:List Int}{l:List Part}(hp:PatOk t q)(ho:HostOk t h)(hl:∀ x∈l,MOk t q.graph h.graph x)(hv:vars.length≤q.vars.toNat)(hs:∀ v∈vars,-2000000≤v∧v≤2000000):∀ m∈wF q h vars l,MatOk t q h m:=fun m hm=>by
 unfold wF at hm
 rw [List.mem_filterMap] at hm
 obtain ⟨x,hx,he⟩:=hm
 split at he
 ·rename_i h0
  cases he
  obtain ⟨h1,h2⟩:=DS (Wd hp ho (hl x hx)) hv hs h0
  exact ⟨hl x hx,h1,h2⟩
 ·cases he
theorem SI {t:Types}{p:Pattern}{mp:Part}{q:Pattern}{h:Host}{m:Mat}{inj:Bool}(hE:ExOk t p mp q)(ho:HostOk t h)(hm:MatOk t p h m):∀ x∈(Cc t mp q h m inj).1,MatOk t q h x:=by
 unfold Cc
 split
 ·simp
 ·exact P6 hE.pq ho (fun x hx=>KO hx) (by have:=hm.vl;have:=hE.pv;have:=hE.p0;omega) hm.vs
theorem QP (l:List Cond):l.length≤Cond.sizes l:=by
 induction l with
 | nil=>simp [Cond.sizes]
 | cons a l ih=>have:=AA a;simp only [Cond.sizes,bW];omega
structure CondV (t:Types) (p:Pattern) (c:Cond):Prop where
 wf:Og c=true
 ins:xD t p c=0
 sz:c.size≤1000000
theorem CondV.kinds {t:Types}{p:Pattern}{c:Cond}(h:CondV t p c):(c.kind=2∨c.kind=5→c.kids.length=1)∧(1≤c.kind∧c.kind≤5):=by
 have:=h.wf
 rw [uF,aQ] at this
 have h1:=this.1
 unfold AV at h1
 split at h1
 ·omega
 ·split at h1
  ·rw [aQ,decide_eq_true_eq] at h1;omega
  ·split at h1
   ·omega
   ·rw [aQ,decide_eq_true_eq,decide_eq_true_eq] at h1;omega
theorem CondV.ex {t:Types}{p:Pattern}{c:Cond}(h:CondV t p c)(h5:c.kind=5)(hp:PatOk t p):ExOk t p c.map c.pattern∧∀ k∈c.kids,CondV t c.pattern k:=by
 have hi:=h.ins
 have hw:=h.wf
 rw [IF,if_pos h5,if_pos h5] at hi
 rw [uF,aQ,dJ] at hw
 by_cases h0:mQ t p c.map c.pattern=0
 ·rw [if_neg (by omega)] at hi
  refine ⟨?_,fun k hk=>⟨hw.2 k hk,oQ hi k hk,by have:=AA c;have:=Eg hk;have:=h.sz;omega⟩⟩
  unfold mQ at h0
  split at h0
  ·cases h0
  ·rename_i h1
   split at h0
   ·exact absurd h0 (by assumption)
   ·rename_i h2
    split at h0
    ·exact absurd h0 (by assumption)
    ·rename_i h3
     rw [j8] at h2 h3
     refine ⟨J9 ?_,by omega,hp.vars.1,h3⟩
     unfold q7 at h2
     split at h2
     ·exact .inr h2
     ·rename_i h4;left;omega
 ·rw [if_pos h0] at hi;exact absurd hi h0
theorem CondV.kid {t:Types}{p:Pattern}{c:Cond}(h:CondV t p c)(h5:c.kind≠5):∀ k∈c.kids,CondV t p k:=by
 have hi:=h.ins
 have hw:=h.wf
 rw [IF,if_neg h5,if_neg h5,if_neg (by omega)] at hi
 rw [uF,aQ,dJ] at hw
 exact fun k hk=>⟨hw.2 k hk,oQ hi k hk,by have:=AA c;have:=Eg hk;have:=h.sz;omega⟩
theorem Fw {α β:Type}(f:α→β){l:List α}{i:Nat}(h:i<l.length):(l.drop i).map f=f l[i] :: (l.drop (i+1)).map f:=by rw [List.drop_eq_getElem_cons h,i6]
theorem Hq {t:Types}{h:Host}{inj:Bool}{l:List Cond}(hl:0<l.length):KJ (l.map (rN t h inj))=rN t h inj l[0]:=by
 cases l with
 | nil=>cases hl
 | cons a l=>rfl
end Go.Abs
end
