/- Hosts: what a valid one is; a host that lies in owned slices -/
import Derived.Test.YthalajhajpjjeaaGreatZeF
import Derived.Test.YthalajhajpjjeaaGreatZeA
import Derived.Test.YthalajhajpjjeaaGreatZeK
import Derived.Test.YthalajhajpjjeaaGreatZeM
set_option linter.unusedVariables false
set_option linter.unusedSimpArgs false
section
set_option maxRecDepth 100000
set_option maxHeartbeats 4000000
open Go Go.Proofs
namespace Go.Abs
theorem pS {t:Types}(hv:(b8 t).2=0){a:Int}(h0:0≤a)(h1:a<t.nodes.length):bI t a=t.attrs a.toNat:=by
 unfold bI;rw [if_pos];simp [given2F,hv,insideF,h0,h1]
theorem qH {t:Types}(hv:(b8 t).2=0)(a:Int):(bI t a).length≤8:=by
 by_cases h:0≤a∧a<t.nodes.length
 ·rw [pS hv h.1 h.2];exact (lN hv).attrs _ (by omega)
 ·unfold bI;rw [if_neg (by simp [given2F,hv,insideF];omega)];simp
theorem AL {t:Types}(hv:(b8 t).2=0)(a:Int):∀ x∈bI t a,SmallA x:=by
 by_cases h:0≤a∧a<t.nodes.length
 ·rw [pS hv h.1 h.2];exact KG hv _ (by omega)
 ·unfold bI;rw [if_neg (by simp [given2F,hv,insideF];omega)];simp
structure HostOk (t:Types) (h:Host):Prop where
 vf:(b8 t).2=0
 gg:graphF h.graph=0
 vl:h.values.length=h.graph.nodes.length
 nd:∀ (i:Nat) (hi:i<h.graph.nodes.length) (hv:i<h.values.length),f9 t h.graph.nodes[i] h.values[i]=0
 ed:∀ x∈h.graph.edges,x.type<t.edges.length∧l9 t x.type (gN h.graph x.from_) (gN h.graph x.to_)=true
theorem tZ {t:Types}{h:Host}(h0:fW t h=0):HostOk t h:=by
 unfold fW l8 at h0
 split at h0
 ·rename_i h1;exact absurd h0 h1
 ·rename_i h1
  split at h0
  ·rename_i h2;exact absurd h0 h2
  ·rename_i h2
   split at h0
   ·cases h0
   ·rename_i h3
    split at h0
    ·rename_i h4;exact absurd h0 h4
    ·rename_i h4
     rw [iT] at h4
     rw [rL] at h4 h0
     refine ⟨by omega,by omega,by omega,fun i hi hv=>?_,fun x hx=>?_⟩
     ·have:=dZ _ _ h4 i (dF _) (by omega)
      simpa only [Ep,aA hi,aA hv,aD] using this
     ·obtain ⟨k,hk,rfl⟩:=aO hx
      have:=dZ _ _ h0 k (dF _) (by omega)
      simp only [N9,aA hk,aD] at this
      split at this
      ·cases this
      ·split at this
       ·exact ⟨by omega,by assumption⟩
       ·cases this
theorem sZ {t:Types}{k:Int}{vs:List Int}(h:f9 t k vs=0):k<t.nodes.length∧uW t k.toNat=false∧vs.length=(bI t k).length ∧
  ∀ (j:Nat) (hj:j<vs.length) (ha:j<(bI t k).length),(bI t k)[j].low≤vs[j]∧vs[j]≤(bI t k)[j].high:=by
 unfold f9 at h
 split at h
 ·cases h
 ·rename_i h1
  split at h
  ·cases h
  ·rename_i h2
   split at h
   ·cases h
   ·rename_i h3
    refine ⟨by omega,by simpa using h2,by omega,fun j hj ha=>?_⟩
    have:=dZ _ _ h j (dF _) (by omega)
    simp only [Al,aA hj,aA ha,aD] at this
    split at this
    ·cases this
    ·omega
theorem HostOk.row {t:Types}{h:Host}(ho:HostOk t h):∀ v∈h.values,v.length≤8∧∀ x∈v,-1000000≤x∧x≤1000000:=fun v hv=>by
 obtain ⟨i,hi,rfl⟩:=aO hv
 have hn:=ho.vl
 obtain ⟨h1,h2,h3,h4⟩:=sZ (ho.nd i (by omega) hi)
 have hl:=qH ho.vf (h.graph.nodes[i]'(by omega))
 refine ⟨by omega,fun x hx=>?_⟩
 obtain ⟨j,hj,rfl⟩:=aO hx
 have:=h4 j hj (by omega)
 have hs:=AL ho.vf _ _ (aC (show j<(bI t (h.graph.nodes[i]'(by omega))).length by omega))
 have:=hs.lo;have:=hs.hi
 omega
/-! ### a host in owned slices -/
def jK (qs:List Nat)(vs:List (List Int)):List (List D):=List.zipWith (fun q (v:List Int)=>[D.own q v.length]) qs vs
theorem iG {qs:List Nat}{vs:List (List Int)}(h:qs.length=vs.length):(jK qs vs).length=vs.length:=by simp [jK,h]
theorem tS {qs:List Nat}{vs:List (List Int)}(h:qs.length=vs.length)(q:Nat)(v:List Int):jK (qs++[q]) (vs++[v])=jK qs vs++[[.own q v.length]]:=by
 simp [jK,List.zipWith_append h]
theorem pM {qs:List Nat}{vs:List (List Int)}{i q:Nat}{v:List Int}(h1:qs[i]?=some q)(h2:vs[i]?=some v):(jK qs vs)[i]?=some [.own q v.length]:=by
 simp [jK,List.getElem?_zipWith,h1,h2]
theorem Nx {qs:List Nat}{vs:List (List Int)}{i:Nat}{v v':List Int}(h2:vs[i]?=some v)(hl:v'.length=v.length):jK qs (vs.set i v')=jK qs vs:=by
 apply fP
 intro j
 simp only [jK,List.getElem?_zipWith,dN]
 by_cases h:i=j
 ·subst h
  have hi:=(aL.1 h2).1
  rw [if_pos rfl,if_pos hi,h2]
  cases qs[i]?<;>simp [hl]
 ·rw [if_neg h]
structure HH (H:AHeap) (lo a b V:Nat) (qs:List Nat) (h:Host):Prop where
 ga:H.get a=some ⟨3,1,h.graph.nodes.map cI,false⟩
 gb:H.get b=some ⟨122,3,h.graph.edges.map Edge.c,false⟩
 gV:H.get V=some ⟨26,1,jK qs h.values,false⟩
 len:qs.length=h.values.length
 gq:∀ (i q:Nat) (v:List Int),qs[i]?=some q→h.values[i]?=some v→H.get q=some ⟨3,1,v.map cI,false⟩
 nd:(a :: b :: V :: qs).Nodup
 rng:∀ q∈a :: b :: V :: qs,lo≤q∧q<H.next
section
variable {H H':AHeap} {lo a b V:Nat} {qs:List Nat} {x:Host}
theorem HH.a_in (h:HH H lo a b V qs x):a∈a :: b :: V :: qs:=by simp
theorem HH.b_in (h:HH H lo a b V qs x):b∈a :: b :: V :: qs:=by simp
theorem HH.V_in (h:HH H lo a b V qs x):V∈a :: b :: V :: qs:=by simp
theorem HH.q_in (h:HH H lo a b V qs x){q:Nat}(hq:q∈qs):q∈a :: b :: V :: qs:=by simp [hq]
theorem HH.ab (h:HH H lo a b V qs x):a≠b∧a≠V∧b≠V:=by
 have:=h.nd;simp only [fY,aT,not_or] at this
 exact ⟨this.1.1,this.1.2.1,this.2.1.1⟩
theorem HH.qn (h:HH H lo a b V qs x){q:Nat}(hq:q∈qs):q≠a∧q≠b∧q≠V:=by
 have:=h.nd;simp only [fY,aT,not_or] at this
 exact ⟨fun e=>this.1.2.2 (e ▸ hq),fun e=>this.2.1.2 (e ▸ hq),fun e=>this.2.2.1 (e ▸ hq)⟩
theorem HH.lower (h:HH H lo a b V qs x){lo':Nat}(hl:lo'≤lo):HH H lo' a b V qs x:=⟨h.ga,h.gb,h.gV,h.len,h.gq,h.nd,fun q hq=>⟨dW hl (h.rng q hq).1,(h.rng q hq).2⟩⟩
theorem HH.same (h:HH H lo a b V qs x)(hn:H.next≤H'.next)(hf:∀ j∈a :: b :: V :: qs,H'.get j=H.get j):HH H' lo a b V qs x where
 ga:=(hf a h.a_in).trans h.ga
 gb:=(hf b h.b_in).trans h.gb
 gV:=(hf V h.V_in).trans h.gV
 len:=h.len
 gq i q v h1 h2:=(hf q (h.q_in (aJ h1))).trans (h.gq i q v h1 h2)
 nd:=h.nd
 rng q hq:=⟨(h.rng q hq).1,bQ (h.rng q hq).2 hn⟩
theorem HH.nodes (h:HH H lo a b V qs x)(hn:H.next≤H'.next){ns:List Int}(ga:H'.get a=some ⟨3,1,ns.map cI,false⟩)(hf:∀ j∈b :: V :: qs,H'.get j=H.get j):HH H' lo a b V qs ⟨⟨ns,x.graph.edges⟩,x.values⟩ where
 ga:=ga
 gb:=(hf b (by simp)).trans h.gb
 gV:=(hf V (by simp)).trans h.gV
 len:=h.len
 gq i q v h1 h2:=(hf q (by simp [aJ h1])).trans (h.gq i q v h1 h2)
 nd:=h.nd
 rng q hq:=⟨(h.rng q hq).1,bQ (h.rng q hq).2 hn⟩
theorem HH.edges (h:HH H lo a b V qs x)(hn:H.next≤H'.next){es:List Edge}(gb:H'.get b=some ⟨122,3,es.map Edge.c,false⟩)(hf:∀ j∈a :: V :: qs,H'.get j=H.get j):HH H' lo a b V qs ⟨⟨x.graph.nodes,es⟩,x.values⟩ where
 ga:=(hf a (by simp)).trans h.ga
 gb:=gb
 gV:=(hf V (by simp)).trans h.gV
 len:=h.len
 gq i q v h1 h2:=(hf q (by simp [aJ h1])).trans (h.gq i q v h1 h2)
 nd:=h.nd
 rng q hq:=⟨(h.rng q hq).1,bQ (h.rng q hq).2 hn⟩
theorem HH.rowAdd (h:HH H lo a b V qs x)(hn:H.next≤H'.next){q:Nat}{v:List Int}(hlo:lo≤q)(hq:∀ j∈a :: b :: V :: qs,j≠q)(hq2:q<H'.next)(gq:H'.get q=some ⟨3,1,v.map cI,false⟩)
  (gV:H'.get V=some ⟨26,1,jK qs x.values++[[.own q v.length]],false⟩) (hf:∀ j∈a :: b :: qs,H'.get j=H.get j):HH H' lo a b V (qs++[q]) ⟨x.graph,x.values++[v]⟩ where
 ga:=(hf a (by simp)).trans h.ga
 gb:=(hf b (by simp)).trans h.gb
 gV:=by rw [tS h.len];exact gV
 len:=by simp [h.len]
 gq i q' v' h1 h2:=by
  by_cases hi:i<qs.length
  ·rw [aS hi] at h1
   rw [aS (by rw [← h.len];exact hi)] at h2
   exact (hf q' (by simp [aJ h1])).trans (h.gq i q' v' h1 h2)
  ·have h1':=(aL.1 h1).1
   have:i=qs.length:=by simp at h1';omega
   subst this
   simp at h1
   rw [h.len] at h2;simp at h2
   subst h1 h2;exact gq
 nd:=by
  have:=h.nd
  have e:a :: b :: V :: (qs++[q])=(a :: b :: V :: qs)++[q]:=rfl
  rw [e,oS]
  exact ⟨this,by simp,fun y hy z hz=>by rw [bL] at hz;subst hz;exact hq y hy⟩
 rng j hj:=by
  have e:a :: b :: V :: (qs++[q])=(a :: b :: V :: qs)++[q]:=rfl
  rw [e,aY,bL] at hj
  rcases hj with hj|rfl
  ·exact ⟨(h.rng j hj).1,bQ (h.rng j hj).2 hn⟩
  ·exact ⟨hlo,hq2⟩
theorem HH.rowSet (h:HH H lo a b V qs x)(hn:H.next≤H'.next){i q:Nat}{v v':List Int}(h1:qs[i]?=some q)(h2:x.values[i]?=some v)(hl:v'.length=v.length)(gq:H'.get q=some ⟨3,1,v'.map cI,false⟩)
  (hf:∀ j∈a :: b :: V :: qs,j≠q→H'.get j=H.get j):HH H' lo a b V qs ⟨x.graph,x.values.set i v'⟩ where
 ga:=(hf a h.a_in (Ne.symm (h.qn (aJ h1)).1)).trans h.ga
 gb:=(hf b h.b_in (Ne.symm (h.qn (aJ h1)).2.1)).trans h.gb
 gV:=by rw [Nx h2 hl];exact (hf V h.V_in (Ne.symm (h.qn (aJ h1)).2.2)).trans h.gV
 len:=by simp [h.len]
 gq j q' w k1 k2:=by
  have hqn:qs.Nodup:=by have:=h.nd;simp only [fY] at this;exact this.2.2.2
  rw [dN] at k2
  by_cases hj:i=j
  ·subst hj
   rw [h1] at k1;cases k1
   rw [if_pos rfl] at k2
   split at k2
   ·cases k2;exact gq
   ·cases k2
  ·rw [if_neg hj] at k2
   refine (hf q' (h.q_in (aJ k1)) fun e=>hj ?_).trans (h.gq j q' w k1 k2)
   subst e
   obtain ⟨a1,a2⟩:=aL.1 h1
   obtain ⟨b1,b2⟩:=aL.1 k1
   exact (qQ hqn).1 (a2.trans b2.symm)
 nd:=h.nd
 rng q hq:=⟨(h.rng q hq).1,bQ (h.rng q hq).2 hn⟩
theorem HH.read (h:HH H lo a b V qs x):(jK qs x.values).map (·.map (eJ H))=x.values.map cL:=by
 apply fP
 intro i
 simp only [aR]
 by_cases hi:i<x.values.length
 ·have hq:i<qs.length:=by rw [h.len];exact hi
  have e1:=aA hi
  have e2:=aA hq
  rw [pM e2 e1,e1]
  have:=h.gq i _ _ e2 e1
  simp [eJ,this,cL,dLI]
 ·rw [bP (by rw [iG h.len];omega),bP (by omega)];rfl
theorem HH.deep (h:HH H lo a b V qs x):iV H (.agg [.own a x.graph.nodes.length,.own b x.graph.edges.length,.own V x.values.length])=x.d:=by
 have h1:∀ l:List (List D),(∀ c∈l,∀ y∈c,∀ i n,y≠D.own i n∧∀ p q r,y≠D.win i p q r)→l.map (·.map (eJ H))=l:=fun l hl=>by
  conv=>rhs;rw [← List.map_id l]
  refine bU fun c hc=>?_
  conv=>rhs;rw [id,← List.map_id c]
  refine bU fun y hy=>?_
  cases y<;>first|rfl|(exfalso;first|exact (hl c hc _ hy _ _).1 rfl|exact (hl c hc _ hy _ 0).2 _ _ _ rfl)
 simp only [iV,nC,f6,iE,h.ga,h.gb,h.gV,bW,iG h.len,if_true,h.read]
 rw [h1 (x.graph.nodes.map cI) (fun c hc y hy i n=>by
  rw [bG] at hc;obtain ⟨z,_,rfl⟩:=hc
  simp [cI] at hy;subst hy;simp),h1 (x.graph.edges.map Edge.c) (fun c hc y hy i n=>by
  rw [bG] at hc;obtain ⟨z,_,rfl⟩:=hc
  simp [Edge.c,dI] at hy;rcases hy with rfl|rfl|rfl<;>simp)]
 rfl
theorem Ka {l:List (List D)}(hl:∀ c∈l,∀ y∈c,jL y=[]):l.flatten.flatMap jL=[]:=by
 rw [vA]
 intro i hi
 rw [bT] at hi
 obtain ⟨y,hy,hi⟩:=hi
 rw [iD] at hy
 obtain ⟨c,hc,hy⟩:=hy
 rw [hl c hc y hy] at hi;cases hi
theorem HH.ids (h:HH H lo a b V qs x)(n m k:Nat)(e:Int):∀ i∈yF H (.tup [.agg [.own a n,.own b m,.own V k],dI e]),i∈a :: b :: V :: qs:=by
 intro i hi
 have e1:(x.graph.nodes.map cI).flatten.flatMap jL=[]:=Ka fun c hc y hy=>by
  rw [bG] at hc;obtain ⟨z,_,rfl⟩:=hc
  simp [cI] at hy;subst hy;rfl
 have e2:(x.graph.edges.map Edge.c).flatten.flatMap jL=[]:=Ka fun c hc y hy=>by
  rw [bG] at hc;obtain ⟨z,_,rfl⟩:=hc
  simp [Edge.c,dI] at hy;rcases hy with rfl|rfl|rfl<;>rfl
 simp only [yF,Em,H9,uZ,FX,h.ga,h.gb,h.gV,e1,e2,dI,jL,dJ,aY,aT,eY,or_false] at hi
 rcases hi with rfl|rfl|rfl|hi
 ·exact h.a_in
 ·exact h.b_in
 ·exact h.V_in
 ·rw [bT] at hi
  obtain ⟨y,hy,hi⟩:=hi
  rw [iD] at hy
  obtain ⟨c,hc,hy⟩:=hy
  simp only [jK] at hc
  obtain ⟨j,hj,rfl⟩:=aO hc
  rw [List.getElem_zipWith,bL] at hy
  subst hy
  simp only [jL,bL] at hi
  subst hi
  exact h.q_in (aC _)
end
theorem KO (h:Host):D.clL h.c=true:=by simp [Host.c,D.clL,D.cl,mV,s7];exact cQ _ (fun v=>by simp [cL,D.clL,mV]) _
@[go_sem] theorem Host.cld (h:Host):h.d.cl=true:=by simp [Host.d,D.cl,KO]
/-! ### Extract -/
def R8 (t:Types)(h:Host)(p:Part):Int:=if fW t h≠0 then fW t h else subF h.graph p
def PU (t:Types)(h:Host)(p:Part):Host:=if R8 t h p=0 then ⟨bY h.graph p,p.nodes.map fun k=>h.values[k.toNat]?.getD []⟩ else ⟨⟨[],[]⟩,[]⟩
theorem FC (t:Types)(ht:t.ok)(h:Host)(p:Part)(hl:p.nodes.length≤1000000)(hle:p.edges.length≤1000000):Pure Tryz.prog 153 [t.d,h.d,p.d] (.tup [(PU t h p).d,dI (R8 t h p)]):=by
 refine Tz.pK ⟨fun t=>t==6||t==10||t==11||t==13||t==48,fun r=>match r with|11=>[(0,2),(1,2),(2,3),(2,4),(2,5),(2,6),(2,8),(2,9),(2,10),(2,11),(0,12),(1,12),(0,13),(1,13)]|_=>[]⟩ Tryz.func153 rfl (fun Q hQ=>?_)
 have Y:=wa @Host.d.eq_1 @Host.c.eq_1
 refine wv (h:=aB (vU t ht h) wl ?_)
 refine c4 (fun h2=>?_) fun h2=>?_
 ·have hE:R8 t h p=(l8 t h).2:=by unfold R8;rw [if_pos (by unfold fW;omega)];rfl
  have hX:PU t h p=⟨⟨[],[]⟩,[]⟩:=by unfold PU;rw [if_neg (by omega)]
  exact wv (h:=hQ _ _ (by simp [go_sem,hE,hX,dLI]))
 ·have h0:fW t h=0:=by unfold fW;omega
  have hE:R8 t h p=subF h.graph p:=by unfold R8;rw [if_neg (by omega)]
  have ho:=tZ h0
  have hrow:=ho.row
  have hgl:=bK ho.gg
  have hvl:=ho.vl
  refine wv (h:=aB (x8 h.graph p hl hle) wl ?_)
  refine c4 (fun h5=>?_) fun h5=>?_
  ·have hX:PU t h p=⟨⟨[],[]⟩,[]⟩:=by unfold PU;rw [if_neg (by omega)]
   exact wv (h:=hQ _ _ (by simp [go_sem,hE,hX,dLI]))
  ·have h5':subF h.graph p=0:=by omega
   obtain ⟨hs1,hs2,hs3,hs4⟩:=wV h5'
   have hP:yD h.graph p=p:=by unfold yD;rw [if_pos h5']
   have hX:PU t h p=⟨bY h.graph p,p.nodes.map fun k=>h.values[k.toNat]?.getD []⟩:=by unfold PU;rw [if_pos (by omega)]
   have Y:=wa Y (wa hP (wa @Part.d.eq_1 (wa @Part.c.eq_1 (wa @Graph.d.eq_1 @Graph.c.eq_1))))
   refine wv (h:=wB (Ghosts.step (Ghosts.refl _) 3 0 2 26 1 _ _ ((by simp [go_sem];rfl)) rfl rfl rfl) (fun i e H=>∃ vs:List (List Int),(e 3=.adr t.c∧e 4=.adr h.c∧e 5=.adr p.c∧e 6=.ptr 0 1 0 0∧e 10=.ptr 1 1 0 0∧e 11=.ptr 2 1 0 0∧e 13=.ptr 3 1 0 0∧e 14=dI i)∧(H.get 0=some ⟨44,3,[[.nil,.nil,.nil]],false⟩)∧(0<H.next)∧(H.get 1=some ⟨29,2,[(bY h.graph p).c],false⟩)∧(1<H.next)∧(H.get 2=some ⟨36,2,[p.c],false⟩)∧(2<H.next)∧(H.get 3=some ⟨44,3,[[dLI (bY h.graph p).nodes,.list ((bY h.graph p).edges.map Edge.c),.own 4 vs.length]],false⟩)∧(3<H.next)∧(H.get 4=some ⟨26,1,vs.map cL,false⟩)∧(4<H.next)∧(i≤p.nodes.length)∧(vs=(p.nodes.take i).map fun k=>h.values[k.toNat]?.getD [])∧(vs.length=i)) (fun i=>p.nodes.length - i) 0 ⟨([]),wg,wn,wn,wn,wn,wn,wn,wn,wn,wn,wn,wi,(by rfl),(by rfl)⟩ fun I0 hI0 i e H hi0=>?_)
   obtain ⟨vs,E0,g0_0,n0_0,g1_0,n1_0,g2_0,n2_0,g3_0,n3_0,g4_0,n4_0,hi,hvs,hvl2⟩:=hi0
   have Y:=wa Y (wa E0 (wa g0_0 (wa (bZ n0_0) (wa g1_0 (wa (bZ n1_0) (wa g2_0 (wa (bZ n2_0) (wa g3_0 (wa (bZ n3_0) (wa g4_0 (bZ n4_0)))))))))))
   refine tG (fun h9=>?_) fun h9=>?_
   ·have hk:=hs3 _ (aC h9)
    have hkv:p.nodes[i].toNat<h.values.length:=by omega
    have hr8:=(hrow _ (aC hkv)).1
    have Y:=wa Y (wa h9 (wa (aA h9) (wa (aA hkv) @cL.eq_1)))
    exact wp (h:=wx hI0 (i+1) ⟨(vs++[h.values[p.nodes[i].toNat]]),wg,wn,wn,wn,wn,wn,wn,wn,wn,wn,wn,wj,(by (rw [jF _ h9,← hvs,aA hkv];rfl)),(by (simp;omega))⟩)
   ·have hVS:vs=p.nodes.map fun k=>h.values[k.toNat]?.getD []:=by rw [hvs,j6 _ (by omega)]
    exact wv (h:=hQ _ _ (by simp [go_sem,Y,hE,hX,h5',hVS,cL]))
theorem FD (h:Host)(hn:h.graph.nodes.length≤100000)(he:h.graph.edges.length≤100000)(hv:h.values.length≤100000)(hr:∀ v∈h.values,v.length≤100000)(G:AHeap)(Q:D→AHeap→Prop)
  (hQ:∀ a b V qs H',HH H' G.next a b V qs h→(∀ j,j<G.next→H'.get j=G.get j)→G.next≤H'.next→Q (.agg [.own a h.graph.nodes.length,.own b h.graph.edges.length,.own V h.values.length]) H'):ACalls Tryz.prog 65 [h.d] G Q:=by
 refine (aI (cfg:=⟨fun t=>t==2||t==3||t==18||t==1000001,fun r=>match r with|5=>[(0,2),(1,2),(2,3),(2,4),(2,6),(2,7),(0,8),(1,8),(0,9),(1,9)]|_=>[]⟩) Tz.mixed Tryz.func65 rfl rfl (aF rfl) (by kernel_rfl) ?_)
 have Y:=wa @Host.d.eq_1 @Host.c.eq_1
 refine wv (h:=?_)
 unfold fE;refine x9 h.graph (by omega) (by omega) _ _ (fun a b H1 ha hb hab han hbn hga hgb hfr hnn=>?_)
 simp [go_sem] at ha hb hnn
 have hgR:=hfr G.next (by simp [go_sem])
 simp [go_sem] at hgR
 have hfr1:∀ j,j<G.next→H1.get j=G.get j:=fun j hj=>by
  rw [hfr j (by simp [go_sem];omega)];simp [go_sem,show j≠G.next by omega]
 have nx:=VK H1.next
 have fr1:=And.intro (bZ (show a<H1.next by omega)) (And.intro (bZ (show b<H1.next by omega)) (bZ (show G.next<H1.next by omega)))
 have di2:=And.intro (cW (show G.next≠b by omega)) (And.intro (cW (show G.next≠a by omega)) (cW (show b≠a by omega)))
 have Y:=wa Y (wa fr1 (wa di2 (wa hga (wa hgb (wa hgR nx)))))
 refine wv (h:=wB (Ghosts.step (Ghosts.refl _) H1.next 0 2 26 1 _ _ ((by simp [go_sem];rfl)) rfl rfl rfl) (fun i e H=>∃ R:Nat,∃ c:Nat,∃ V:Nat,∃ qs:List Nat,(e 1=.adr h.c∧e 2=.ptr R 1 0 0∧e 3=.ptr c 1 0 0∧e 4=dI i)∧(H.get R=some ⟨44,3,[[.nil,.nil,.nil]],false⟩)∧(R<H.next)∧(H.get c=some ⟨44,3,[[.own a h.graph.nodes.length,.own b h.graph.edges.length,.own V i]],false⟩)∧(c<H.next)∧(H.get V=some ⟨26,1,jK qs (h.values.take i),false⟩)∧(V<H.next)∧(i≤h.values.length)∧(HH H (G.next+1) a b V qs ⟨h.graph,h.values.take i⟩)∧((a<c∧b<c∧c<V∧V<H.next∧R<a∧R<b∧R<c∧G.next≤R))∧(∀ q∈qs,V<q)∧(∀ j,j<G.next→H.get j=G.get j)∧(G.next≤H.next)) (fun i=>h.values.length - i) 0 ⟨G.next,H1.next,(H1.next+1),([]),wg,wn,wn,wn,wn,(by (simp [go_sem,Y,jK])),wn,wi,(by (refine ⟨by simp [go_sem,Y],by simp [go_sem,Y],by simp [go_sem,jK],rfl,by simp,by simp;omega,by simp [go_sem];omega⟩)),(by (simp [go_sem];omega)),(by (intro q hq;cases hq)),(by (intro j hj;simp [go_sem,show j≠H1.next by omega,show j≠H1.next+1 by omega];exact hfr1 j hj)),(by (simp [go_sem];omega))⟩ fun I0 hI0 i e H hi0=>?_)
 obtain ⟨R,c,V,qs,E0,gR_0,nR_0,gc_0,nc_0,gV_0,nV_0,hi,hh,hc,hq,hG,hnx⟩:=hi0
 have di3:=And.intro (cW (show R≠V by omega)) (And.intro (cW (show R≠c by omega)) (And.intro (cW (show R≠b by omega)) (And.intro (cW (show R≠a by omega)) (And.intro (cW (show V≠c by omega)) (And.intro (cW (show V≠b by omega)) (And.intro (cW (show V≠a by omega)) (And.intro (cW (show c≠b by omega)) (And.intro (cW (show c≠a by omega)) (cW (show b≠a by omega))))))))))
 have Y:=wa Y (wa @Host.c.eq_1 (wa E0 (wa gR_0 (wa (bZ nR_0) (wa gc_0 (wa (bZ nc_0) (wa gV_0 (wa (bZ nV_0) di3))))))))
 refine tG (fun h3=>?_) fun h3=>?_
 ·have hr8:=hr _ (aC h3)
  have hfrm:∀ j∈a :: b :: qs,j≠V∧j≠c∧j<H.next:=fun j hj=>by
   simp only [aT] at hj
   rcases hj with rfl|rfl|hj
   ·exact ⟨by omega,by omega,(hh.rng _ hh.a_in).2⟩
   ·exact ⟨by omega,by omega,(hh.rng _ hh.b_in).2⟩
   ·have:=hq j hj;exact ⟨by omega,by omega,(hh.rng _ (hh.q_in hj)).2⟩
  have hrl:(jK qs (h.values.take i)).length=i:=by rw [iG hh.len];simp;omega
  have Y:=wa Y (wa h3 (wa (aA h3) (wa @cL.eq_1 hrl)))
  exact wp (h:=wx hI0 (i+1) ⟨R,c,V,(qs++[H.next+2]),wg,wn,wn,wn,wn,(by (rw [aE h3,tS hh.len];simp [go_sem,Y,cL])),wn,wj,(by (rw [aE h3];exact hh.rowAdd (by first|(simp [go_sem];done)|(simp [go_sem];omega)) (by omega) (fun j hj=>by have:=(hh.rng j hj).2;omega) (by simp [go_sem]) (by simp [go_sem,Y]) (by simp [go_sem,Y,cL]) (fun j hj=>by obtain ⟨k1,k2,k3⟩:=hfrm j hj;simp [go_sem,k1,k2,bZ k3]))),(by (simp [go_sem];omega)),(by (intro q hq';rw [aY,bL] at hq';rcases hq' with h1|rfl;exact hq q h1;omega)),(by (intro j hj;simp [go_sem,show j≠H.next+2 by omega,show j≠V by omega,show j≠c by omega];exact hG j hj)),(by (simp [go_sem];omega))⟩)
 ·rw [aH (by omega)] at hh
  have hie:i=h.values.length:=by omega
  have hRj:∀ j∈a :: b :: V :: qs,j≠R:=fun j hj=>by
   simp only [aT] at hj
   rcases hj with rfl|rfl|rfl|hj
   ·omega
   ·omega
   ·omega
   ·have:=hq j hj;omega
  refine wv (h:=?_)
  rw [hie];exact hQ a b V qs _ ((hh.lower (by omega)).same (by simp [go_sem]) (fun j hj=>by simp [go_sem,hRj j hj])) (fun j hj=>by simp [go_sem,show j≠R by omega];exact hG j hj) (by simp [go_sem];omega)
/-! ### exact numbers -/
def DH (l l1:List Nat)(j:Nat):Nat:=if j∈l then l1[l.idxOf j]?.getD 0 else j
theorem zY {l l1:List Nat}(hn:l.Nodup){i j j1:Nat}(h:l[i]?=some j)(h1:l1[i]?=some j1):DH l l1 j=j1:=by
 obtain ⟨hi,he⟩:=aL.1 h
 unfold DH
 rw [if_pos (he ▸ aC hi)]
 have:l.idxOf j=i:=by rw [← he];exact hn.idxOf_getElem i hi
 rw [this,h1];rfl
theorem vM {l l1:List Nat}{j:Nat}(h:j∉l):DH l l1 j=j:=by unfold DH;rw [if_neg h]
theorem v7 {τ:Nat→Nat}{l:List (List D)}(hl:∀ c∈l,∀ y∈c,yS τ y=y):l.map (·.map (yS τ))=l:=by
 conv=>rhs;rw [← List.map_id l]
 refine bU fun c hc=>?_
 conv=>rhs;rw [id,← List.map_id c]
 exact bU fun y hy=>hl c hc y hy
theorem HH.exact {H H1 E:AHeap}{lo lo1 a b V a1 b1 V1:Nat}{qs qs1:List Nat}{x:Host}(hE:HH E lo a b V qs x)(h1:HH H1 lo1 a1 b1 V1 qs1 x)
  (hnx:∀ j,H.al j→j<H.next) (hnon:∀ j,¬ H.al j→H.get j=none) (Ep:H.next≤E.next)
  (hal:∀ j,E.al j↔H.al j∨j∈a :: b :: V :: qs) (hf1:∀ j,H.al j→j∉a :: b :: V :: qs→H1.get j=H.get j) (hfE:∀ j,j∉a :: b :: V :: qs→E.get j=H.get j)
  (hold:∀ (i j j1:Nat),(a :: b :: V :: qs)[i]?=some j→(a1 :: b1 :: V1 :: qs1)[i]?=some j1→(H.al j→j1=j)∧(¬ H.al j→¬ H.al j1)) :
  ∃ τ,Exact H H1 E τ∧.agg [.own a1 x.graph.nodes.length,.own b1 x.graph.edges.length,.own V1 x.values.length]=OQ τ (.agg [.own a x.graph.nodes.length,.own b x.graph.edges.length,.own V x.values.length])∧Vx E.al (.agg [.own a x.graph.nodes.length,.own b x.graph.edges.length,.own V x.values.length]):=by
 obtain ⟨l,hl⟩:∃ l,l=a :: b :: V :: qs:=⟨_,rfl⟩
 obtain ⟨l1,hl1⟩:∃ l1,l1=a1 :: b1 :: V1 :: qs1:=⟨_,rfl⟩
 have hnd:=hE.nd
 have hnd1:=h1.nd
 have hin:=hE.rng
 rw [← hl] at hal hf1 hfE hold hnd hin
 rw [← hl1] at hold hnd1
 have hlen:l1.length=l.length:=by rw [hl,hl1];simp [h1.len,hE.len]
 have hpos:∀ j∈l,∃ i j1,l[i]?=some j∧l1[i]?=some j1∧DH l l1 j=j1:=fun j hj=>by
  obtain ⟨i,hi,he⟩:=aO hj
  have e1:l[i]?=some j:=by rw [aA hi,he]
  have e2:=aA (show i<l1.length by omega)
  exact ⟨i,_,e1,e2,zY hnd e1 e2⟩
 have ra:DH l l1 a=a1:=zY hnd (i:=0) (by rw [hl];rfl) (by rw [hl1];rfl)
 have rb:DH l l1 b=b1:=zY hnd (i:=1) (by rw [hl];rfl) (by rw [hl1];rfl)
 have rV:DH l l1 V=V1:=zY hnd (i:=2) (by rw [hl];rfl) (by rw [hl1];rfl)
 have rq:∀ i q q1,qs[i]?=some q→qs1[i]?=some q1→DH l l1 q=q1:=fun i q q1 e e1=>zY hnd (i:=i+3) (by rw [hl];exact e) (by rw [hl1];exact e1)
 have cI_ren:∀ (v:List Int),(v.map cI).map (·.map (yS (DH l l1)))=v.map cI:=fun v=>v7 fun c hc y hy=>by
  rw [bG] at hc;obtain ⟨z,_,rfl⟩:=hc
  simp [cI] at hy;subst hy;rfl
 have cI_ok:∀ (v:List Int),∀ c∈v.map cI,∀ y∈c,SW E.al y:=fun v c hc y hy=>by
  rw [bG] at hc;obtain ⟨z,_,rfl⟩:=hc
  simp [cI] at hy;subst hy;rfl
 refine ⟨DH l l1,⟨fun j hj=>?_,fun i j hi hj he=>?_,fun j hj=>⟨(hal j).2 (.inl hj),?_⟩,fun j hj=>?_,fun j k hk=>?_⟩,?_,?_⟩
 ·rcases (hal j).1 hj with h|h
  ·exact bQ (hnx j h) Ep
  ·exact (hin j h).2
 ·by_cases hi2:i∈l<;>by_cases hj2:j∈l
  ·obtain ⟨p,i1,e1,e2,e3⟩:=hpos i hi2
   obtain ⟨p',j1,f1,f2,f3⟩:=hpos j hj2
   rw [e3,f3] at he
   subst he
   obtain ⟨u1,u2⟩:=aL.1 e2
   obtain ⟨v1,v2⟩:=aL.1 f2
   have:p=p':=(qQ hnd1).1 (u2.trans v2.symm)
   subst this
   rw [e1] at f1;cases f1;rfl
  ·obtain ⟨p,i1,e1,e2,e3⟩:=hpos i hi2
   rw [e3,vM hj2] at he
   subst he
   have hjA:H.al i1:=(((hal i1).1 hj).resolve_right hj2)
   by_cases hiA:H.al i
   ·exact ((hold p i i1 e1 e2).1 hiA).symm
   ·exact absurd hjA ((hold p i i1 e1 e2).2 hiA)
  ·obtain ⟨p,j1,e1,e2,e3⟩:=hpos j hj2
   rw [e3,vM hi2] at he
   subst he
   have hiA:H.al i:=(((hal i).1 hi).resolve_right hi2)
   by_cases hjA:H.al j
   ·exact (hold p j i e1 e2).1 hjA
   ·exact absurd hiA ((hold p j i e1 e2).2 hjA)
  ·rwa [vM hi2,vM hj2] at he
 ·by_cases hj2:j∈l
  ·obtain ⟨p,j1,e1,e2,e3⟩:=hpos j hj2
   rw [e3];exact (hold p j j1 e1 e2).1 hj
  ·exact vM hj2
 ·have h2:¬ H.al j∧j∉l:=⟨fun h=>hj ((hal j).2 (.inl h)),fun h=>hj ((hal j).2 (.inr h))⟩
  rw [hfE j h2.2];exact hnon j h2.1
 ·by_cases hj2:j∈l
  ·right
   have hj3:=hj2
   rw [hl,aT,aT,aT] at hj3
   rcases hj3 with rfl|rfl|rfl|hq
   ·rw [hE.ga] at hk;cases hk
    rw [ra]
    exact ⟨_,h1.ga,rfl,rfl,rfl,(cI_ren _).symm,cI_ok _⟩
   ·rw [hE.gb] at hk;cases hk
    rw [rb]
    refine ⟨_,h1.gb,rfl,rfl,rfl,(v7 fun c hc y hy=>?_).symm,fun c hc y hy=>?_⟩
    ·rw [bG] at hc;obtain ⟨z,_,rfl⟩:=hc
     simp [Edge.c,dI] at hy;rcases hy with rfl|rfl|rfl<;>rfl
    ·rw [bG] at hc;obtain ⟨z,_,rfl⟩:=hc
     simp [Edge.c,dI] at hy;rcases hy with rfl|rfl|rfl<;>rfl
   ·rw [hE.gV] at hk;cases hk
    rw [rV]
    refine ⟨_,h1.gV,rfl,rfl,rfl,?_,fun c hc y hy=>?_⟩
    ·apply fP
     intro i
     simp only [aR]
     by_cases hi:i<x.values.length
     ·have e0:=aA hi
      have e1:=aA (show i<qs.length by rw [hE.len];exact hi)
      have e2:=aA (show i<qs1.length by rw [h1.len];exact hi)
      rw [pM e1 e0,pM e2 e0]
      simp [yS,rq i _ _ e1 e2]
     ·rw [bP (by rw [iG h1.len];omega),bP (by rw [iG hE.len];omega)];rfl
    ·simp only [jK] at hc
     obtain ⟨i,hi,rfl⟩:=aO hc
     rw [List.getElem_zipWith,bL] at hy
     subst hy
     show E.al _
     exact (hal _).2 (.inr (by rw [hl];exact dH _ (dH _ (dH _ (aC _)))))
   ·obtain ⟨i,hi,rfl⟩:=aO hq
    have e1:=aA hi
    have hiv:i<x.values.length:=by rw [← hE.len];exact hi
    have e0:=aA hiv
    have e2:=aA (show i<qs1.length by rw [h1.len];exact hiv)
    rw [hE.gq i _ _ e1 e0] at hk;cases hk
    rw [rq i _ _ e1 e2]
    exact ⟨_,h1.gq i _ _ e2 e0,rfl,rfl,rfl,(cI_ren _).symm,cI_ok _⟩
  ·left
   have hg:=hfE j hj2
   rw [hk] at hg
   have hA:H.al j:=bE fun hn=>by rw [hnon j hn] at hg;cases hg
   exact ⟨hA,hg.symm,(hf1 j hA hj2).trans hg.symm⟩
 ·simp [OQ,yS,ra,rb,rV]
 ·intro c hc
  simp only [aT,eY,or_false] at hc
  rcases hc with rfl|rfl|rfl
  ·exact (hal _).2 (.inr (by rw [hl];simp))
  ·exact (hal _).2 (.inr (by rw [hl];simp))
  ·exact (hal _).2 (.inr (by rw [hl];simp))
theorem sO {j:Nat}{k:Blk}:∀ (q:List (Nat × Blk)) (H:AHeap),(q.map (·.1)).Nodup→(j,k)∈q→(H.pushs q).get j=some k
 | p :: q,H,hn,hm=>by
  rw [f6,fY] at hn
  rw [aT] at hm
  simp only [AHeap.pushs]
  rcases hm with rfl|hm
  ·rw [l7 q _ _ hn.1];simp [AHeap.push]
  ·exact sO q _ hn.2 hm
def Ny (qs:List Nat)(vs:List (List Int)):List (Nat × Blk):=List.zipWith (fun q (v:List Int)=>(q,(⟨3,1,v.map cI,false⟩:Blk))) qs vs
theorem DE {qs:List Nat}{vs:List (List Int)}(h:qs.length=vs.length):(Ny qs vs).map (·.1)=qs:=by
 unfold Ny
 rw [List.map_zipWith]
 apply f7 (by simp [h])
 intro i h1 h2;simp
theorem I9 {qs:List Nat}{vs:List (List Int)}{i q:Nat}{v:List Int}(h1:qs[i]?=some q)(h2:vs[i]?=some v):(q,(⟨3,1,v.map cI,false⟩:Blk))∈Ny qs vs :=
 aJ (i:=i) (by simp [Ny,List.getElem?_zipWith,h1,h2])
def FN (a b V:Nat)(qs:List Nat)(h:Host):List (Nat × Blk):=(a,⟨3,1,h.graph.nodes.map cI,false⟩) :: (b,⟨122,3,h.graph.edges.map Edge.c,false⟩) :: (V,⟨26,1,jK qs h.values,false⟩) :: Ny qs h.values
theorem Kq {a b V:Nat}{qs:List Nat}{h:Host}(hl:qs.length=h.values.length):(FN a b V qs h).map (·.1)=a :: b :: V :: qs:=by simp [FN,DE hl]
theorem M8 {H:AHeap}{a b V:Nat}{qs:List Nat}{h:Host}(hl:qs.length=h.values.length)(hnd:(a :: b :: V :: qs).Nodup)(hlt:∀ j∈a :: b :: V :: qs,j<H.next):HH (H.pushs (FN a b V qs h)) 0 a b V qs h:=by
 have hids:=Kq (a:=a) (b:=b) (V:=V) hl
 have hn:((FN a b V qs h).map (·.1)).Nodup:=by rw [hids];exact hnd
 have hnx:(H.pushs (FN a b V qs h)).next=H.next:=nL _ _ fun p hp=>hlt p.1 (by rw [← hids];exact mD hp)
 refine ⟨sO _ _ hn (by simp [FN]),sO _ _ hn (by simp [FN]),sO _ _ hn (by simp [FN]),hl,fun i q v h1 h2=>sO _ _ hn ?_,hnd,fun q hq=>⟨dF _,by rw [hnx];exact hlt q hq⟩⟩
 exact dH _ (dH _ (dH _ (I9 h1 h2)))
theorem FL {md:Nat→Bool}{ops:Array Oper}{sp:List (Nat × Nat)}{n0 i:Nat}{rest:List Oper}{acc:List (Nat × List Nat)}{e:dA}{dst:Option Tmp}{K:dA→AHeap→Prop}{H:AHeap}
  (h:Host) (hn:h.graph.nodes.length≤100000) (he:h.graph.edges.length≤100000) (hv:h.values.length≤100000) (hr:∀ v∈h.values,v.length≤100000)
  (a b V:Nat) (qs:List Nat) (hl:qs.length=h.values.length) (hnd:(a :: b :: V :: qs).Nodup) (hn0:n0≤H.next) (hfr:∀ j∈a :: b :: V :: qs,j<n0∧¬ H.al j) (hmd:Bh md dst=true) (hc:Fd sp i (a :: b :: V :: qs) acc)
  (hK:∀ E,HH E 0 a b V qs h→(∀ j,j∉a :: b :: V :: qs→E.get j=H.get j)→(∀ j,E.al j↔H.al j∨j∈a :: b :: V :: qs)→E.next=H.next →
   iX Tryz.prog md ops sp n0 (i+1) rest ((i,a :: b :: V :: qs) :: acc) (mJ e dst (.agg [.own a h.graph.nodes.length,.own b h.graph.edges.length,.own V h.values.length])) E K) :
  nS Tryz.prog md ops sp n0 i rest acc e dst K 65 [h.d] H:=by
 have hids:=Kq (a:=a) (b:=b) (V:=V) hl
 unfold nS
 refine Or.inr ⟨hmd,.agg [.own a h.graph.nodes.length,.own b h.graph.edges.length,.own V h.values.length],[],[],FN a b V qs h,fun p hp=>absurd hp (eY),fun p hp=>hfr p.1 (by rw [← hids];exact mD hp),fun H' _ hfresh=>?_,?_,?_⟩
 ·have hf':∀ j∈a :: b :: V :: qs,j<H'.next∧¬ H'.al j:=fun j hj=>by
   rw [← hids,bG] at hj
   obtain ⟨p,hp,rfl⟩:=hj
   exact hfresh p hp
  refine ACalls.exact (E:=H'.pushs (FN a b V qs h)) (FD h hn he hv hr H' (fun d H1=>∃ a1 b1 V1 qs1,HH H1 H'.next a1 b1 V1 qs1 h∧(∀ j,j<H'.next→H1.get j=H'.get j)∧d=.agg [.own a1 h.graph.nodes.length,.own b1 h.graph.edges.length,.own V1 h.values.length]) (fun a1 b1 V1 qs1 H1 h1 h2 _=>⟨a1,b1,V1,qs1,h1,h2,rfl⟩)) ?_
  rintro hnx hnon d H1 ⟨a1,b1,V1,qs1,h1,h2,rfl⟩
  refine HH.exact (M8 hl hnd fun j hj=>(hf' j hj).1) h1 hnx hnon ?_ (fun j=>?_) (fun j hj _=>h2 j (hnx j hj)) (fun j hj=>l7 _ _ _ (by rw [hids];exact hj)) (fun i j j1 e e1=>⟨fun hA=>absurd hA (hf' j (aJ e)).2,fun _ hA=>?_⟩)
  ·rw [nL _ _ fun p hp=>(hfresh p hp).1];exact bC _
  ·rw [p6,hids]
  ·have:=(h1.rng j1 (aJ e1)).1
   have:=hnx j1 hA
   omega
 ·rw [hids];exact hc
 ·rw [hids]
  refine hK _ (M8 hl hnd fun j hj=>bQ (hfr j hj).1 hn0) (fun j hj=>l7 _ _ _ (by rw [hids];exact hj)) (fun j=>by rw [p6,hids];rfl) (nL _ _ fun p hp=>bQ (hfr p.1 (by rw [← hids];exact mD hp)).1 hn0)
theorem RQ {l:List Int}{v:Int}(h:mem l v=true):0≤IE l v∧(IE l v).toNat<l.length∧l[(IE l v).toNat]?=some v:=by
 obtain ⟨i,hi,he⟩:=aO ((c6 l v).1 h)
 have h0:0≤IE l v:=by simpa [mem] using h
 unfold IE at h0 ⊢
 cases hf:l.findIdx? (fun x=>decide (x=v)) with
 | none=>rw [hf] at h0;simp at h0
 | some k =>
  rw [gZ] at hf
  obtain ⟨hk,hv,_⟩:=hf
  simp only [decide_eq_true_eq] at hv
  exact ⟨by simp,by simpa using hk,by simp [hk,hv]⟩
theorem nR {f:Nat→Int}:∀ (n k:Nat),(∀ j,k≤j→j<k+n→f j=0)→bJ f k n=0
 | 0,k,_=>rfl
 | n+1,k,h=>by
  unfold bJ
  rw [if_neg (by rw [h k (bC _) (by omega)];simp)]
  exact nR n (k+1) fun j h1 h2=>h j (by omega) (by omega)
theorem PE {l:List Int}{n:Int}(h1:∀ x∈l,0≤x∧x<n)(h2:l.Pairwise (· < ·)):CT l n=0:=by
 refine nR _ _ fun j _ hj=>?_
 have hj':j<l.length:=by omega
 have hx:=h1 _ (aC hj')
 unfold EX
 rw [aA hj',aD,if_neg (by omega),if_neg]
 rintro ⟨h0,hle⟩
 rw [aA (show j - 1<l.length by omega),aD] at hle
 have:=eD.1 h2 (j - 1) j (by omega) hj' (by omega)
 omega
theorem PH {l:List Int}(h:l.Pairwise (· < ·))(h0:∀ x∈l,0≤x):∀ i (hi:i<l.length),(i:Int)≤l[i]
 | 0,hi=>by have:=h0 _ (aC hi);omega
 | i+1,hi=>by
  have h1:=PH h h0 i (by omega)
  have h2:=eD.1 h i (i+1) (by omega) hi (by omega)
  omega
theorem J5 {α:Type}{f:α→Int}:∀ {l:List α},(∀ x∈l,f x=0)→fO f l=0
 | [],_=>rfl
 | x :: l,h=>by
  unfold fO
  rw [if_neg (by rw [h x (kL ..)];simp)]
  exact J5 fun y hy=>h y (dH _ hy)
def eA (g:Graph)(k:Int):Edge:=g.edges[k.toNat]?.getD bS
def iA (l:List Int)(k:Int):Int:=l[k.toNat]?.getD 0
theorem P7 {g:Graph}{p:Part}(hg:graphF g=0)(hn:∀ x∈p.nodes,0≤x∧x<g.nodes.length)(hns:p.nodes.Pairwise (· < ·))(he:∀ x∈p.edges,0≤x∧x<g.edges.length)(hes:p.edges.Pairwise (· < ·))
  (hends:∀ k∈p.edges,(eA g k).from_∈p.nodes∧(eA g k).to_∈p.nodes):subF g p=0:=by
 unfold subF oY
 rw [if_neg (by rw [hg];simp),if_neg (by rw [PE hn hns];simp),if_neg (by rw [PE he hes];simp)]
 refine J5 fun k hk=>?_
 have h1:=(c6 _ _).2 (hends k hk).1
 have h2:=(c6 _ _).2 (hends k hk).2
 unfold eA at h1 h2
 unfold wK;rw [if_pos (by rw [h1,h2];rfl)]
theorem LA (p:Nat→Bool)(n:Nat):(((List.range n).filter p).map fun (b:Nat)=>(b:Int)).Pairwise (· < ·):=by
 rw [List.pairwise_map]
 have h:((List.range n).filter p).Pairwise (· < ·):=List.Pairwise.filter _ List.pairwise_lt_range
 exact h.imp fun h=>by omega
theorem DV (p:Nat→Bool)(n:Nat)(x:Int):x∈(((List.range n).filter p).map fun (b:Nat)=>(b:Int))↔(0≤x∧x<n)∧p x.toNat=true:=by
 simp only [bG,fZ,b6]
 constructor
 ·rintro ⟨a,⟨h1,h2⟩,rfl⟩;exact ⟨by omega,by simpa using h2⟩
 ·rintro ⟨⟨h1,h2⟩,h3⟩;exact ⟨x.toNat,⟨by omega,h3⟩,by omega⟩
theorem kU {l:List Int}{n:Nat}{x:Int}:x∈b5 l n↔(0≤x∧x<n)∧x∉l:=by
 unfold b5
 rw [DV]
 constructor
 ·rintro ⟨h,h2⟩
  refine ⟨h,fun hm=>?_⟩
  rw [show ((x.toNat:Nat):Int)=x by omega,(c6 l x).2 hm] at h2;cases h2
 ·rintro ⟨h,h2⟩
  refine ⟨h,?_⟩
  rw [show ((x.toNat:Nat):Int)=x by omega,cE,bH]
  exact fun hm=>h2 ((c6 l x).1 hm)
theorem rF (l:List Int)(n:Nat):(b5 l n).Pairwise (· < ·):=LA _ n
theorem GC {a b:Graph}{m:Part}(h:dV a b m=0):(∀ i,i<a.nodes.length→jP a b m i=0)∧∀ k,k<a.edges.length→gL a b m k=0:=by
 obtain ⟨g1,g2,h3,h4⟩:=lX h
 have hM:dV a b m=(if bJ (jP a b m) 0 a.nodes.length≠0 then bJ (jP a b m) 0 a.nodes.length else bJ (gL a b m) 0 a.edges.length):=by
  unfold dV;rw [if_neg (by rw [g1];simp),if_neg (by rw [g2];simp),if_neg (by omega)]
 rw [hM] at h
 split at h
 ·rename_i q;exact absurd h q
 ·rename_i q
  exact ⟨fun i hi=>dZ a.nodes.length 0 (show bJ (jP a b m) 0 a.nodes.length=0 by omega) i (by omega) (by omega),fun k hk=>dZ a.edges.length 0 h k (by omega) (by omega)⟩
theorem LH {a b:Graph}{m:Part}(h:dV a b m=0){i:Int}(h0:0≤i)(hi:i<a.nodes.length):(0≤iA m.nodes i∧iA m.nodes i<b.nodes.length)∧gN b (iA m.nodes i)=gN a i:=by
 have q:=(GC h).1 i.toNat (by omega)
 unfold jP at q
 split at q
 ·cases q
 ·rename_i q1
  split at q
  ·cases q
  ·rename_i q2
   exact ⟨by unfold iA;omega,by unfold gN iA;simpa using q2⟩
theorem LI {a b:Graph}{m:Part}(h:dV a b m=0){k:Int}(h0:0≤k)(hk:k<a.edges.length):(0≤iA m.edges k∧iA m.edges k<b.edges.length)∧(eA a k).type=(eA b (iA m.edges k)).type ∧
  iA m.nodes (eA a k).from_=(eA b (iA m.edges k)).from_∧iA m.nodes (eA a k).to_=(eA b (iA m.edges k)).to_:=by
 have q:=(GC h).2 k.toNat (by omega)
 unfold gL at q
 split at q
 ·cases q
 ·rename_i q1
  split at q
  ·cases q
  ·rename_i q2
   split at q
   ·cases q
   ·rename_i q3
    unfold eA iA
    refine ⟨by omega,by simpa using q2,?_,?_⟩<;>exact bE fun hc=>q3 (by first|exact .inl hc|exact .inr hc)
theorem M5 {g:Graph}(hg:graphF g=0){k:Int}(h0:0≤k)(hk:k<g.edges.length):(0≤(eA g k).from_∧(eA g k).from_<g.nodes.length)∧(0≤(eA g k).to_∧(eA g k).to_<g.nodes.length)∧0≤(eA g k).type∧(eA g k).type≤99:=by
 have hk':k.toNat<g.edges.length:=by omega
 have hx:=(dP hg).2 _ (aC hk')
 unfold eA
 rw [aA hk',aD]
 exact ⟨hx.2.1,hx.2.2,hx.1⟩
theorem Km {im keep:List Int}(h:qC im keep=[]){i k:Nat}(hik:i<k)(hk:k<im.length):r4 im keep i k=false:=by
 rw [bH]
 intro hd
 have hm:(i,k)∈qC im keep:=by
  unfold qC EG
  rw [bT]
  refine ⟨i,b6.2 (by omega),?_⟩
  unfold kG
  rw [bG]
  exact ⟨k - (i+1),fZ.2 ⟨b6.2 (by omega),by rw [show i+1+(k - (i+1))=k by omega];exact hd⟩,by simp;omega⟩
 rw [h] at hm;cases hm
theorem Pn {im keep:List Int}(h:qC im keep=[]){i k:Nat}(hi:i<im.length)(hk:k<im.length)(hne:i≠k)(he:im[i]?.getD 0=im[k]?.getD 0):mem keep i=true∧mem keep k=true:=by
 rcases Nat.lt_or_gt_of_ne hne with hlt|hlt
 ·have:=Km h hlt hk
  unfold r4 at this;rw [he] at this;simpa using this
 ·have:=Km h hlt hi
  unfold r4 at this;rw [he] at this;simp at this;exact ⟨this.2,this.1⟩
theorem Ih {l g:Graph}{keep m:Part}(h:o8 l g keep m=0):dV l g m=0∧subF l keep=0∧qC m.nodes keep.nodes=[]∧qC m.edges keep.edges=[]∧yH g m.edges (jA m.nodes keep.nodes)=[]:=by
 unfold o8 at h
 split at h
 ·rename_i q;exact absurd h q
 ·rename_i q
  have q':compG l g keep m=0:=by omega
  unfold compG at q'
  split at h
  ·cases h
  ·rename_i q2
   split at h
   ·cases h
   ·rename_i q3
    have q4:dV l g m=0∧subF l keep=0:=by
     split at q'
     ·rename_i q5;exact absurd q' q5
     ·rename_i q5;exact ⟨by omega,q'⟩
    exact ⟨q4.1,q4.2,bF (by omega),bF (by omega),bF (by omega)⟩
theorem w6 {im keep:List Int}(hd:qC im keep=[]){j:Int}(h0:0≤j)(hj:j<im.length)(hk:j∈keep):iA im j∉jA im keep:=by
 intro hm
 obtain ⟨i,hi,hki,he⟩:=Bm.1 hm
 have hne:i≠j.toNat:=by
  rintro rfl
  rw [show ((j.toNat:Nat):Int)=j by omega,(c6 _ _).2 hk] at hki;cases hki
 have:=Pn hd hi (show j.toNat<im.length by omega) hne (by rw [he];rfl)
 rw [hki] at this;exact absurd this.1 (by simp)
theorem QA {l g:Graph}{keep m:Part}(h:o8 l g keep m=0):subF g (qE l g keep m)=0:=by
 obtain ⟨hm,hs,hd1,hd2,hda⟩:=Ih h
 unfold qE;rw [if_pos h]
 obtain ⟨hgl,hg,hln,hle⟩:=lX hm
 refine P7 hg (fun x hx=>jX hx) (rF _ _) (fun x hx=>jX hx) (rF _ _) fun k hk=>?_
 obtain ⟨hkr,hkn⟩:=kU.1 hk
 have hen:=M5 hg hkr.1 hkr.2
 by_cases hkm:k∈m.edges
 ·obtain ⟨i,hi,hik⟩:=aO hkm
  have hkeep:(i:Int)∈keep.edges:=by
   refine bE fun hc=>hkn (Bm.2 ⟨i,hi,?_,?_⟩)
   ·rw [bH];exact fun h'=>hc ((c6 _ _).1 h')
   ·rw [aA hi,hik]
  have hse:=A3 hs i hkeep
  have hei:=M5 (k:=(i:Int)) hgl (by omega) (by omega)
  have hme:=LI (k:=(i:Int)) hm (by omega) (by omega)
  have hii:iA m.edges i=k:=by unfold iA;simp [hi,hik]
  rw [hii] at hme
  have g1:=w6 hd1 hei.1.1 (by omega) ((c6 _ _).1 hse.1)
  have g2:=w6 hd1 hei.2.1.1 (by omega) ((c6 _ _).1 hse.2)
  rw [hme.2.2.1] at g1
  rw [hme.2.2.2] at g2
  exact ⟨kU.2 ⟨hen.1,g1⟩,kU.2 ⟨hen.2.1,g2⟩⟩
 ·have hb:wL g m.edges (jA m.nodes keep.nodes) k.toNat=false:=by
   rw [bH]
   intro hb
   have hmm:k∈yH g m.edges (jA m.nodes keep.nodes):=by
    unfold yH;rw [DV];exact ⟨hkr,hb⟩
   rw [hda] at hmm;cases hmm
  unfold wL at hb
  rw [show ((k.toNat:Nat):Int)=k by omega,show mem m.edges k=false by rw [bH];exact fun h'=>hkm ((c6 _ _).1 h')] at hb
  simp only [Bool.not_false,fQ,Bool.or_eq_false_iff] at hb
  exact ⟨kU.2 ⟨hen.1,fun h'=>by have:=(c6 _ _).2 h';unfold eA at this;rw [hb.1] at this;cases this⟩,kU.2 ⟨hen.2.1,fun h'=>by have:=(c6 _ _).2 h';unfold eA at this;rw [hb.2] at this;cases this⟩⟩
theorem Oa {g:Graph}(h1:g.nodes.length≤40)(h2:g.edges.length≤80)(hn:∀ a∈g.nodes,0≤a∧a≤99)
  (he:∀ x∈g.edges,(0≤x.type∧x.type≤99)∧(0≤x.from_∧x.from_<g.nodes.length)∧(0≤x.to_∧x.to_<g.nodes.length)):graphF g=0:=by
 unfold graphF
 rw [if_neg (by omega),if_neg,if_neg]
 ·rw [aW];rintro ⟨x,hx,hf⟩
  have h3:=he x hx
  have h4:rK x g.nodes.length=true:=by simp [rK,gG];omega
  rw [h4] at hf;cases hf
 ·rw [aW];rintro ⟨a,ha,hf⟩
  have h3:=hn a ha
  have h4:gG a 99=true:=by simp [gG];omega
  rw [h4] at hf;cases hf
theorem Pi {g:Graph}{n:Int}(h0:0≤n)(h:n<g.nodes.length):gN g n∈g.nodes:=by
 unfold gN;rw [aA (show n.toNat<g.nodes.length by omega),aD];exact aC _
theorem Sb {g:Graph}{n:Int}(h0:0≤n)(h:n<g.edges.length):eA g n∈g.edges:=by
 unfold eA;rw [aA (show n.toNat<g.edges.length by omega),aD];exact aC _
theorem PF {l:List Int}{n:Nat}(h:l.Pairwise (· < ·))(hr:∀ x∈l,0≤x∧x<n):l.length≤n:=by
 rcases Nat.eq_zero_or_pos l.length with h1|h1
 ·omega
 ·have h2:=PH h (fun x hx=>(hr x hx).1) (l.length - 1) (by omega)
  have h3:=hr _ (aC (show l.length - 1<l.length by omega))
  omega
theorem OU {l:List Int}(hs:l.Pairwise (· < ·)){v:Int}(hv:v∈l):sQ l v<l.length∧iA l (sQ l v)=v∧IE l v=sQ l v:=by
 have hm:=(c6 l v).2 hv
 have h1:=Ap hs hm
 obtain ⟨h2,h3,h4⟩:=RQ hm
 rw [h1] at h2 h3 h4
 refine ⟨by simpa using h3,?_,h1⟩
 unfold iA;rw [h4];rfl
theorem IS {g:Graph}{p:Part}(h:subF g p=0){k:Int}(hk:k∈p.edges):(eA g k).from_∈p.nodes∧(eA g k).to_∈p.nodes:=by
 have:=A3 h k hk
 exact ⟨(c6 _ _).1 this.1,(c6 _ _).1 this.2⟩
theorem R5 (g:Graph)(p:Part)(k:Int):gEd g p k=⟨(eA g k).type,sQ p.nodes (eA g k).from_,sQ p.nodes (eA g k).to_⟩:=rfl
theorem RG {α β:Type}(f:α→β)(l:List α)(d:α)(e:β){i:Nat}(h:i<l.length):((l.map f)[i]?).getD e=f ((l[i]?).getD d):=by simp [h]
theorem Ig {g:Graph}{p:Part}(h:subF g p=0){i:Int}(h0:0≤i)(hi:i<p.nodes.length):gN (bY g p) i=gN g (iA p.nodes i):=by
 unfold bY;rw [if_pos h]
 exact RG (gN g) p.nodes 0 0 (by omega)
theorem Po {im keep:List Int}{i k:Nat}(hi:i<im.length)(hk:k<im.length):r4 im keep i k=(decide (im[i]=im[k])&&(!mem keep i||!mem keep k)):=by
 unfold r4;rw [aA hi,aA hk];rfl
theorem pQ (im keep:List Int){i k:Nat}(h:i+1≤k):kG im keep i (k+1 - (i+1))=kG im keep i (k - (i+1))++(if r4 im keep i k=true then [(i,k)] else []):=by
 rw [show k+1 - (i+1)=(k - (i+1))+1 by omega,Kn,show i+1+(k - (i+1))=k by omega]
theorem sL (im keep:List Int)(hn:im.length≤1000):Pure Tryz.prog 251 [dLI im,dLI keep] (.list ((qC im keep).map cPr)):=by
 refine Tz.pK ⟨fun t=>t==5,fun _=>[]⟩ Tryz.func251 rfl (fun Q hQ=>?_)
 have Y:=trivial
 refine wv (h:=bA (fun i e H=>∃ xs:List (Nat × Nat),(e 0=dLI im∧e 1=dLI keep∧e 5=.own 0 xs.length∧e 6=dI i)∧(H.get 0=some ⟨354,2,xs.map cPr,false⟩)∧(0<H.next)∧(i≤im.length)∧(xs=EG im keep i)) (fun i=>im.length - i) 0 ⟨([]),wg,wn,wn,wi,(by rfl)⟩ fun I0 hI0 i e H hi0=>?_)
 obtain ⟨xs,E0,g0_0,n0_0,hi,hx⟩:=hi0
 have Y:=wa Y (wa E0 (wa g0_0 (bZ n0_0)))
 refine eF (fun h3=>?_) fun h3=>?_
 ·have Y:=wa Y (wa h3 (aA h3))
  refine wo (h:=bA (fun k e H=>∃ ys:List (Nat × Nat),(e 0=dLI im∧e 1=dLI keep∧e 5=.own 0 ys.length∧e 6=dI i∧e 7=dI k)∧(H.get 0=some ⟨354,2,ys.map cPr,false⟩)∧(0<H.next)∧(i+1≤k)∧(k≤im.length)∧(ys=xs++kG im keep i (k - (i+1)))∧(ys.length≤1000000)) (fun k=>im.length - k) (i+1) ⟨xs,wg,wn,wn,wi,wi,(by (simp [kG])),(by (have:=s8 im keep i;have:i * im.length≤1000 * 1000:=iY (by omega) hn;rw [hx];omega))⟩ fun I2 hI2 k e H hi2=>?_)
  obtain ⟨ys,E2,g0_2,n0_2,hk1,hk2,hy,hyl⟩:=hi2
  have Y:=wa Y (wa E2 (wa g0_2 (bZ n0_2)))
  refine eF (fun h6=>?_) fun h6=>?_
  ·have hd:=Po (keep:=keep) h3 h6
   have hyl2:(ys++(if r4 im keep i k=true then [(i,k)] else [])).length≤1000000:=by
    have e1:ys++(if r4 im keep i k=true then [(i,k)] else [])=EG im keep i++kG im keep i (k+1 - (i+1)):=by rw [pQ _ _ (by omega),← List.append_assoc,hy,hx]
    rw [e1,aV]
    have h1:=s8 im keep i
    have h2:=y8 im keep i (k+1 - (i+1))
    have h3:i * im.length+im.length≤1000 * 1000:=by
     have:=iY (show i+1≤1000 by omega) hn
     rw [Nat.add_mul] at this;omega
    omega
   have Y:=wa Y (wa h3 (wa (aA h3) (wa h6 (aA h6))))
   refine wo (h:=dO (fun hg=>nK keep i) (fun hg=>wl) ?_)
   refine wo (h:=dO (fun hg=>nK keep k) (fun hg=>wl) ?_)
   refine eF (fun h8=>?_) fun h8=>?_
   ·have hdt:r4 im keep i k=true:=by rw [hd];simpa using h8
    have Y:=wa Y (wa hdt @cPr.eq_1)
    exact wo (h:=wx hI2 (k+1) ⟨(ys++(if r4 im keep i k=true then [(i,k)] else [])),wg,wn,wn,wj,wj,(by (rw [pQ _ _ (by omega),← List.append_assoc,← hy])),(by (exact hyl2))⟩)
   ·have hdf:r4 im keep i k=false:=by rw [hd,bH];intro hb;simp at hb;simp_all
    have Y:=wa Y hdf
    exact wo (h:=wx hI2 (k+1) ⟨(ys++(if r4 im keep i k=true then [(i,k)] else [])),wg,wn,wn,wj,wj,(by (rw [pQ _ _ (by omega),← List.append_assoc,← hy])),(by (exact hyl2))⟩)
  ·have hJ:k=im.length:=by omega
   subst hJ
   subst hy
   exact wo (h:=wx hI0 (i+1) ⟨(xs++kG im keep i (im.length - (i+1))),wg,wn,wn,wj,(by (rw [Bq,← hx]))⟩)
 ·have hX:qC im keep=xs:=by rw [hx,show i=im.length by omega];rfl
  exact wv (h:=hQ _ _ (by simp [go_sem,Y,hX]))
theorem Ay {im keep:List Int}(h:im.length≤1000):(qC im keep).length≤1000000:=by
 have h1:=s8 im keep im.length
 have h2:im.length * im.length≤1000 * 1000:=iY h h
 unfold qC;omega
theorem OR (l g:Graph)(keep m:Part)(hk:keep.nodes.length≤1000000)(hm1:m.nodes.length≤1000)(hm2:m.edges.length≤1000)(hg1:g.nodes.length≤1000000)(hg2:g.edges.length≤1000000):Pure Tryz.prog 151 [l.d,g.d,keep.d,m.d] (.tup [(qE l g keep m).d,dI (o8 l g keep m)]):=by
 have hd1:=Ay (keep:=keep.nodes) hm1
 have hd2:=Ay (keep:=keep.edges) hm2
 refine Tz.pK ⟨fun t=>t==8,fun _=>[]⟩ Tryz.func151 rfl (fun Q hQ=>?_)
 have Y:=trivial
 refine wv (h:=aB (Jz l g keep m hk) wl ?_)
 refine c4 (fun h2=>?_) fun h2=>?_
 ·have hC:o8 l g keep m=compG l g keep m:=if_pos h2
  have hZ:qE l g keep m=⟨[],[]⟩:=if_neg (by rw [hC];exact h2)
  exact wv (h:=hQ _ _ (by simp [go_sem,hC,hZ]))
 ·have hC:o8 l g keep m=if 0<(qC m.nodes keep.nodes).length+(qC m.edges keep.edges).length then 15 else if 0<(yH g m.edges (jA m.nodes keep.nodes)).length then 14 else 0:=if_neg (by rw [h2];simp)
  refine wo (h:=aK (sL m.nodes keep.nodes hm1) wl ?_)
  refine wo (h:=aK (sL m.edges keep.edges hm2) wl ?_)
  refine eF (fun h4=>?_) fun h4=>?_
  ·rw [if_pos (by omega)] at hC
   have hZ:qE l g keep m=⟨[],[]⟩:=if_neg (by rw [hC];simp)
   exact wv (h:=hQ _ _ (by simp [go_sem,hC,hZ]))
  ·rw [if_neg (by first|omega|simp [h4])] at hC
   refine wo (h:=aB (DQ l g keep m (by omega) hg2) wl ?_)
   refine eF (fun h6=>?_) fun h6=>?_
   ·rw [if_pos (by omega)] at hC
    have hZ:qE l g keep m=⟨[],[]⟩:=if_neg (by rw [hC];simp)
    exact wv (h:=hQ _ _ (by simp [go_sem,hC,hZ]))
   ·rw [if_neg (by first|omega|simp [h6])] at hC
    have hZ:qE l g keep m=⟨b5 (jA m.nodes keep.nodes) g.nodes.length,b5 (jA m.edges keep.edges) g.edges.length⟩:=if_pos hC
    refine wo (h:=aK (yT m.nodes keep.nodes (by omega)) wl ?_)
    refine wo (h:=aK (DP (jA m.nodes keep.nodes) g.nodes.length hg1) wl ?_)
    refine wo (h:=aK (yT m.edges keep.edges (by omega)) wl ?_)
    refine wo (h:=aK (DP (jA m.edges keep.edges) g.edges.length hg2) wl ?_)
    exact wo (h:=hQ _ _ (by simp [go_sem,hC,hZ]))
theorem tC (im keep:List Int)(hn:im.length≤1000):Pure Tryz.prog 329 [dLI im,dLI keep] (.list ((qC im keep).map cPr)):=by
 refine Tz.pK ⟨fun t=>t==5,fun _=>[]⟩ Tryz.func329 rfl (fun Q hQ=>?_)
 have Y:=trivial
 refine wo (h:=bA (fun i e H=>∃ xs:List (Nat × Nat),(e 0=dLI im∧e 1=dLI keep∧e 9=dI im.length∧e 5=.own 0 xs.length∧e 10=dI i)∧(H.get 0=some ⟨354,2,xs.map cPr,false⟩)∧(0<H.next)∧(i≤im.length)∧(xs=EG im keep i)) (fun i=>im.length - i) 0 ⟨([]),wg,wn,wn,wi,(by rfl)⟩ fun I0 hI0 i e H hi0=>?_)
 obtain ⟨xs,E0,g0_0,n0_0,hi,hx⟩:=hi0
 have Y:=wa Y (wa E0 (wa g0_0 (bZ n0_0)))
 refine c4 (fun h3=>?_) fun h3=>?_
 ·have Y:=wa Y (wa h3 (aA h3))
  refine wo (h:=bA (fun k e H=>∃ ys:List (Nat × Nat),(e 0=dLI im∧e 1=dLI keep∧e 9=dI im.length∧e 5=.own 0 ys.length∧e 6=dI i∧e 10=dI i∧e 7=dI k)∧(H.get 0=some ⟨354,2,ys.map cPr,false⟩)∧(0<H.next)∧(i+1≤k)∧(k≤im.length)∧(ys=xs++kG im keep i (k - (i+1)))∧(ys.length≤1000000)) (fun k=>im.length - k) (i+1) ⟨xs,wg,wn,wn,wi,wi,(by (simp [kG])),(by (have:=s8 im keep i;have:i * im.length≤1000 * 1000:=iY (by omega) hn;rw [hx];omega))⟩ fun I2 hI2 k e H hi2=>?_)
  obtain ⟨ys,E2,g0_2,n0_2,hk1,hk2,hy,hyl⟩:=hi2
  have Y:=wa Y (wa E2 (wa g0_2 (bZ n0_2)))
  refine eF (fun h6=>?_) fun h6=>?_
  ·have hd:=Po (keep:=keep) h3 h6
   have hyl2:(ys++(if r4 im keep i k=true then [(i,k)] else [])).length≤1000000:=by
    have e1:ys++(if r4 im keep i k=true then [(i,k)] else [])=EG im keep i++kG im keep i (k+1 - (i+1)):=by rw [pQ _ _ (by omega),← List.append_assoc,hy,hx]
    rw [e1,aV]
    have h1:=s8 im keep i
    have h2:=y8 im keep i (k+1 - (i+1))
    have h3:i * im.length+im.length≤1000 * 1000:=by
     have:=iY (show i+1≤1000 by omega) hn
     rw [Nat.add_mul] at this;omega
    omega
   have Y:=wa Y (wa h3 (wa (aA h3) (wa h6 (aA h6))))
   refine wo (h:=dO (fun hg=>fT keep i) (fun hg=>wl) ?_)
   refine wo (h:=dO (fun hg=>fT keep k) (fun hg=>wl) ?_)
   refine eF (fun h8=>?_) fun h8=>?_
   ·have hdt:r4 im keep i k=true:=by rw [hd];simpa using h8
    have Y:=wa Y (wa hdt @cPr.eq_1)
    exact wo (h:=wx hI2 (k+1) ⟨(ys++(if r4 im keep i k=true then [(i,k)] else [])),wg,wn,wn,wj,wj,(by (rw [pQ _ _ (by omega),← List.append_assoc,← hy])),(by (exact hyl2))⟩)
   ·have hdf:r4 im keep i k=false:=by rw [hd,bH];intro hb;simp at hb;simp_all
    have Y:=wa Y hdf
    exact wo (h:=wx hI2 (k+1) ⟨(ys++(if r4 im keep i k=true then [(i,k)] else [])),wg,wn,wn,wj,wj,(by (rw [pQ _ _ (by omega),← List.append_assoc,← hy])),(by (exact hyl2))⟩)
  ·have hJ:k=im.length:=by omega
   subst hJ
   subst hy
   exact wo (h:=wx hI0 (i+1) ⟨(xs++kG im keep i (im.length - (i+1))),wg,wn,wn,wj,(by (rw [Bq,← hx]))⟩)
 ·have hX:qC im keep=xs:=by rw [hx,show i=im.length by omega];rfl
  exact wv (h:=hQ _ _ (by simp [go_sem,Y,hX]))
def rG (n:Nat)(l:List Int):List Bool:=l.foldl (fun acc x=>acc.set x.toNat true) (List.replicate n false)
theorem D5 (n:Nat)(l:List Int)(x:Int):rG n (l++[x])=(rG n l).set x.toNat true:=by unfold rG;rw [C8];rfl
theorem Bi (n:Nat)(l:List Int):(rG n l).length=n:=by
 unfold rG
 have:∀ (l:List Int) (a:List Bool),a.length=n→(l.foldl (fun acc x=>acc.set x.toNat true) a).length=n:=by
  intro l
  induction l with
  | nil=>intro a h;exact h
  | cons x l ih=>intro a h;exact ih _ (by simpa using h)
 exact this l _ (by simp)
theorem NZ (n : Nat) : ∀ (l : List Int), (∀ x ∈ l, 0 ≤ x ∧ x < n) → ∀ i : Nat, i < n → (rG n l)[i]? = some (mem l i) := by
  have : ∀ (l : List Int) (a : List Bool), a.length = n → (∀ x ∈ l, 0 ≤ x ∧ x < n) → ∀ i : Nat, i < n → (l.foldl (fun acc x => acc.set x.toNat true) a)[i]? = some (a[i]?.getD false || mem l i) := by
    intro l
    induction l with
    | nil => intro a ha _ i hi; rw [List.foldl_nil, aA (by omega), Ak]; simp
    | cons x l ih =>
      intro a ha hl i hi
      have hx := hl x (by simp)
      rw [List.foldl_cons, ih _ (by simpa using ha) (fun y hy => hl y (by simp [hy])) i hi]
      congr 1
      have hm : mem (x :: l) (i : Int) = (decide ((i : Int) = x) || mem l i) := by
        rw [aQ, c6, b7, c6, decide_eq_true_eq, aT]
      rw [hm]
      by_cases he : x.toNat = i
      · subst he
        rw [List.getElem?_set_self (by omega)]
        have : ((x.toNat : Nat) : Int) = x := by omega
        simp [this]
      · rw [List.getElem?_set_ne he]
        have : ¬ ((i : Int) = x) := by omega
        simp [this]
  intro l hl i hi
  unfold rG
  rw [this l _ (by simp) hl i hi]
  simp [hi]
theorem uS (n:Nat)(hn:n≤1000000)(im keep:List Int)(hi1:im.length≤1000000)(him:∀ x∈im,0≤x∧x<n):Pure Tryz.prog 238 [dI n,dLI im,dLI keep] (dLI (b5 (jA im keep) n)):=by
 refine Tz.pK ⟨fun t=>t==14||t==10,fun _=>[]⟩ Tryz.func238 rfl (fun Q hQ=>?_)
 have Y:=trivial
 refine wo (h:=bA (fun i e H=>∃ go:List Int,(e 0=dI n∧e 2=dLI keep∧e 15=dLI im∧e 16=dI im.length∧e 7=.own 0 n∧e 17=dI i)∧(H.get 0=some ⟨4,1,(rG n go).map cB,false⟩)∧(0<H.next)∧(i≤im.length)∧((rG n go).length=n)∧(go=((List.range i).filter fun (b:Nat)=>!mem keep b).map (fun i=>im[i]?.getD 0))) (fun i=>im.length - i) 0 ⟨([]),wg,(by (simp [go_sem,rG,cB])),wn,wi,(by (exact Bi _ _)),(by rfl)⟩ fun I0 hI0 i e H hi0=>?_)
 obtain ⟨go,E0,g0_0,n0_0,hi,hgl,hx⟩:=hi0
 have Y:=wa Y (wa E0 (wa g0_0 (bZ n0_0)))
 refine c4 (fun h3=>?_) fun h3=>?_
 ·have hb:=him _ (aC h3)
  have hbl:im[i].toNat<(rG n go).length:=by omega
  have Y:=wa Y (wa h3 (wa (aA h3) (aA hbl)))
  refine wo (h:=aB (fT keep i) wl ?_)
  refine eF (fun h5=>?_) fun h5=>?_
  ·have Y:=wa Y h5
   exact wo (h:=wx hI0 (i+1) ⟨(go++(if (!mem keep i)=true then [im[i]] else [])),wg,(by (simp [go_sem,Y,D5,c8,cB])),wn,wj,(by (exact Bi _ _)),(by (rw [nQ _ _ h3,← hx]))⟩)
  ·have Y:=wa Y h5
   exact wo (h:=wx hI0 (i+1) ⟨(go++(if (!mem keep i)=true then [im[i]] else [])),wg,(by (simp [go_sem,Y,D5,c8,cB])),wn,wj,(by (exact Bi _ _)),(by (rw [nQ _ _ h3,← hx]))⟩)
 ·have hgo:jA im keep=go:=by rw [hx,show i=im.length by omega];rfl
  have hgi:∀ x∈go,0≤x∧x<n:=fun x hxm=>by
   rw [← hgo,Bm] at hxm
   obtain ⟨j,_,_,h⟩:=hxm
   exact him x (aJ h)
  refine wo (h:=bA (fun k e H=>∃ xs:List Int,∃ b10:Nat,(e 0=dI n∧e 2=dLI keep∧e 15=dLI im∧e 16=dI im.length∧e 30=.own 0 n∧e 31=dI n∧e 32=dI k∧e 10=.own b10 xs.length)∧(H.get 0=some ⟨4,1,(rG n go).map cB,false⟩)∧(0<H.next)∧(H.get b10=some ⟨3,1,xs.map cI,false⟩)∧(b10<H.next)∧(b10≠0)∧(k≤n)∧(xs.length≤k)∧(xs=((List.range k).filter fun (b:Nat)=>!mem go b).map (fun (b:Nat)=>(b:Int)))) (fun k=>n - k) 0 ⟨([]),H.next,wg,wn,wn,wn,wn,(by omega),wi,(by simp),(by rfl)⟩ fun I2 hI2 k e H hi2=>?_)
  obtain ⟨xs,b10,E2,g0_2,n0_2,gb10_2,nb10_2,hb0,hk,hl,hxx⟩:=hi2
  have di1:=cW (show 0≠b10 by omega)
  have Y:=wa Y (wa E2 (wa g0_2 (wa (bZ n0_2) (wa gb10_2 (wa (bZ nb10_2) (wa hgl di1))))))
  refine c4 (fun h10=>?_) fun h10=>?_
  ·have hkm:k<(rG n go).length:=by omega
   have hg:(rG n go)[k]=mem go k:=by have:=NZ n go hgi k h10;rw [aA hkm] at this;exact Option.some.inj this
   have Y:=wa Y (wa h10 (wa (aA hkm) hg))
   refine eF (fun h12=>?_) fun h12=>?_
   ·have Y:=wa Y h12
    exact wo (h:=wx hI2 (k+1) ⟨(xs++(if (!mem go k)=true then [(k:Int)] else [])),b10,wg,wn,wn,wn,wn,(by omega),wj,(by (rw [aV];split<;>simp<;>omega)),(by (rw [cO,← hxx]))⟩)
   ·have Y:=wa Y h12
    exact wo (h:=wx hI2 (k+1) ⟨(xs++(if (!mem go k)=true then [(k:Int)] else [])),b10,wg,wn,wn,wn,wn,(by omega),wj,(by (rw [aV];split<;>simp<;>omega)),(by (rw [cO,← hxx]))⟩)
  ·exact wv (h:=hQ _ _ (by simp [go_sem,Y,hgo,b5];rw [hxx,show k=n by omega];simp))
def gluC (l g:Graph)(keep m:Part):List D:=[dLI l.nodes,.list (l.edges.map Edge.c),dLI g.nodes,.list (g.edges.map Edge.c),dLI keep.nodes,dLI keep.edges,dLI m.nodes,dLI m.edges]
theorem Bt (l g:Graph)(keep m:Part)(hk:keep.nodes.length≤1000000):Pure Tryz.prog 235 [.agg (gluC l g keep m)] (dI (compG l g keep m)):=by
 refine Tz.pK ⟨fun _=>false,fun _=>[]⟩ Tryz.func235 rfl (fun Q hQ=>?_)
 have Y:=@gluC.eq_1
 refine wv (h:=aB (mS l g m) wl ?_)
 refine c4 (fun h2=>?_) fun h2=>?_
 ·have Y:=wa Y (wa h2 @compG.eq_1)
  exact wv (h:=hQ _ _ wy)
 ·refine wv (h:=aB (vH l keep hk) wl ?_)
  have Y:=wa Y (wa h2 @compG.eq_1)
  exact wv (h:=hQ _ _ wy)
theorem zA (l g:Graph)(keep m:Part)(hn:m.nodes.length≤1000000):Pure Tryz.prog 330 [.agg (gluC l g keep m)] (dLI (jA m.nodes keep.nodes)):=by
 refine Tz.pK ⟨fun t=>t==3,fun _=>[]⟩ Tryz.func330 rfl (fun Q hQ=>?_)
 have Y:=@gluC.eq_1
 refine wo (h:=bA (fun i e H=>∃ xs:List Int,(e 1=.adr (gluC l g keep m)∧e 8=dLI m.nodes∧e 9=dI m.nodes.length∧e 3=.own 0 xs.length∧e 10=dI i)∧(H.get 0=some ⟨3,1,xs.map cI,false⟩)∧(0<H.next)∧(i≤m.nodes.length)∧(xs.length≤i)∧(xs=((List.range i).filter fun (b:Nat)=>!mem keep.nodes b).map (fun i=>m.nodes[i]?.getD 0))) (fun i=>m.nodes.length - i) 0 ⟨([]),wg,wn,wn,wi,(by simp),(by rfl)⟩ fun I0 hI0 i e H hi0=>?_)
 obtain ⟨xs,E0,g0_0,n0_0,hi,hl,hx⟩:=hi0
 have Y:=wa Y (wa E0 (wa g0_0 (bZ n0_0)))
 refine c4 (fun h3=>?_) fun h3=>?_
 ·have Y:=wa Y (wa h3 (aA h3))
  refine wo (h:=aB (fT keep.nodes i) wl ?_)
  refine eF (fun h5=>?_) fun h5=>?_
  ·have Y:=wa Y h5
   exact wo (h:=wx hI0 (i+1) ⟨(xs++(if (!mem keep.nodes i)=true then [m.nodes[i]] else [])),wg,wn,wn,wj,(by (rw [aV];split<;>simp<;>omega)),(by (rw [nQ _ _ h3,← hx]))⟩)
  ·have Y:=wa Y h5
   exact wo (h:=wx hI0 (i+1) ⟨(xs++(if (!mem keep.nodes i)=true then [m.nodes[i]] else [])),wg,wn,wn,wj,(by (rw [aV];split<;>simp<;>omega)),(by (rw [nQ _ _ h3,← hx]))⟩)
 ·refine wv (h:=?_)
  have hX:jA m.nodes keep.nodes=xs:=by rw [hx,show i=m.nodes.length by omega];rfl
  exact hQ _ _ (by simp [go_sem,Y,hX])
theorem xP (l g:Graph)(keep m:Part)(hn:m.nodes.length≤1000000)(hg:g.edges.length≤1000000):Pure Tryz.prog 237 [.agg (gluC l g keep m)] (dLI (yH g m.edges (jA m.nodes keep.nodes))):=by
 obtain ⟨go,hgo⟩:∃ go,jA m.nodes keep.nodes=go:=⟨_,rfl⟩
 refine Tz.pK ⟨fun t=>t==6||t==4,fun _=>[]⟩ Tryz.func237 rfl (fun Q hQ=>?_)
 have Y:=wa hgo @gluC.eq_1
 refine wv (h:=aB ((by have:=zA l g keep m hn;simp only [gluC] at this;exact this)) wl ?_)
 refine wo (h:=bA (fun k e H=>∃ xs:List Int,(e 1=.adr (gluC l g keep m)∧e 3=dLI go∧e 11=.list (g.edges.map Edge.c)∧e 12=dI g.edges.length∧e 4=.own 0 xs.length∧e 13=dI k)∧(H.get 0=some ⟨3,1,xs.map cI,false⟩)∧(0<H.next)∧(k≤g.edges.length)∧(xs.length≤k)∧(xs=((List.range k).filter (wL g m.edges go)).map (fun (b:Nat)=>(b:Int)))) (fun k=>g.edges.length - k) 0 ⟨([]),wg,wn,wn,wi,(by simp),(by rfl)⟩ fun I0 hI0 k e H hi0=>?_)
 obtain ⟨xs,E0,g0_0,n0_0,hi,hl,hx⟩:=hi0
 have Y:=wa Y (wa E0 (wa g0_0 (bZ n0_0)))
 refine c4 (fun h4=>?_) fun h4=>?_
 ·have hdb:=Kp (me:=m.edges) (gone:=go) h4
  have c1:=fT go g.edges[k].from_
  have c2:=fT go g.edges[k].to_
  have Y:=wa Y (wa h4 (wa (aA h4) (wa hdb @Edge.c.eq_1)))
  refine wo (h:=aB (fT m.edges k) wl ?_)
  refine wo (h:=aG (fun hg=>c1) (fun hg=>wl) ?_)
  refine wo (h:=aG (fun hg=>c2) (fun hg=>wl) ?_)
  refine eF (fun h6=>?_) fun h6=>?_
  ·have Y:=wa Y h6
   exact wo (h:=wx hI0 (k+1) ⟨(xs++(if wL g m.edges go k=true then [(k:Int)] else [])),wg,wn,wn,wj,(by (rw [aV];split<;>simp<;>omega)),(by (rw [cO,← hx]))⟩)
  ·have Y:=wa Y h6
   exact wo (h:=wx hI0 (k+1) ⟨(xs++(if wL g m.edges go k=true then [(k:Int)] else [])),wg,wn,wn,wj,(by (rw [aV];split<;>simp<;>omega)),(by (rw [cO,← hx]))⟩)
 ·refine wv (h:=?_)
  have hX:yH g m.edges go=xs:=by rw [hx,show k=g.edges.length by omega];rfl
  exact hQ _ _ (by simp [go_sem,Y,hX])
theorem u6 (l g:Graph)(keep m:Part)(h1:m.nodes.length≤1000)(h2:m.edges.length≤1000):Pure Tryz.prog 236 [.agg (gluC l g keep m)] (.tup [.list ((qC m.nodes keep.nodes).map cPr),.list ((qC m.edges keep.edges).map cPr)]):=by
 refine Tz.pK ⟨fun _=>false,fun _=>[]⟩ Tryz.func236 rfl (fun Q hQ=>?_)
 have Y:=@gluC.eq_1
 refine wv (h:=aK (tC m.nodes keep.nodes h1) wl ?_)
 refine wv (h:=aK (tC m.edges keep.edges h2) wl ?_)
 exact wv (h:=hQ _ _ wy)
theorem w3 {a b:Graph}{m:Part}(h:dV a b m=0):(∀ x∈m.nodes,0≤x∧x<b.nodes.length)∧∀ x∈m.edges,0≤x∧x<b.edges.length:=by
 obtain ⟨_,_,h3,h4⟩:=lX h
 have hM:dV a b m=(if bJ (jP a b m) 0 a.nodes.length≠0 then bJ (jP a b m) 0 a.nodes.length else bJ (gL a b m) 0 a.edges.length):=by
  obtain ⟨g1,g2,_,_⟩:=lX h
  unfold dV;rw [if_neg (by simp [g1]),if_neg (by simp [g2]),if_neg (by omega)]
 rw [hM] at h
 split at h
 ·rename_i h5;exact absurd h h5
 ·rename_i h5
  constructor
  ·intro x hx
   obtain ⟨i,hi,rfl⟩:=aO hx
   have:=dZ _ _ (show bJ (jP a b m) 0 a.nodes.length=0 by omega) i (by omega) (by omega)
   unfold jP at this
   rw [aA hi] at this
   simp only [aD] at this
   split at this<;>omega
  ·intro x hx
   obtain ⟨i,hi,rfl⟩:=aO hx
   have:=dZ _ _ h i (by omega) (by omega)
   unfold gL at this
   rw [aA hi] at this
   simp only [aD] at this
   split at this<;>omega
theorem FQ (l g:Graph)(keep m:Part)(hk:keep.nodes.length≤1000000)(hm1:m.nodes.length≤1000)(hm2:m.edges.length≤1000)(hg1:g.nodes.length≤1000000)(hg2:g.edges.length≤1000000):Pure Tryz.prog 140 [l.d,g.d,keep.d,m.d] (.tup [(qE l g keep m).d,dI (o8 l g keep m)]):=by
 have hd1:=Ay (keep:=keep.nodes) hm1
 have hd2:=Ay (keep:=keep.edges) hm2
 refine Tz.pK ⟨fun t=>t==8||t==10,fun _=>[]⟩ Tryz.func140 rfl (fun Q hQ=>?_)
 have Y:=trivial
 refine wv (h:=aB ((by have:=Bt l g keep m hk;simp only [gluC] at this;exact this)) wl ?_)
 refine c4 (fun h3=>?_) fun h3=>?_
 ·have hC:o8 l g keep m=compG l g keep m:=if_pos h3
  have hZ:qE l g keep m=⟨[],[]⟩:=if_neg (by rw [hC];exact h3)
  exact wv (h:=hQ _ _ (by simp [go_sem,hC,hZ]))
 ·have hC:o8 l g keep m=if 0<(qC m.nodes keep.nodes).length+(qC m.edges keep.edges).length then 15 else if 0<(yH g m.edges (jA m.nodes keep.nodes)).length then 14 else 0:=if_neg (by rw [h3];simp)
  have hin:(∀ x∈m.nodes,0≤x∧x<g.nodes.length)∧∀ x∈m.edges,0≤x∧x<g.edges.length:=w3 (a:=l) (by unfold compG at h3;by_cases hz:dV l g m=0;exact hz;rw [if_pos hz] at h3;exact h3)
  refine wv (h:=aB ((by have:=u6 l g keep m hm1 hm2;simp only [gluC] at this;exact this)) wl ?_)
  refine eF (fun h6=>?_) fun h6=>?_
  ·rw [if_pos (by omega)] at hC
   have hZ:qE l g keep m=⟨[],[]⟩:=if_neg (by rw [hC];simp)
   exact wv (h:=hQ _ _ (by simp [go_sem,hC,hZ]))
  ·rw [if_neg (by first|omega|simp [h6])] at hC
   refine wo (h:=aB ((by have:=xP l g keep m (by omega) hg2;simp only [gluC] at this;exact this)) wl ?_)
   refine eF (fun h8=>?_) fun h8=>?_
   ·rw [if_pos (by omega)] at hC
    have hZ:qE l g keep m=⟨[],[]⟩:=if_neg (by rw [hC];simp)
    exact wv (h:=hQ _ _ (by simp [go_sem,hC,hZ]))
   ·rw [if_neg (by first|omega|simp [h8])] at hC
    have hZ:qE l g keep m=⟨b5 (jA m.nodes keep.nodes) g.nodes.length,b5 (jA m.edges keep.edges) g.edges.length⟩:=if_pos hC
    refine wo (h:=aK (uS g.nodes.length hg1 m.nodes keep.nodes (by omega) hin.1) wl ?_)
    refine wo (h:=aK (uS g.edges.length hg2 m.edges keep.edges (by omega) hin.2) wl ?_)
    exact wo (h:=hQ _ _ (by simp [go_sem,hC,hZ]))
end Go.Abs
end
