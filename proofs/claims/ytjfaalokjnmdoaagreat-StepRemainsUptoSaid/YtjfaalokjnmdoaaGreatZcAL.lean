/- Small things that later texts take from the texts of layer 4 -/
import Derived.Test.YtjfaalokjnmdoaaGreatZcAF
import Derived.Test.YtjfaalokjnmdoaaGreatZcAK
import Derived.Test.YtjfaalokjnmdoaaGreatZcAA
set_option linter.unusedVariables false
set_option linter.unusedSimpArgs false
section
set_option maxRecDepth 100000
set_option maxHeartbeats 4000000
open Go Go.Proofs
namespace Go.Abs
theorem D1 {P:Program}{H:AHeap}{f:FuncId}{args:List D}{ty:TypeId}{sz:Nat}{es:List (List D)}{Q:D→AHeap→Prop}(hp:Own P f (args.map (gX H)) ty sz es)(hcl:D.clL (args.map (gX H))=true)(hf:∀ d∈es.flatten,d.flat=true)(hQ:Q (.list es) H):ACalls P f args H Q:=by
 refine ⟨hp.1,fun M0 σ w vals hR ha=>?_⟩
 obtain ⟨f1,f2,f3,f4⟩:=eU (args.flatMap dD) hR
 refine (hp.2 (cR M0 (eP (args.flatMap dD) H) σ) w vals (sO f1) (fQ (fun _ h=>h) (A5 hR ha _ fun i h=>h) hcl)).mono fun e w' ⟨v,xs,he,hrow,h1,hrep,hcll,hsz,hb⟩=>?_
 obtain ⟨g1,g2,g3⟩:=hR.grow hb.os hb.tape hb.output hb.size hb.block
 have hv:RepV (cR M0 H σ) gC o6 w' v (.list es):=by
  rcases hrow.2 with ⟨hnil,h0⟩|⟨g,cap,cur,hval,hg,hcells,hnc,hcm,hsz',htake⟩
  ·rw [hnil,bG h0];exact .listN
  ·rw [hval]
   refine .list ⟨g,0,none⟩ cap sz xs es hnc hcm hsz hrep.len h1 (fun j u hu=>⟨fun hm=>?_,hrow.cells (g:=g) (by simp [hval,Value.ownBlock]) j u hu⟩) (fun j u d hu hd=>xT (hrep.rep j u d hu hd) (hf d (aH hd)))
   have:=sO hR g hm
   omega
 exact ⟨v,.list es,H,σ,he,g1,hv.keep xM,g2,g3,hQ⟩
theorem jA {P:Program}{md:Nat→Bool}{ops:Array Oper}{sp:List (Nat × Nat)}{n0 i:Nat}{rest:List Oper}{acc:List (Nat × List Nat)}{e:cX}{dst:Option Tmp}{K:cX→AHeap→Prop}{f:FuncId}{args args':List D}{H:AHeap}{ty:TypeId}{sz:Nat}{es:List (List D)}
  (hp:Own P f args' ty sz es) (ha:args.map (gX H)=args') (hcl:D.clL args'=true) (hf:∀ d∈es.flatten,d.flat=true) {S:List Nat} (hS:args.flatMap dD=S) (hc:J6 sp i S acc)
  (h:jQ P md ops sp n0 (i+1) rest ((i,S) :: acc) (nK e dst (.list es)) H K):vE P md ops sp n0 i rest acc e dst K f args H:=by
 subst ha hS
 unfold vE
 refine .inl ⟨.list es,_,fun H' hag=>?_,hc,h⟩
 have he:=AJ hag fun x hx=>hx
 exact D1 (by rw [he];exact hp) (by rw [he];exact hcl) hf ⟨rfl,rfl⟩
theorem gY {β:Type}(f:β→Nat→β)(b:β)(n:Nat):(List.range (n+1)).foldl f b=f ((List.range n).foldl f b) n:=by
 rw [bJ,jU];rfl
theorem QB {t:Types}(hv:t.valid){a:Nat}(ha:a<t.nodes.length):mem (t.line a) a=true:=by
 rw [xK t a ha (hv.parentsOK a),tP];simp
def cL (l:List Int):List D:=[dLI l]
@[go_sem] theorem WS (l:List (List Int)):D.clLL (l.map cL)=true:=c4 cL (fun x=>by simp [cL,go_sem]) l
attribute [go_sem] cL
@[go_sem] theorem Yc (o:Option Rule)(a1 a2 a3 a4 a5 a6 a7 a8 a9 a10 a11 a12 a13 a14 a15 a16 a17 a18 a19 a20 a21 a22 a23 a24 a25:D):((Option.map Rule.c o).getD [a1,a2,a3,a4,a5,a6,a7,a8,a9,a10,a11,a12,a13,a14,a15,a16,a17,a18,a19,a20,a21,a22,a23,a24,a25]).length=25:=by cases o<;>rfl
def Rs (mask:List Bool):List Nat:=(List.range mask.length).filter fun i=>mask[i]?.getD false
theorem IJ (a b:List Int):Pure Tryz.prog 51 [dLI a,dLI b] (.bool (decide (a=b))):=by
 refine Tz.pK ⟨fun _=>false,fun _=>[]⟩ Tryz.func51 rfl (fun Q hQ=>?_)
 have Y:=trivial
 refine wv (h:=?_)
 repeat first|intro _|refine ⟨fF,?_⟩
 refine wq (fun h1=>?_) fun h1=>?_
 ·refine wv (h:=?_)
  have hne:a≠b:=by intro h;subst h;omega
  exact hQ _ _ (by simp [go_sem,hne])
 ·refine wo (h:=bP (fun i e H=>(e 0=dLI a∧e 1=dLI b∧e 12=dI a.length∧e 13=dI i)∧(i≤a.length)∧(a.take i=b.take i)) (fun i=>a.length - i) 0 ⟨wg,wi,(by rfl)⟩ fun I0 hI0 i e H hi0=>?_)
  obtain ⟨E0,hi,he⟩:=hi0
  have Y:=wa Y E0
  refine dO (fun h4=>?_) fun h4=>?_
  ·have hib:i<b.length:=by omega
   have Y:=wa Y (wa h4 hib)
   refine wv (h:=?_)
   repeat first|intro _|refine ⟨fF,?_⟩
   refine wq (fun h6=>?_) fun h6=>?_
   ·refine wv (h:=?_)
    have hne:a≠b:=by intro h;subst h;exact h6 rfl
    exact hQ _ _ (by simp [go_sem,hne])
   ·exact wo (h:=wx hI0 (i+1) ⟨wg,wj,(by (rw [aF h4,aF hib,he,h6]))⟩)
  ·rw [aP (by omega),aP (by omega)] at he
   exact wv (h:=hQ _ _ (by simp [go_sem,he]))
theorem Ps {r:Rule}(h:fewR r=true):r.ok:=by
 simp only [fewR,aJ,decide_eq_true_eq] at h
 obtain ⟨⟨⟨⟨⟨h1,h2⟩,h3⟩,h4⟩,h5⟩,h6⟩:=h
 simp [fewPart] at h4 h5
 simp [fewC] at h6
 have h7:=FW r.cond 40 (by omega) h6
 exact ⟨by omega,by omega,by omega,by omega,by omega,h7.1,by omega⟩
theorem OF {P:Program}{md:Nat→Bool}{ops:Array Oper}{rest:List Oper}{e:cX}{dst:Option Tmp}{K:cX→AHeap→Prop}{f:FuncId}{args args':List D}{H:AHeap}{ty:TypeId}{sz:Nat}{es:List (List D)}
  (hp:Own P f args' ty sz es) (ha:args.map (gX H)=args') (hcl:D.clL args'=true) (hf:∀ d∈es.flatten,d.flat=true) (h:lQ P md ops rest (nK e dst (.list es)) H K):gU P md ops rest e dst K f args H:=by
 subst ha;unfold gU;exact D1 hp hcl hf h
theorem DL (zs:List Int):∀ d∈(zs.map cI).flatten,d.flat=true:=by
 intro d hd;rw [yX,aT] at hd;obtain ⟨x,_,rfl⟩:=hd;rfl
def Sw:List Int→Int
 | []=>0
 | a :: l=>if a≠0 then a else Sw l
theorem Rz {l:List Int}{i:Nat}(h:i<l.length):Sw (l.drop i)=if l[i]≠0 then l[i] else Sw (l.drop (i+1)):=by
 rw [fY h];rfl
theorem U3 (l:List Int):Pure Tryz.prog 288 [dLI l] (dI (Sw l)):=by
 refine Tz.pK ⟨fun _=>false,fun _=>[]⟩ Tryz.func288 rfl (fun Q hQ=>?_)
 have Y:=trivial
 refine wv (h:=?_)
 repeat first|intro _|refine ⟨fF,?_⟩
 refine bP (fun i e H=>(e 6=dLI l∧e 7=dI l.length∧e 3=dI 0∧e 8=dI i)∧(i≤l.length)∧(Sw (l.drop i)=Sw l)) (fun i=>l.length - i) 0 ⟨wg,wi,(by rfl)⟩ fun I0 hI0 i e H hi0=>?_
 obtain ⟨E0,hi,hO⟩:=hi0
 have Y:=wa Y E0
 refine dO (fun h3=>?_) fun h3=>?_
 ·have hst:=hO
  rw [Rz h3] at hst
  have Y:=wa Y h3
  refine wv (h:=?_)
  repeat first|intro _|refine ⟨fF,?_⟩
  refine wq (fun h5=>?_) fun h5=>?_
  ·rw [if_pos (by omega)] at hst
   exact wv (h:=hQ _ _ (by simp [go_sem,Y,← hst]))
  ·rw [if_neg (by omega)] at hst
   refine wv (h:=?_)
   repeat first|intro _|refine ⟨fF,?_⟩
   exact wx hI0 (i+1) ⟨wg,wj,(by exact hst)⟩
 ·rw [fV (by omega)] at hO
  exact wv (h:=hQ _ _ (by simp [go_sem,← hO,Sw]))
theorem Hg {P:Program}(w:World)(dT sT ty elem:TypeId)(sz:Nat)(g o dLen dCap:Nat)(a:Addr)(sLen sCap n:Nat)(cur:Array Value)(t:TypeId)(cs:List Value)
  (hu:P.underlying dT=some (.slice elem)) (hs:(P.info? elem).map (·.size)=some sz)
  (hg:w.heap[g]?=some (.cells cur t (0,0))) (hn:n=Nat.min sLen dLen) (hcl:cs.length=n * sz)
  (hsrc:∀ j v,cs[j]?=some v→w.cell? (a.add j)=some v) (hfit:o+cs.length≤cur.size) (h1:∀ v∈cs,v.oneCell'=true) :
  (Builtin.copy_ #[dT,sT] ty #[.slice (some ⟨g,o,none⟩) dLen dCap,.slice (some a) sLen sCap]).run P w =
   .ok (goInt n) (w.setRow g (cur.toList.take o++cs++cur.toList.drop (o+cs.length)).toArray):=by
 have hl:=run_loadCells_list (P:=P) w a cs hsrc
 have hst:=run_storeCells_at P g o t cs 0 cur w hg (by simpa using hfit) h1
 cases hq:P.info? elem with
 | none=>simp [hq] at hs
 | some i =>
  have hi:i.size=sz:=by simpa [hq] using hs
  rw [hcl] at hl
  simp [Builtin.copy_,run_underlying hu,Builtin.lenOf,Builtin.firstCells,sizeOf,typeInfo,hq,hi,← hn,hl,hst]
def cmp1 (a b:Int):Int:=if a<b then -1 else if b<a then 1 else 0
theorem MC (a b:Int):Pure Tryz.prog 56 [dI a,dI b] (dI (cmp1 a b)):=by
 refine Tz.pK ⟨fun _=>false,fun _=>[]⟩ Tryz.func56 rfl (fun Q hQ=>?_)
 have Y:=trivial
 refine wv (h:=aB (y5 a) wl ?_)
 refine wv (h:=aB (y5 b) wl ?_)
 refine dO (fun h9=>?_) fun h9=>?_
 ·have Y:=wa Y (wa h9 @cmp1.eq_1)
  exact wv (h:=hQ _ _ wy)
 ·refine dO (fun h11=>?_) fun h11=>?_
  ·have Y:=wa Y (wa h9 (wa h11 @cmp1.eq_1))
   exact wv (h:=hQ _ _ wy)
  ·have Y:=wa Y (wa h9 (wa h11 @cmp1.eq_1))
   exact wv (h:=hQ _ _ wy)
theorem Bl {n:Nat}{x:Int}(h:x∈cF n):0≤x∧x<n:=by
 simp only [cF,aT,bK] at h
 obtain ⟨k,hk,rfl⟩:=h;omega
theorem Ho (n:Nat)(hn:n≤100000):Own Tryz.prog 184 [dI 0,dI n] 3 1 ((cF n).map cI):=by
 refine Tz.oK ⟨fun t=>t==5,fun _=>[]⟩ Tryz.func184 rfl (fun Q hQ=>?_)
 have Y:=trivial
 refine wv (h:=bP (fun i e H=>(e 0=dI 0∧e 1=dI n∧e 5=.own 0 i∧e 6=dI i)∧(H.get 0=some ⟨3,1,(cF i).map cI,false⟩)∧(0<H.next)∧(i≤n)∧((cF i).length=i)) (fun i=>n - i) 0 ⟨wg,(by rfl),wn,wi,(by (exact d9 _))⟩ fun I0 hI0 i e H hi0=>?_)
 obtain ⟨E0,g0_0,n0_0,hi,hl⟩:=hi0
 have Y:=wa Y (wa E0 (wa g0_0 (wa (b5 n0_0) hl)))
 refine dO (fun h3=>?_) fun h3=>?_
 ·have Y:=wa Y h3
  exact wo (h:=wx hI0 (i+1) ⟨wg,(by (simp [go_sem,Y,Cw])),wn,wj,(by (exact d9 _))⟩)
 ·have hie:i=n:=by omega
  subst hie
  refine wv (h:=?_)
  exact hQ _ _ _ (by simp [go_sem,Y,d9]) (by simp [go_sem,Y,d9])
def j6 (t:Types)(i:Nat):Bool:=match t.nodes[i]? with|some n=>n.abs|none=>false
def g9 (t:Types):List Int:=((List.range t.nodes.length).filter fun i=>!j6 t i).map fun (i:Nat)=>(i:Int)
theorem IM {t:Types}{x:Int}(h:x∈g9 t):0≤x∧x<t.nodes.length:=by
 simp only [g9,aT,dN,bK] at h
 obtain ⟨k,⟨hk,_⟩,rfl⟩:=h;omega
theorem Fg (t:Types)(hn:t.nodes.length≤100000):Pure Tryz.prog 251 [t.d] (dLI (g9 t)):=by
 refine Tz.pK ⟨fun t=>t==3,fun _=>[]⟩ Tryz.func251 rfl (fun Q hQ=>?_)
 have Y:=trivial
 refine wv (h:=bP (fun i e H=>∃ ys:List Int,(e 1=.adr t.c∧e 3=.own 0 ys.length∧e 4=dI i)∧(H.get 0=some ⟨3,1,ys.map cI,false⟩)∧(0<H.next)∧(i≤t.nodes.length)∧(ys.length≤i)∧(ys=((List.range i).filter fun i=>!j6 t i).map (fun (b:Nat)=>(b:Int)))) (fun i=>t.nodes.length - i) 0 ⟨([]),wg,wn,wn,wi,(by simp),(by rfl)⟩ fun I0 hI0 i e H hi0=>?_)
 obtain ⟨ys,E0,g0_0,n0_0,hi,hyl,hy⟩:=hi0
 have Y:=wa Y (wa E0 (wa g0_0 (b5 n0_0)))
 refine fJ (fun h3=>?_) fun h3=>?_
 ·have hab:j6 t i=t.nodes[i].abs:=by simp [j6,aA h3]
  have Y:=wa Y (wa h3 (wa (aA h3) hab))
  refine fJ (fun h5=>?_) fun h5=>?_
  ·have Y:=wa Y h5
   exact wo (h:=wx hI0 (i+1) ⟨(ys++(if (!j6 t i)=true then [(i:Int)] else [])),wg,wn,wn,wj,(by (rw [aI];split<;>simp<;>omega)),(by (rw [cJ,← hy]))⟩)
  ·have Y:=wa Y h5
   exact wo (h:=wx hI0 (i+1) ⟨(ys++(if (!j6 t i)=true then [(i:Int)] else [])),wg,wn,wn,wj,(by (rw [aI];split<;>simp<;>omega)),(by (rw [cJ,← hy]))⟩)
 ·have hY:g9 t=ys:=by rw [hy,show i=t.nodes.length by omega];rfl
  exact wv (h:=hQ _ _ (by simp [go_sem,Y,hY]))
theorem Fi (t:Types)(hn:t.nodes.length≤100000):Pure Tryz.prog 101 [t.d] (dLI (g9 t)):=by
 refine Tz.pK ⟨fun t=>t==3,fun _=>[]⟩ Tryz.func101 rfl (fun Q hQ=>?_)
 have Y:=trivial
 refine wv (h:=bP (fun i e H=>∃ ys:List Int,(e 1=.adr t.c∧e 3=.own 0 ys.length∧e 4=dI i)∧(H.get 0=some ⟨3,1,ys.map cI,false⟩)∧(0<H.next)∧(i≤t.nodes.length)∧(ys.length≤i)∧(ys=((List.range i).filter fun i=>!j6 t i).map (fun (b:Nat)=>(b:Int)))) (fun i=>t.nodes.length - i) 0 ⟨([]),wg,wn,wn,wi,(by simp),(by rfl)⟩ fun I0 hI0 i e H hi0=>?_)
 obtain ⟨ys,E0,g0_0,n0_0,hi,hyl,hy⟩:=hi0
 have Y:=wa Y (wa E0 (wa g0_0 (b5 n0_0)))
 refine fJ (fun h3=>?_) fun h3=>?_
 ·have hab:j6 t i=t.nodes[i].abs:=by simp [j6,aA h3]
  have Y:=wa Y (wa h3 (wa (aA h3) hab))
  refine fJ (fun h5=>?_) fun h5=>?_
  ·have Y:=wa Y h5
   exact wo (h:=wx hI0 (i+1) ⟨(ys++(if (!j6 t i)=true then [(i:Int)] else [])),wg,wn,wn,wj,(by (rw [aI];split<;>simp<;>omega)),(by (rw [cJ,← hy]))⟩)
  ·have Y:=wa Y h5
   exact wo (h:=wx hI0 (i+1) ⟨(ys++(if (!j6 t i)=true then [(i:Int)] else [])),wg,wn,wn,wj,(by (rw [aI];split<;>simp<;>omega)),(by (rw [cJ,← hy]))⟩)
 ·have hY:g9 t=ys:=by rw [hy,show i=t.nodes.length by omega];rfl
  exact wv (h:=hQ _ _ (by simp [go_sem,Y,hY]))
def vT (b:List Bool):List Int:=(Rs b).map fun (i:Nat)=>(i:Int)
theorem A7 (b:List Bool)(hn:b.length≤100000):Pure Tryz.prog 165 [.list (b.map cB)] (dLI (vT b)):=by
 refine Tz.pK ⟨fun t=>t==3,fun _=>[]⟩ Tryz.func165 rfl (fun Q hQ=>?_)
 have Y:=trivial
 refine wv (h:=bP (fun i e H=>∃ ys:List Int,(e 0=.list (b.map cB)∧e 3=.own 0 ys.length∧e 4=dI i)∧(H.get 0=some ⟨3,1,ys.map cI,false⟩)∧(0<H.next)∧(i≤b.length)∧(ys.length≤i)∧(ys=((List.range i).filter fun i=>b[i]?.getD false).map (fun (b:Nat)=>(b:Int)))) (fun i=>b.length - i) 0 ⟨([]),wg,wn,wn,wi,(by simp),(by rfl)⟩ fun I0 hI0 i e H hi0=>?_)
 obtain ⟨ys,E0,g0_0,n0_0,hi,hyl,hy⟩:=hi0
 have Y:=wa Y (wa E0 (wa g0_0 (b5 n0_0)))
 refine fJ (fun h3=>?_) fun h3=>?_
 ·have hgd:b[i]?.getD false=b[i]:=by rw [aA h3];rfl
  have Y:=wa Y (wa h3 (wa (aA h3) hgd))
  refine fJ (fun h5=>?_) fun h5=>?_
  ·have Y:=wa Y h5
   exact wo (h:=wx hI0 (i+1) ⟨(ys++(if b[i]?.getD false=true then [(i:Int)] else [])),wg,wn,wn,wj,(by (rw [aI];split<;>simp<;>omega)),(by (rw [cJ,← hy]))⟩)
  ·have Y:=wa Y h5
   exact wo (h:=wx hI0 (i+1) ⟨(ys++(if b[i]?.getD false=true then [(i:Int)] else [])),wg,wn,wn,wj,(by (rw [aI];split<;>simp<;>omega)),(by (rw [cJ,← hy]))⟩)
 ·have hY:vT b=ys:=by rw [hy,show i=b.length by omega];rfl
  exact wv (h:=hQ _ _ (by simp [go_sem,Y,hY]))
theorem zU (g:Graph)(hn:g.nodes.length≤100000)(he:g.edges.length≤100000):Pure Tryz.prog 175 [g.d] g.d:=by
 refine Tz.pK ⟨fun t=>t==2||t==3||t==7,fun r=>match r with|1=>[(0,1),(0,2),(0,4),(1,4),(2,4),(3,4),(0,5),(3,5),(4,5),(0,6),(3,6),(4,6)]|_=>[]⟩ Tryz.func175 rfl (fun Q hQ=>?_)
 have Y:=trivial
 exact wo (h:=hQ _ _ wy)
theorem rL (l:List Int)(hb:∀ x∈l,0≤x∧x<l.length)(hd:∀ a b,a<b→b<l.length→l[a]?≠l[b]?):Pure Tryz.prog 186 [dLI l] (dI 0):=by
 refine Tz.pK ⟨fun _=>false,fun _=>[]⟩ Tryz.func186 rfl (fun Q hQ=>?_)
 have Y:=trivial
 refine wv (h:=bP (fun i e H=>(e 0=dLI l∧e 3=dI i)∧(i≤l.length)) (fun i=>l.length - i) 0 ⟨wg,wi⟩ fun I0 hI0 i e H hi0=>?_)
 obtain ⟨E0,hi⟩:=hi0
 have Y:=wa Y E0
 refine wv (h:=?_)
 repeat first|intro _|refine ⟨fF,?_⟩
 refine wq (fun h2=>?_) fun h2=>?_
 ·have hx:=hb _ (aC h2)
  have Y:=wa Y (wa h2 (aA h2))
  refine wv (h:=?_)
  repeat first|intro _|refine ⟨fF,?_⟩
  refine aK (fun h4=>?_) (fun h4=>?_)
  ·simp [aA h2] at h4;omega
  ·try simp [go_sem] at h4
   exact wo (h:=wx hI0 (i+1) ⟨wg,wj⟩)
 ·refine wv (h:=bP (fun k e H=>(e 0=dLI l∧e 4=dI k)∧(k≤l.length)) (fun k=>l.length - k) 0 ⟨wg,wi⟩ fun I2 hI2 k e H hi2=>?_)
  obtain ⟨E2,hk⟩:=hi2
  have Y:=wa Y E2
  refine wv (h:=?_)
  repeat first|intro _|refine ⟨fF,?_⟩
  refine wq (fun h7=>?_) fun h7=>?_
  ·have Y:=wa Y (wa h7 (aA h7))
   refine wv (h:=bP (fun m e H=>(e 0=dLI l∧e 4=dI k∧e 5=dI m)∧(m≤k)) (fun m=>k - m) 0 ⟨wg,wi⟩ fun I4 hI4 m e H hi4=>?_)
   obtain ⟨E4,hm⟩:=hi4
   have Y:=wa Y E4
   refine dO (fun h10=>?_) fun h10=>?_
   ·have hml:m<l.length:=by omega
    have Y:=wa Y (wa h10 (wa (aA hml) hml))
    refine wv (h:=?_)
    repeat first|intro _|refine ⟨fF,?_⟩
    refine aK (fun h12=>?_) (fun h12=>?_)
    ·exact absurd (show l[k]=l[m] by simpa [aA h7,aA hml] using h12) (fun he=>hd m k h10 h7 (by rw [aA hml,aA h7,he]))
    ·try simp [go_sem] at h12
     exact wo (h:=wx hI4 (m+1) ⟨wg,wj⟩)
   ·exact wo (h:=wx hI2 (k+1) ⟨wg,wj⟩)
  ·have Y:=wa Y (wa h2 h7)
   exact wv (h:=hQ _ _ wy)
def Jf (xs:List Int)(i j:Nat):List Int:=(xs.set i (xs[j]?.getD 0)).set j (xs[i]?.getD 0)
theorem KK (xs:List Int)(i j:Nat):(Jf xs i j).length=xs.length:=by simp [Jf]
abbrev B2:=UInt8 × UInt8
def cP (x:B2):List D:=[.int .u8 (x.1.toNat:Int),.int .u8 (x.2.toNat:Int)]
theorem iX (x:UInt8):(x.toNat:Int)<256:=by have:=x.toNat_lt;omega
@[go_sem] theorem Sc (l:List B2):D.clLL (l.map cP)=true:=c4 _ (fun _=>rfl) l
def tyA:ByteArray:=⟨#[65,66,67,68,69,70]⟩
def tyU:ByteArray:=⟨#[117,118,119,120,121,122]⟩
def tyE:ByteArray:=⟨#[101,102,103,104,105]⟩
def kZ (i:Nat)(x:B2):NodeTy :=
 ⟨tyA.extract i (i+1),(x.1.toNat:Int).tmod ((i:Int)+1) - 1,((x.1.toNat:Int) / 16).tmod 4==3,
  if (x.2.toNat:Int).tmod 4=1 then [⟨tyU.extract i (i+1),-3,3+((x.2.toNat:Int) / 4).tmod 9,[]⟩]
  else if (x.2.toNat:Int).tmod 4=2 then [⟨tyU.extract i (i+1),0,1,[⟨#[111,102,102]⟩,⟨#[111,110]⟩]⟩] else []⟩
def vU (i:Nat)(x:B2):List D :=
 [.str (tyA.extract i (i+1)),dI ((x.1.toNat:Int).tmod ((i:Int)+1) - 1),.bool (((x.1.toNat:Int) / 16).tmod 4==3),
  if (x.2.toNat:Int).tmod 4=1 then .list [[.str (tyU.extract i (i+1)),dI (-3),dI (3+((x.2.toNat:Int) / 4).tmod 9),.nil]]
  else if (x.2.toNat:Int).tmod 4=2 then .list [[.str (tyU.extract i (i+1)),dI 0,dI 1,.list [[.str ⟨#[111,102,102]⟩],[.str ⟨#[111,110]⟩]]]] else .nil]
theorem RP (i:Nat)(x:B2):jH (vU i x)=(kZ i x).c:=by
 unfold vU kZ NodeTy.c
 by_cases h1:(x.2.toNat:Int).tmod 4=1
 ·simp [h1,mO,jH,d7,Attr.c,dI,o3,cS]
 ·by_cases h2:(x.2.toNat:Int).tmod 4=2
  ·simp [h2,mO,jH,d7,Attr.c,dI,o3,cS]
  ·simp [h1,h2,mO,jH,d7,Attr.c,dI,o3,cS]
def iD (ns:List B2)(i:Nat):B2:=ns[i]?.getD (0,0)
def qH (ns:List B2)(n:Nat):List NodeTy:=(List.range n).map fun i=>kZ i (iD ns i)
def Bo (n:Int)(i:Nat)(x:B2):EdgeTy:=⟨tyE.extract i (i+1),(x.1.toNat:Int).tmod n,(x.2.toNat:Int).tmod n,0,-1,0,-1⟩
def qI (n:Int)(es:List B2)(k:Nat):List EdgeTy:=(List.range k).map fun i=>Bo n i (iD es i)
def kH (ns:List B2):Nat:=max 1 (min ns.length 6)
def iH (ns es:List B2):Types:=⟨qH ns (kH ns),qI (kH ns) es (min es.length 5)⟩
def sQ (ns:List B2)(n:Nat):List (List D):=(List.range n).map fun i=>vU i (iD ns i)
theorem rX (ns:List B2)(i:Nat):sQ ns (i+1)=sQ ns i++[vU i (iD ns i)]:=by simp [sQ,bJ]
theorem qG (ns:List B2)(i:Nat):(sQ ns i).length=i:=by simp [sQ]
theorem Qu (ns:List B2)(i:Nat):d7 (sQ ns i)=(qH ns i).map NodeTy.c:=by
 rw [tN];simp only [sQ,qH,List.map_map]
 exact bY fun j _=>RP j _
theorem jN {l:List (List D)}(h:∀ c∈l,jH c=c):d7 l=l:=by
 rw [tN];conv=>rhs;rw [← List.map_id l]
 exact bY h
theorem uW (l:List EdgeTy):d7 (l.map EdgeTy.c)=l.map EdgeTy.c:=jN fun c hc=>by
 rw [aT] at hc;obtain ⟨x,_,rfl⟩:=hc;rfl
theorem N3 (ns:List B2)(i:Nat):(qH ns i).length=i:=by simp [qH]
theorem LW (n:Int)(es:List B2)(i:Nat):qI n es (i+1)=qI n es i++[Bo n i (iD es i)]:=by simp [qI,bJ]
theorem An (n:Int)(es:List B2)(i:Nat):(qI n es i).length=i:=by simp [qI]
theorem b4 {a n:Int}(h:0≤a)(hn:0<n):0≤a.tmod n∧a.tmod n<n:=⟨Int.tmod_nonneg _ h,Int.tmod_lt_of_pos _ hn⟩
theorem SK {a n:Int}(h:0≤a)(hn:0<n):0≤a.tdiv n∧a.tdiv n≤a:=⟨Int.tdiv_nonneg h (by omega),by rw [Int.tdiv_eq_ediv_of_nonneg h];exact Int.ediv_le_self _ h⟩
theorem Ob {n:Int}(h1:0≤n)(h2:n≤255):PF .u8 n:=by
 unfold PF;simp [IntKind.min,IntKind.max,IntKind.signed,IntKind.bits];omega
theorem NP (ns es:List B2):Pure Tryz.prog 42 [.list (ns.map cP),.list (es.map cP)] (iH ns es).d:=by
 refine sM (by first|rfl|(simp [go_sem];done)) (fun Q hQ=>(aG (cfg:=⟨fun t=>t==4||t==5||t==7||t==8,fun r=>match r with|8=>[(3,17),(4,17),(5,17),(11,17),(12,17)]|20=>[(0,23),(1,23)]|_=>[]⟩) Tz.mixed Tryz.func42 rfl rfl (aE rfl) (by kernel_rfl) ?_))
 have Y:=trivial
 refine wv (h:=uZ (Ghosts.step (Ghosts.refl _) 1 0 0 183 4 _ _ (rfl) rfl rfl rfl) (fun i e H=>(e 0=.list (ns.map cP)∧e 1=.list (es.map cP)∧e 4=.ptr 0 1 0 0∧e 5=.ptr 1 1 0 0∧e 6=dI i)∧(H.get 0=some ⟨32,2,[[.nil,.nil]],false⟩)∧(0<H.next)∧(H.get 1=some ⟨32,2,[[.own 2 i,.nil]],false⟩)∧(1<H.next)∧(H.get 2=some ⟨183,4,sQ ns i,false⟩)∧(2<H.next)∧(i≤6)∧(i≤1∨i≤ns.length)∧((sQ ns i).length=i)) (fun i=>6 - i) 0 ⟨wg,wn,wn,wn,wn,(by rfl),wn,wi,(by omega),(by (exact qG _ _))⟩ fun I0 hI0 i e H hi0=>?_)
 obtain ⟨E0,g0_0,n0_0,g1_0,n1_0,g2_0,n2_0,hi,hi2,hl⟩:=hi0
 have Y:=wa Y (wa E0 (wa g0_0 (wa (b5 n0_0) (wa g1_0 (wa (b5 n1_0) (wa g2_0 (wa (b5 n2_0) hl)))))))
 refine yE (fun h3=>?_) fun h3=>?_
 ·obtain ⟨x,hx⟩:∃ x,iD ns i=x:=⟨_,rfl⟩
  have hx1:=iX x.1
  have hx2:=iX x.2
  have hi5:i<6:=by omega
  have hm1:=b4 (show 0≤(x.1.toNat:Int) by omega) (show 0<(i:Int)+1 by omega)
  have hm2:=b4 (show 0≤(x.2.toNat:Int) / 4 by omega) (show (0:Int)<9 by omega)
  have hu1:=Ob (show 0≤(x.1.toNat:Int) / 16 by omega) (by omega)
  have hu2:=Ob (show 0≤(x.2.toNat:Int) / 4 by omega) (by omega)
  have hsz:(⟨#[65,66,67,68,69,70]⟩:ByteArray).size=6:=rfl
  have hsz2:(⟨#[117,118,119,120,121,122]⟩:ByteArray).size=6:=rfl
  have nx:=Ph H.next
  have Y:=wa Y (wa h3 (wa hsz (wa hsz2 nx)))
  refine yE (fun h6=>?_) fun h6=>?_
  ·have hx0:ns[i]=x:=by rw [← hx];simp [iD,aA h6]
   have Y:=wa Y (wa (aA h6) (wa hx0 @cP.eq_1))
   refine yE (fun h11=>?_) fun h11=>?_
   ·have hmn:vU i (iD ns i)=[.str (tyA.extract i (i+1)),dI ((x.1.toNat:Int).tmod ((i:Int)+1) - 1),.bool (((x.1.toNat:Int) / 16).tmod 4==3),.list [[.str (tyU.extract i (i+1)),dI (-3),dI (3+((x.2.toNat:Int) / 4).tmod 9),.nil]]]:=by rw [hx];simp [vU,h11]
    exact wp (h:=wx hI0 (i+1) ⟨wg,wn,wn,wn,wn,(by (simp [go_sem,Y,rX,hmn,tyA,tyU,NodeTy.c,Attr.c,o3,cS,dI])),wn,wj,(by omega),(by (exact qG _ _))⟩)
   ·refine dO (fun h13=>?_) fun h13=>?_
    ·have hmn:vU i (iD ns i)=[.str (tyA.extract i (i+1)),dI ((x.1.toNat:Int).tmod ((i:Int)+1) - 1),.bool (((x.1.toNat:Int) / 16).tmod 4==3),.list [[.str (tyU.extract i (i+1)),dI 0,dI 1,.list [[.str ⟨#[111,102,102]⟩],[.str ⟨#[111,110]⟩]]]]]:=by rw [hx];simp [vU,h13]
     exact wp (h:=wx hI0 (i+1) ⟨wg,wn,wn,wn,wn,(by (simp [go_sem,Y,rX,hmn,tyA,tyU,NodeTy.c,Attr.c,o3,cS,dI])),wn,wj,(by omega),(by (exact qG _ _))⟩)
    ·have hmn:vU i (iD ns i)=[.str (tyA.extract i (i+1)),dI ((x.1.toNat:Int).tmod ((i:Int)+1) - 1),.bool (((x.1.toNat:Int) / 16).tmod 4==3),.nil]:=by rw [hx];simp [vU,h11,h13]
     exact wp (h:=wx hI0 (i+1) ⟨wg,wn,wn,wn,wn,(by (simp [go_sem,Y,rX,hmn,tyA,tyU,NodeTy.c,Attr.c,o3,cS,dI])),wn,wj,(by omega),(by (exact qG _ _))⟩)
  ·have hx0:x=(0,0):=by rw [← hx];simp [iD,bL h6]
   subst hx0
   have hmn:vU i (iD ns i)=[.str (tyA.extract i (i+1)),dI (-1),.bool false,.nil]:=by rw [hx];simp [vU]
   exact wp (h:=wx hI0 (i+1) ⟨wg,wn,wn,wn,wn,(by (simp [go_sem,Y,rX,hmn,tyA,tyU,NodeTy.c,Attr.c,o3,cS,dI])),wn,wj,(by omega),(by (exact qG _ _))⟩)
 ·have hN:i=kH ns:=by unfold kH;omega
  refine wv (h:=uZ (Ghosts.step (Ghosts.refl _) 1 0 1 188 7 _ _ (g1_0) rfl rfl rfl) (fun k e H=>∃ j:Nat,(e 0=.list (ns.map cP)∧e 1=.list (es.map cP)∧e 4=.ptr 0 1 0 0∧e 5=.ptr 1 1 0 0∧e 10=dI k)∧(H.get 0=some ⟨32,2,[[.nil,.nil]],false⟩)∧(0<H.next)∧(H.get 1=some ⟨32,2,[[.own 2 i,.own j k]],false⟩)∧(1<H.next)∧(H.get 2=some ⟨183,4,sQ ns i,false⟩)∧(2<H.next)∧(H.get j=some ⟨188,7,(qI i es k).map EdgeTy.c,false⟩)∧(j<H.next)∧(k≤5)∧(k≤es.length)∧(j≠0)∧(j≠1)∧(j≠2)∧((qI i es k).length=k)) (fun k=>5 - k) 0 ⟨H.next,wg,wn,wn,wn,wn,wn,wn,(by (simp [go_sem,qI,Y])),wn,wi,wi,(by omega),(by omega),(by omega),(by (exact An _ _ _))⟩ fun I3 hI3 k e H hi3=>?_)
  obtain ⟨j,E3,g0_3,n0_3,g1_3,n1_3,g2_3,n2_3,gj_3,nj_3,hk,hk2,j0,j1,j2,hle⟩:=hi3
  have Y:=wa Y (wa E3 (wa g0_3 (wa (b5 n0_3) (wa g1_3 (wa (b5 n1_3) (wa g2_3 (wa (b5 n2_3) (wa gj_3 (wa (b5 nj_3) (wa hle (wa j0 (wa j1 (wa j2 (wa j0.symm (wa j1.symm j2.symm)))))))))))))))
  refine yE (fun h17=>?_) fun h17=>?_
  ·obtain ⟨x,hx⟩:∃ x,iD es k=x:=⟨_,rfl⟩
   have hk5:k<es.length∧k<5:=by omega
   have hx0:es[k]'hk5.1=x:=by rw [← hx];simp [iD,aA hk5.1]
   have hi0:0<i:=by rw [hN];unfold kH;omega
   have hx1:=iX x.1
   have hx2:=iX x.2
   have hszE:(⟨#[101,102,103,104,105]⟩:ByteArray).size=5:=rfl
   have nx:=Ph H.next
   have Y:=wa Y (wa h17 (wa (aA hk5.1) (wa hx0 (wa @cP.eq_1 (wa hszE nx)))))
   exact wp (h:=wx hI3 (k+1) ⟨j,wg,wn,wn,wn,wn,wn,wn,(by (simp [go_sem,Y,LW,Bo,hx,tyE,EdgeTy.c,dI])),wn,wj,wj,wj,wj,wj,(by (exact An _ _ _))⟩)
  ·have hK:k=min es.length 5:=by omega
   refine wv (h:=?_)
   exact hQ _ _ (by simp [go_sem,Y,iH,← hN,← hK,Qu,uW,Types.d,Types.c])
def cU (x:UInt8):List D:=[.int .u8 (x.toNat:Int)]
@[go_sem] theorem OH (l:List UInt8):D.clLL (l.map cU)=true:=c4 _ (fun _=>rfl) l
def KT (n:Nat)(l:List UInt8)(i:Nat):Nat:=((i:Int)+((l[i]?.getD 0).toNat:Int).tmod ((n:Int) - i)).toNat
def KR (n:Nat)(l:List UInt8)(xs:List Int)(i:Nat):List Int:=Jf xs i (KT n l i)
def kG (n:Nat)(l:List UInt8):List Int:=(List.range (min n l.length)).foldl (KR n l) (cF n)
def mJ (n:Nat)(xs:List Int):Prop:=xs.length=n∧(∀ x∈xs,0≤x∧x<n)∧∀ a b,a<b→b<xs.length→xs[a]?≠xs[b]?
theorem s8 {xs:List Int}{i j:Nat}(hi:i<xs.length)(hj:j<xs.length)(k:Nat):(Jf xs i j)[k]?=if k=j then xs[i]? else if k=i then xs[j]? else xs[k]?:=by
 unfold Jf
 rw [cO,cO]
 by_cases h1:j=k
 ·subst h1;simp [hj,aA hi]
 ·rw [if_neg h1,if_neg (Ne.symm h1)]
  by_cases h2:i=k
  ·subst h2;simp [hi,aA hj]
  ·rw [if_neg h2,if_neg (Ne.symm h2)]
theorem Ic {n:Nat}{xs:List Int}{i j:Nat}(h:mJ n xs)(hi:i<n)(hj:j<n):mJ n (Jf xs i j):=by
 obtain ⟨h1,h2,h3⟩:=h
 have hi':i<xs.length:=by omega
 have hj':j<xs.length:=by omega
 have hne:∀ a b,a≠b→a<xs.length→b<xs.length→xs[a]?≠xs[b]?:=fun a b hab ha hb=>by
  rcases bZ a b with h|h
  ·exact h3 a b h hb
  ·exact Ne.symm (h3 b a (by omega) ha)
 refine ⟨by rw [KK,h1],fun x hx=>?_,fun a b hab hb=>?_⟩
 ·obtain ⟨k,hk⟩:=List.getElem?_of_mem hx
  rw [s8 hi' hj'] at hk
  split at hk
  ·exact h2 x (aH hk)
  ·split at hk
   ·exact h2 x (aH hk)
   ·exact h2 x (aH hk)
 ·rw [KK] at hb
  rw [s8 hi' hj',s8 hi' hj']
  split
  ·split
   ·omega
   ·split
    ·exact hne i j (by omega) hi' hj'
    ·exact hne i b (by omega) hi' hb
  ·split
   ·split
    ·exact hne j i (by omega) hj' hi'
    ·split
     ·omega
     ·exact hne j b (by omega) hj' hb
   ·split
    ·exact hne a i (by omega) (by omega) hi'
    ·split
     ·exact hne a j (by omega) (by omega) hj'
     ·exact hne a b (by omega) (by omega) hb
theorem mV {n a:Nat}(h:a<n):(cF n)[a]?=some (a:Int):=by
 simp [cF,aM,eM h]
theorem Cx (n:Nat):mJ n (cF n):=⟨d9 n,fun x hx=>Bl hx,fun a b hab hb=>by
 rw [d9] at hb
 rw [mV (by omega),mV hb]
 simp;omega⟩
theorem KS {n:Nat}{l:List UInt8}{i:Nat}(hi:i<n):KT n l i<n:=by
 have:=b4 (show 0≤((l[i]?.getD 0).toNat:Int) by omega) (show 0<(n:Int) - i by omega)
 unfold KT;omega
theorem Ci (n:Nat)(l:List UInt8):∀ k,k≤n→mJ n ((List.range k).foldl (KR n l) (cF n))
 | 0,_=>Cx n
 | k+1,h=>by
  rw [bJ,jU]
  exact Ic (Ci n l k (by omega)) (by omega) (KS (by omega))
theorem uP (n:Nat)(l:List UInt8):mJ n (kG n l):=Ci n l _ (by omega)
theorem zT (n:Nat)(hn:n≤100000)(l:List UInt8):Pure Tryz.prog 95 [dI n,.list (l.map cU)] (dLI (kG n l)):=by
 refine Tz.pK ⟨fun t=>t==5,fun _=>[]⟩ Tryz.func95 rfl (fun Q hQ=>?_)
 have Y:=@d9
 refine wv (h:=lA (Ho n hn) wl ?_)
 refine wv (h:=bP (fun i e H=>∃ xs:List Int,(e 0=dI n∧e 1=.list (l.map cU)∧e 5=.own 0 n∧e 6=dI i)∧(H.get 0=some ⟨3,1,xs.map cI,false⟩)∧(0<H.next)∧(i≤n)∧(i≤l.length)∧(mJ n xs)∧(xs=(List.range i).foldl (KR n l) (cF n))) (fun i=>n - i) 0 ⟨(cF n),wg,(by (simp [go_sem])),wn,wi,wi,(by exact Cx n),(by rfl)⟩ fun I0 hI0 i e H hi0=>?_)
 obtain ⟨xs,E0,g0_0,n0_0,hi,hil,hp,hx⟩:=hi0
 have Y:=wa Y (wa E0 (wa g0_0 (b5 n0_0)))
 refine yE (fun h3=>?_) fun h3=>?_
 ·have hx1:=iX l[i]
  have hxl:=hp.1
  have htm:=b4 (show 0≤(l[i].toNat:Int) by omega) (show 0<(n:Int) - i by omega)
  obtain ⟨j,hj⟩:∃ j:Nat,(i:Int)+(l[i].toNat:Int).tmod ((n:Int) - i)=(j:Int):=⟨((i:Int)+(l[i].toNat:Int).tmod ((n:Int) - i)).toNat,(Int.toNat_of_nonneg (by omega)).symm⟩
  have hjn:j<n:=by omega
  have hJ:KT n l i=j:=by unfold KT;rw [aA h3.2,aD,hj];rfl
  have hxi:i<xs.length:=by omega
  have hxj:j<xs.length:=by omega
  have hsi:xs[i]?.getD 0=xs[i]:=by rw [aA hxi];rfl
  have hsj:xs[j]?.getD 0=xs[j]:=by rw [aA hxj];rfl
  have hne0:(n:Int) - i≠0:=by omega
  have hss:((xs.map cI).set i [.int .i64 xs[j]])[j]?=some [.int .i64 xs[j]]:=by
   rw [cO]
   by_cases hij:i=j
   ·subst hij;simp [hxi]
   ·rw [if_neg hij,aM,aA hxj];rfl
  have Y:=wa Y (wa h3 (wa hss (wa hj (wa hxl (wa (aA h3.2) (wa (aA hxi) (wa (aA hxj) (wa hne0 @cU.eq_1))))))))
  exact wp (h:=wx hI0 (i+1) ⟨(Jf xs i j),wg,(by (simp [go_sem,Y,Jf,dR,hsi,hsj])),wn,wj,wj,(by exact Ic hp h3.1 hjn),(by (rw [bJ,jU,← hx];simp [KR,hJ]))⟩)
 ·have hI:i=min n l.length:=by omega
  have hxl:=hp.1
  have hF:kG n l=xs:=by rw [hx,hI];rfl
  exact wv (h:=hQ _ _ (by simp [go_sem,Y,hF,hxl]))
def Cr (p xs:List Int)(k:Nat):List Int:=(List.range k).foldl (fun acc i=>acc.set (p[i]?.getD 0).toNat (xs[i]?.getD 0)) xs
def Ld (p:List Int)(x:Edge):Edge:=⟨x.type,p[x.from_.toNat]?.getD 0,p[x.to_.toNat]?.getD 0⟩
def D6 (p q:List Int)(es:List Edge)(k:Nat):List Edge:=(List.range k).foldl (fun acc i=>acc.set (q[i]?.getD 0).toNat (Ld p (es[i]?.getD ⟨0,0,0⟩))) es
def wH (g:Graph)(p q:List Int):Graph:=if graphF g=0 then ⟨Cr p g.nodes g.nodes.length,D6 p q g.edges g.edges.length⟩ else ⟨[],[]⟩
theorem Cq (p xs:List Int)(k:Nat):Cr p xs (k+1)=(Cr p xs k).set (p[k]?.getD 0).toNat (xs[k]?.getD 0):=by simp [Cr,bJ]
theorem tF (p xs:List Int):∀ k,(Cr p xs k).length=xs.length
 | 0=>rfl
 | k+1=>by rw [Cq,dV,tF p xs k]
theorem Cs (p q:List Int)(es:List Edge)(k:Nat):D6 p q es (k+1)=(D6 p q es k).set (q[k]?.getD 0).toNat (Ld p (es[k]?.getD ⟨0,0,0⟩)):=by simp [D6,bJ]
theorem tG (p q:List Int)(es:List Edge):∀ k,(D6 p q es k).length=es.length
 | 0=>rfl
 | k+1=>by rw [Cs,dV,tG p q es k]
theorem sL (g:Graph)(hn:g.nodes.length≤100000)(he:g.edges.length≤100000)(G:AHeap)(Q:D→AHeap→Prop)
  (hQ:∀ a b H',G.next≤a→G.next≤b→a≠b→a<H'.next→b<H'.next→H'.get a=some ⟨3,1,g.nodes.map cI,false⟩→H'.get b=some ⟨101,3,g.edges.map Edge.c,false⟩→(∀ j,j<G.next→H'.get j=G.get j)→G.next≤H'.next→Q (.agg [.own a g.nodes.length,.own b g.edges.length]) H'):ACalls Tryz.prog 175 [g.d] G Q:=by
 refine (aG (cfg:=⟨fun t=>t==2||t==3||t==7,fun r=>match r with|1=>[(0,1),(0,2),(0,4),(1,4),(2,4),(3,4),(0,5),(3,5),(4,5),(0,6),(3,6),(4,6)]|_=>[]⟩) Tz.mixed Tryz.func175 rfl rfl (aE rfl) (by kernel_rfl) ?_)
 have nx:=Ph G.next
 have Y:=nx
 refine wo (h:=?_)
 exact hQ _ _ _ (by first|omega|(simp [go_sem]<;>omega)|(simp [go_sem,nx]<;>omega)) (by first|omega|(simp [go_sem]<;>omega)|(simp [go_sem,nx]<;>omega)) (by first|omega|(simp [go_sem]<;>omega)|(simp [go_sem,nx]<;>omega)) (by first|omega|(simp [go_sem]<;>omega)|(simp [go_sem,nx]<;>omega)) (by first|omega|(simp [go_sem]<;>omega)|(simp [go_sem,nx]<;>omega)) (by simp [go_sem,nx]<;>omega) (by simp [go_sem,nx]<;>omega) (fun j hj=>by simp [go_sem,b5 hj]) (by first|omega|(simp [go_sem]<;>omega)|(simp [go_sem,nx]<;>omega))
theorem Hn (g:Graph)(hn:g.nodes.length≤100000)(he:g.edges.length≤100000)(p q:List Int)(hp:mJ g.nodes.length p)(hq:mJ g.edges.length q):Pure Tryz.prog 96 [g.d,Part.d ⟨p,q⟩] (.tup [(wH g p q).d,dI (graphF g)]):=by
 obtain ⟨hp1,hp2,hp3⟩:=hp
 obtain ⟨hq1,hq2,hq3⟩:=hq
 refine Tz.pK ⟨fun t=>t==4||t==9||t==12,fun _=>[]⟩ Tryz.func96 rfl (fun Q hQ=>?_)
 try simp [go_sem,seval,hp1,hq1]
 refine aB (kX g) ((by first|rfl|(simp [go_sem,← List.map_take,← List.map_drop,hp1,hq1];done))) ?_
 try simp [go_sem,seval,hp1,hq1]
 refine aK (fun h2=>?_) (fun h2=>?_)
 ·try simp [go_sem] at h2
  try simp [go_sem,seval,hp1,hq1]
  exact hQ _ _ (by first|(left;(simp [go_sem,wH,h2]);done)|(right;(simp [go_sem,wH,h2]);done))
 ·try simp [go_sem] at h2
  try simp [go_sem,seval,hp1,hq1]
  repeat first|intro _|refine ⟨dQ,?_⟩
  refine aB (rL p (by rw [hp1];exact hp2) hp3) ((by first|rfl|(simp [go_sem,← List.map_take,← List.map_drop,hp1,hq1];done))) ?_
  try simp [go_sem,seval,hp1,hq1]
  repeat first|intro _|refine ⟨dQ,?_⟩
  refine aB (rL q (by rw [hq1];exact hq2) hq3) ((by first|rfl|(simp [go_sem,← List.map_take,← List.map_drop,hp1,hq1];done))) ?_
  try simp [go_sem,seval,hp1,hq1]
  repeat first|intro _|refine ⟨dQ,?_⟩
  unfold gU;refine sL g hn he _ _ (fun a b H1 ha hb hab han hbn hga hgb hfr hnn=>?_)
  have h0n:(0:Nat)<H1.next:=by omega
  have ha0:a≠0:=by simp [go_sem] at ha;omega
  have hb0:b≠0:=by simp [go_sem] at hb;omega
  have hg0:=hfr 0 (by simp [go_sem])
  simp [go_sem] at hg0
  have nx:=Ph H1.next
  have fr1:=And.intro (b5 (show a<H1.next by omega)) (And.intro (b5 (show b<H1.next by omega)) (b5 (show 0<H1.next by omega)))
  have di2:=And.intro (cY (show 0≠b by omega)) (And.intro (cY (show 0≠a by omega)) (cY (show b≠a by omega)))
  try simp [go_sem,seval,hp1,hq1,fr1,di2,hga,hgb,hg0,nx]
  repeat first|intro _|refine ⟨dQ,?_⟩
  obtain ⟨I0,hI0⟩:∃ I0:Nat→cX→AHeap→Prop,∀ (i:Nat) (e:cX) (H:AHeap),I0 i e H↔(∃ c:Nat,(e 2=.adr g.c)∧(e 3=.adr [dLI p,dLI q])∧(e 4=.ptr 0 1 0 0)∧(e 9=.ptr c 1 0 0)∧(e 10=dI i)∧(H.get 0=some ⟨37,2,[[.nil,.nil]],false⟩)∧(0<H.next)∧(H.get c=some ⟨37,2,[[.own a g.nodes.length,.own b g.edges.length]],false⟩)∧(c<H.next)∧(H.get a=some ⟨3,1,(Cr p g.nodes i).map cI,false⟩)∧(a<H.next)∧(H.get b=some ⟨101,3,g.edges.map Edge.c,false⟩)∧(b<H.next)∧(i≤g.nodes.length)∧(a<c∧b<c)∧((Cr p g.nodes i).length=g.nodes.length)):=⟨fun i e H=>_,fun _ _ _=>Iff.rfl⟩
  refine k6 I0 (fun i=>g.nodes.length - i) (0) ((hI0 _ _ _).2 ⟨(H1.next),?_,?_,?_,?_,?_,?_,?_,?_,?_,(by (simp [go_sem,hp1,hq1,fr1,di2,hga,hgb,hg0,nx,Cr])),?_,?_,?_,(by first|assumption|omega|(simp [go_sem,hp1,hq1,fr1,di2,hga,hgb,hg0,nx];done)|(simp_all;done)),(by omega),(by (exact tF _ _ _))⟩) ?_
  iterate 12 (first|omega|(simp [go_sem,seval,hp1,hq1,fr1,di2,hga,hgb,hg0,nx]<;>omega))
  intro i e H hi0
  obtain ⟨c,q2_0,q3_0,q4_0,q9_0,q10_0,g0_0,n0_0,gc_0,nc_0,ga_0,na_0,gb_0,nb_0,hi,hc,hrl⟩:=(hI0 _ _ _).1 hi0
  have x0:=b5 n0_0
  have xc:=b5 nc_0
  have xa:=b5 na_0
  have xb:=b5 nb_0
  have F0:=And.intro q2_0 (And.intro q3_0 (And.intro q4_0 (And.intro q9_0 (And.intro q10_0 (And.intro g0_0 (And.intro gc_0 (And.intro ga_0 (And.intro gb_0 (And.intro x0 (And.intro xc (And.intro xa xb)))))))))))
  have di3:=And.intro (cY (show 0≠c by omega)) (And.intro (cY (show 0≠b by omega)) (And.intro (cY (show 0≠a by omega)) (And.intro (cY (show c≠b by omega)) (And.intro (cY (show c≠a by omega)) (cY (show b≠a by omega))))))
  try simp [go_sem,seval,hp1,hq1,fr1,di2,hga,hgb,hg0,nx,F0,hrl,di3]
  repeat first|intro _|refine ⟨dQ,?_⟩
  refine aK (fun h14=>?_) (fun h14=>?_)
  ·try simp [go_sem] at h14
   have hip:i<p.length:=by omega
   have hpi:=hp2 _ (aC hip)
   have hpd:p[i]?.getD 0=p[i]:=by rw [aA hip];rfl
   have hxd:g.nodes[i]?.getD 0=g.nodes[i]:=by rw [aA h14];rfl
   have hpl:p[i].toNat<(Cr p g.nodes i).length:=by rw [hrl];omega
   try simp [go_sem,seval,hp1,hq1,fr1,di2,hga,hgb,hg0,nx,F0,hrl,di3,h14,aA h14,aA hip,aA hpl,hrl]
   repeat first|intro _|refine ⟨dQ,?_⟩
   refine cT (i+1) (by omega) ((hI0 _ _ _).2 ⟨(c),?_,?_,?_,?_,?_,?_,?_,?_,?_,(by (simp [go_sem,hp1,hq1,fr1,di2,hga,hgb,hg0,nx,F0,hrl,di3,h14,aA h14,aA hip,aA hpl,hrl,Cq,dR,hpd,hxd])),?_,?_,?_,(by first|assumption|omega|(simp [go_sem,hp1,hq1,fr1,di2,hga,hgb,hg0,nx,F0,hrl,di3,h14,aA h14,aA hip,aA hpl,hrl,h2];done)|(simp_all<;>omega)),(by omega),(by (exact tF _ _ _))⟩)<;>first|omega|(simp [go_sem,seval,hp1,hq1,fr1,di2,hga,hgb,hg0,nx,F0,hrl,di3,h14,aA h14,aA hip,aA hpl,hrl]<;>omega)
  ·try simp [go_sem] at h14
   have hI:i=g.nodes.length:=by omega
   rw [hI] at hrl
   try simp [go_sem,seval,hp1,hq1,fr1,di2,hga,hgb,hg0,nx,F0,hrl,di3]
   obtain ⟨I2,hI2⟩:∃ I2:Nat→cX→AHeap→Prop,∀ (k:Nat) (e:cX) (H:AHeap),I2 k e H↔((e 2=.adr g.c)∧(e 3=.adr [dLI p,dLI q])∧(e 4=.ptr 0 1 0 0)∧(e 9=.ptr c 1 0 0)∧(e 11=dI k)∧(H.get 0=some ⟨37,2,[[.nil,.nil]],false⟩)∧(0<H.next)∧(H.get c=some ⟨37,2,[[.own a g.nodes.length,.own b g.edges.length]],false⟩)∧(c<H.next)∧(H.get a=some ⟨3,1,(Cr p g.nodes g.nodes.length).map cI,false⟩)∧(a<H.next)∧(H.get b=some ⟨101,3,(D6 p q g.edges k).map Edge.c,false⟩)∧(b<H.next)∧(k≤g.edges.length)∧((D6 p q g.edges k).length=g.edges.length)):=⟨fun k e H=>_,fun _ _ _=>Iff.rfl⟩
   refine k6 I2 (fun k=>g.edges.length - k) (0) ((hI2 _ _ _).2 ⟨?_,?_,?_,?_,?_,?_,?_,?_,?_,(by (simp [go_sem,hp1,hq1,fr1,di2,hga,hgb,hg0,nx,F0,hrl,di3,← hI])),?_,(by (simp [go_sem,hp1,hq1,fr1,di2,hga,hgb,hg0,nx,F0,hrl,di3,D6])),?_,(by first|assumption|omega|(simp [go_sem,hp1,hq1,fr1,di2,hga,hgb,hg0,nx,F0,hrl,di3];done)|(simp_all;done)),(by (exact tG _ _ _ _))⟩) ?_
   iterate 11 (first|omega|(simp [go_sem,seval,hp1,hq1,fr1,di2,hga,hgb,hg0,nx,F0,hrl,di3]<;>omega))
   intro k e H hi2
   obtain ⟨q2_2,q3_2,q4_2,q9_2,q11_2,g0_2,n0_2,gc_2,nc_2,ga_2,na_2,gb_2,nb_2,hk,hel⟩:=(hI2 _ _ _).1 hi2
   have x0:=b5 n0_2
   have xc:=b5 nc_2
   have xa:=b5 na_2
   have xb:=b5 nb_2
   have F2:=And.intro q2_2 (And.intro q3_2 (And.intro q4_2 (And.intro q9_2 (And.intro q11_2 (And.intro g0_2 (And.intro gc_2 (And.intro ga_2 (And.intro gb_2 (And.intro x0 (And.intro xc (And.intro xa xb)))))))))))
   have di4:=And.intro (cY (show 0≠c by omega)) (And.intro (cY (show 0≠b by omega)) (And.intro (cY (show 0≠a by omega)) (And.intro (cY (show c≠b by omega)) (And.intro (cY (show c≠a by omega)) (cY (show b≠a by omega))))))
   try simp [go_sem,seval,hp1,hq1,fr1,di2,hga,hgb,hg0,nx,hrl,di3,F2,hel,di4]
   repeat first|intro _|refine ⟨dQ,?_⟩
   refine aK (fun h18=>?_) (fun h18=>?_)
   ·try simp [go_sem] at h18
    have hkq:k<q.length:=by omega
    have hqk:=hq2 _ (aC hkq)
    have hg:=dL h2
    have hE:=hg.2 _ (aC h18)
    have hfp:g.edges[k].from_.toNat<p.length:=by omega
    have htp:g.edges[k].to_.toNat<p.length:=by omega
    have hqd:q[k]?.getD 0=q[k]:=by rw [aA hkq];rfl
    have hxd:g.edges[k]?.getD ⟨0,0,0⟩=g.edges[k]:=by rw [aA h18];rfl
    have hXX:Ld p g.edges[k]=⟨g.edges[k].type,p[g.edges[k].from_.toNat],p[g.edges[k].to_.toNat]⟩:=by unfold Ld;rw [aA hfp,aA htp];rfl
    have hql:q[k].toNat<(D6 p q g.edges k).length:=by rw [hel];omega
    have nx:=Ph H.next
    try simp [go_sem,seval,hp1,hq1,fr1,di2,hga,hgb,hg0,nx,hrl,di3,F2,hel,di4,h18,aA h18,aA hkq,aA hql,aA hfp,aA htp,nx,hel]
    repeat first|intro _|refine ⟨dQ,?_⟩
    refine cT (k+1) (by omega) ((hI2 _ _ _).2 ⟨?_,?_,?_,?_,?_,?_,?_,?_,?_,(by (simp [go_sem,hp1,hq1,fr1,di2,hga,hgb,hg0,nx,hrl,di3,F2,hel,di4,h18,aA h18,aA hkq,aA hql,aA hfp,aA htp,nx,hel])),?_,(by (simp [go_sem,hp1,hq1,fr1,di2,hga,hgb,hg0,nx,hrl,di3,F2,hel,di4,h18,aA h18,aA hkq,aA hql,aA hfp,aA htp,nx,hel,Cs,dR,hqd,hxd,hXX,Edge.c])),?_,(by first|assumption|omega|(simp [go_sem,hp1,hq1,fr1,di2,hga,hgb,hg0,nx,hrl,di3,F2,hel,di4,h18,aA h18,aA hkq,aA hql,aA hfp,aA htp,nx,hel,h2,h14];done)|(simp_all<;>omega)),(by (exact tG _ _ _ _))⟩)<;>first|omega|(simp [go_sem,seval,hp1,hq1,fr1,di2,hga,hgb,hg0,nx,hrl,di3,F2,hel,di4,h18,aA h18,aA hkq,aA hql,aA hfp,aA htp,nx,hel]<;>omega)
   ·try simp [go_sem] at h18
    have hK:k=g.edges.length:=by omega
    rw [hK] at hel
    try simp [go_sem,seval,hp1,hq1,fr1,di2,hga,hgb,hg0,nx,hrl,di3,F2,hel,di4]
    exact hQ _ _ (by first|(left;(simp [go_sem,hp1,hq1,fr1,di2,hga,hgb,hg0,nx,hrl,di3,F2,hel,di4,wH,h2,hK]);done)|(right;(simp [go_sem,hp1,hq1,fr1,di2,hga,hgb,hg0,nx,hrl,di3,F2,hel,di4,wH,h2,hK]);done))
def remF (a b:Int):Int:=(a.tmod b+b).tmod b
theorem AR (a:Int){b:Int}(hb:0<b) : -b<a.tmod b∧a.tmod b<b:=by
 refine ⟨?_,Int.tmod_lt_of_pos _ hb⟩
 rcases Int.le_total 0 a with h|h
 ·have:=Int.tmod_nonneg b h;omega
 ·have h1:(-a).tmod b = -(a.tmod b):=Int.neg_tmod _ _
  have:=Int.tmod_lt_of_pos (-a) hb
  omega
theorem yK (a:Int){b:Int}(hb:0<b):0≤remF a b∧remF a b<b:=by
 have:=AR a hb
 exact b4 (by omega) hb
theorem o5 (a b:Int)(hb:0<b∧b≤1000000):Pure Tryz.prog 339 [dI a,dI b] (dI (remF a b)):=by
 have hb1:=AR a hb.1
 have hb0:b≠0:=by omega
 refine Tz.pK ⟨fun _=>false,fun _=>[]⟩ Tryz.func339 rfl (fun Q hQ=>?_)
 have Y:=hb0
 have Y:=wa Y @remF.eq_1
 exact wo (h:=hQ _ _ wy)
abbrev T4:=Int8 × Int8 × Int8 × Int8
def cT4 (x:T4):List D:=[.int .i8 x.1.toInt,.int .i8 x.2.1.toInt,.int .i8 x.2.2.1.toInt,.int .i8 x.2.2.2.toInt]
@[go_sem] theorem PC (l:List T4):D.clLL (l.map cT4)=true:=c4 _ (fun _=>rfl) l
theorem Pm (x:Int8) : -128≤x.toInt∧x.toInt≤127:=by
 have h1:=x.le_toInt
 have h2:=x.toInt_lt
 omega
def made3 (v:Int)(x:T4):Test:=⟨1+(remF x.1.toInt 4).tdiv 3,⟨remF x.2.1.toInt (v+1) - 1,0⟩,⟨remF x.2.2.1.toInt (v+1) - 1,x.2.2.2.toInt.tmod 12⟩⟩
theorem NQ (v:Int)(hv:0≤v∧v≤1000)(x:T4):Pure Tryz.prog 248 [dI v,.agg (cT4 x)] (.agg (made3 v x).c):=by
 have h0:=Pm x.1
 have h1:=Pm x.2.1
 have h2:=Pm x.2.2.1
 have h3:=Pm x.2.2.2
 have r1:=yK x.1.toInt (show (0:Int)<4 by omega)
 have r2:=yK x.2.1.toInt (show 0<v+1 by omega)
 have r3:=yK x.2.2.1.toInt (show 0<v+1 by omega)
 have r4:=AR x.2.2.2.toInt (show (0:Int)<12 by omega)
 have r5:=SK r1.1 (show (0:Int)<3 by omega)
 refine Tz.pK ⟨fun t=>t==4,fun _=>[]⟩ Tryz.func248 rfl (fun Q hQ=>?_)
 have Y:=@cT4.eq_1
 refine wo (h:=aB (o5 x.1.toInt 4 (by omega)) wl ?_)
 refine wo (h:=aQ (o5 x.2.1.toInt (v+1) (by omega)) wl ?_)
 refine wo (h:=aQ (o5 x.2.2.1.toInt (v+1) (by omega)) wl ?_)
 have Y:=wa Y (wa @made3.eq_1 @Test.c.eq_1)
 exact wo (h:=hQ _ _ wy)
def sR (g:Graph)(nb eb:List Bool)(k:Nat):List Bool:=(List.range k).foldl (fun acc i=>if eb[i]?.getD false=true then (acc.set (g.edges[i]?.getD ⟨0,0,0⟩).from_.toNat true).set (g.edges[i]?.getD ⟨0,0,0⟩).to_.toNat true else acc) nb
theorem nY (g:Graph)(nb eb:List Bool)(k:Nat):sR g nb eb (k+1)=if eb[k]?.getD false=true then ((sR g nb eb k).set (g.edges[k]?.getD ⟨0,0,0⟩).from_.toNat true).set (g.edges[k]?.getD ⟨0,0,0⟩).to_.toNat true else sR g nb eb k:=by
 simp only [sR,bJ,jU,AO,List.foldl_nil]
theorem qM (g:Graph)(nb eb:List Bool):∀ k,(sR g nb eb k).length=nb.length
 | 0=>rfl
 | k+1=>by
  rw [nY];split
  ·rw [dV,dV,qM g nb eb k]
  ·exact qM g nb eb k
def Graph.ends (g:Graph):Prop:=∀ x∈g.edges,(0≤x.from_∧x.from_<g.nodes.length)∧0≤x.to_∧x.to_<g.nodes.length
theorem Lv (g:Graph)(hn:g.nodes.length≤100000)(he:g.edges.length≤100000)(hin:g.ends)(nb eb:List Bool)(hnb:nb.length=g.nodes.length)(heb:eb.length=g.edges.length) :
  Pure Tryz.prog 76 [g.d,.list (nb.map cB),.list (eb.map cB)] (Part.d ⟨vT (sR g nb eb g.edges.length),vT eb⟩):=by
 refine Tz.pK ⟨fun t=>t==6||t==9,fun _=>[]⟩ Tryz.func76 rfl (fun Q hQ=>?_)
 have hcb:(∀ c∈nb.map cB,c.length=1)=True:=eq_true (by intro c hc;rw [aT] at hc;obtain ⟨b,_,rfl⟩:=hc;rfl)
 have Y:=wa hnb heb
 try simp [go_sem,seval,Y,↓hcb]
 repeat first|intro _|refine ⟨dQ,?_⟩
 refine bP (fun i e H=>(e 3=.adr g.c∧e 2=.list (eb.map cB)∧e 6=.ptr 0 1 0 0∧e 7=.own 1 g.nodes.length∧e 8=dI i)∧(H.get 0=some ⟨55,2,[[.nil,.nil]],false⟩)∧(0<H.next)∧(H.get 1=some ⟨4,1,(sR g nb eb i).map cB,false⟩)∧(1<H.next)∧(i≤g.edges.length)∧((sR g nb eb i).length=g.nodes.length)) (fun i=>g.edges.length - i) 0 ⟨(by and_intros<;>first|omega|(simp [go_sem,seval,Y,↓hcb]<;>omega)),((by first|omega|(simp [go_sem,seval,Y,↓hcb]<;>omega))),((by first|omega|(simp [go_sem,seval,Y,↓hcb]<;>omega))),(by (simp [go_sem,sR])),((by first|omega|(simp [go_sem,seval,Y,↓hcb]<;>omega))),(by first|assumption|omega|(simp [go_sem,Y,↓hcb];done)|(simp_all;done)),(by (rw [qM];exact hnb))⟩ fun I0 hI0 i e H hi0=>?_
 obtain ⟨E0,g0_0,n0_0,g1_0,n1_0,hi,hl⟩:=hi0
 have Y:=wa Y (wa E0 (wa g0_0 (wa (b5 n0_0) (wa g1_0 (wa (b5 n1_0) hl)))))
 try simp [go_sem,seval,Y,↓hcb]
 repeat first|intro _|refine ⟨dQ,?_⟩
 refine wq (fun h3=>?_) fun h3=>?_
 ·have hib:i<eb.length:=by omega
  have hbd:eb[i]?.getD false=eb[i]:=by rw [aA hib];rfl
  have hx:=hin _ (aC h3)
  have hxd:g.edges[i]?.getD ⟨0,0,0⟩=g.edges[i]:=by rw [aA h3];rfl
  have hf:g.edges[i].from_.toNat<(sR g nb eb i).length:=by rw [hl];omega
  have ht:g.edges[i].to_.toNat<(sR g nb eb i).length:=by rw [hl];omega
  obtain ⟨z,hz⟩:∃ z,(((sR g nb eb i).map cB).set g.edges[i].from_.toNat [D.bool true])[g.edges[i].to_.toNat]?=some [z]:=by
   rw [cO]
   by_cases hft:g.edges[i].from_.toNat=g.edges[i].to_.toNat
   ·rw [if_pos hft,if_pos (by rw [bA];exact hf)];exact ⟨_,rfl⟩
   ·rw [if_neg hft,aM,aA ht];exact ⟨_,rfl⟩
  have Y:=wa Y (wa h3 (wa (aA h3) (wa (aA hib) (wa (aA hf) (wa (aA ht) (wa hxd hz))))))
  try simp [go_sem,seval,Y,↓hcb]
  repeat first|intro _|refine ⟨dQ,?_⟩
  refine wq (fun h5=>?_) fun h5=>?_
  ·have Y:=wa Y h5
   try simp [go_sem,seval,Y,↓hcb]
   repeat first|intro _|refine ⟨dQ,?_⟩
   exact wx hI0 (i+1) ⟨(by and_intros<;>first|omega|(simp [go_sem,seval,Y,↓hcb]<;>omega)),((by first|omega|(simp [go_sem,seval,Y,↓hcb]<;>omega))),((by first|omega|(simp [go_sem,seval,Y,↓hcb]<;>omega))),(by (simp [go_sem,Y,↓hcb,nY,hbd])),((by first|omega|(simp [go_sem,seval,Y,↓hcb]<;>omega))),(by first|assumption|omega|(simp [go_sem,Y,↓hcb];done)|(simp_all<;>omega)),(by (rw [qM];exact hnb))⟩
  ·have Y:=wa Y h5
   try simp [go_sem,seval,Y,↓hcb]
   repeat first|intro _|refine ⟨dQ,?_⟩
   exact wx hI0 (i+1) ⟨(by and_intros<;>first|omega|(simp [go_sem,seval,Y,↓hcb]<;>omega)),((by first|omega|(simp [go_sem,seval,Y,↓hcb]<;>omega))),((by first|omega|(simp [go_sem,seval,Y,↓hcb]<;>omega))),(by (simp [go_sem,Y,↓hcb,nY,hbd])),((by first|omega|(simp [go_sem,seval,Y,↓hcb]<;>omega))),(by first|assumption|omega|(simp [go_sem,Y,↓hcb];done)|(simp_all<;>omega)),(by (rw [qM];exact hnb))⟩
 ·have hI:i=g.edges.length:=by omega
  subst hI
  try simp [go_sem,seval,Y,↓hcb]
  refine DT (A7 (sR g nb eb g.edges.length) (by rw [qM];omega)) (by (simp [go_sem,Y,↓hcb])<;>rfl) (by first|rfl|(simp [go_sem,← List.map_take,← List.map_drop,Y,↓hcb];done)) (by (simp [go_sem,Y,↓hcb])<;>rfl) ?_
  try simp [go_sem,seval,Y,↓hcb]
  refine aB (A7 eb (by omega)) (by first|rfl|(simp [go_sem,← List.map_take,← List.map_drop,Y,↓hcb];done)) ?_
  try simp [go_sem,seval,Y,↓hcb]
  have Y:=wa Y h3
  exact hQ _ _ (by simp [go_sem,Y,↓hcb]<;>first|omega|(rw [aS];simp<;>omega)|(simp_all<;>omega))
def QU (k:UInt64)(i:Nat):Bool:=(k.toNat:Int).fdiv (2 ^ (min ((i:Int).tmod 64).toNat 64)) % 2==1
def sS (k:UInt64)(off n:Nat):List Bool:=(List.range n).map fun j=>QU k (off+j)
def zJ (k:UInt64)(off n i:Nat):List Bool:=(List.range n).map fun j=>decide (j<i)&&QU k (off+j)
theorem IR (k:UInt64)(off n:Nat):zJ k off n 0=List.replicate n false:=by
 unfold zJ;apply eR;intro j
 rw [aM,mL]
 by_cases h:j<n
 ·rw [eM h,if_pos h];simp
 ·rw [bL (by simpa using h),if_neg h];rfl
theorem x7 (k:UInt64)(off n i:Nat):(zJ k off n i).length=n:=by simp [zJ]
theorem MM (k:UInt64)(off n:Nat):zJ k off n n=sS k off n:=by
 unfold zJ sS
 exact bY fun j hj=>by simp [bK.1 hj]
theorem ML {k:UInt64}{off n i:Nat}(h:i<n):(zJ k off n i).set i (QU k (off+i))=zJ k off n (i+1):=by
 apply eR;intro j
 rw [cO,x7]
 by_cases hj:i=j
 ·subst hj;simp [h,zJ,eM h]
 ·rw [if_neg hj]
  simp only [zJ,aM]
  by_cases hn:j<n
  ·rw [eM hn];simp only [cZ]
   rw [show decide (j<i+1)=decide (j<i) by rw [decide_eq_decide];omega]
  ·rw [bL (by simpa using hn)];rfl
def oV (g:Graph)(k:UInt64):Part:=⟨vT (sR g (sS k 0 g.nodes.length) (sS k g.nodes.length g.edges.length) g.edges.length),vT (sS k g.nodes.length g.edges.length)⟩
theorem Fk (g:Graph)(hn:g.nodes.length≤100000)(he:g.edges.length≤100000)(hin:g.ends)(k:UInt64):Pure Tryz.prog 28 [g.d,.int .u64 (k.toNat:Int)] (Part.d (oV g k)):=by
 refine Tz.pK ⟨fun t=>t==4||t==12||t==16,fun r=>match r with|1=>[(3,4),(3,5),(3,6),(0,7),(1,7),(2,7),(3,7)]|_=>[]⟩ Tryz.func28 rfl (fun Q hQ=>?_)
 try simp [go_sem,seval]
 repeat first|intro _|refine ⟨dQ,?_⟩
 obtain ⟨I0,hI0⟩:∃ I0:Nat→cX→AHeap→Prop,∀ (i:Nat) (e:cX) (H:AHeap),I0 i e H↔((e 2=.adr g.c)∧(e 1=.int .u64 (k.toNat:Int))∧(e 4=.ptr 0 1 0 0)∧(e 5=.own 4 g.nodes.length)∧(e 6=.own 8 g.edges.length)∧(e 7=dI i)∧(H.get 0=some ⟨55,2,[[.nil,.nil]],false⟩)∧(0<H.next)∧(H.get 4=some ⟨4,1,(zJ k 0 g.nodes.length i).map cB,false⟩)∧(4<H.next)∧(H.get 8=some ⟨4,1,(List.replicate g.edges.length false).map cB,false⟩)∧(8<H.next)∧(i≤g.nodes.length)∧((zJ k 0 g.nodes.length i).length=g.nodes.length)):=⟨fun i e H=>_,fun _ _ _=>Iff.rfl⟩
 refine k6 I0 (fun i=>g.nodes.length - i) (0) ((hI0 _ _ _).2 ⟨?_,?_,?_,?_,?_,?_,?_,?_,(by (simp [go_sem,IR,cB])),?_,(by (simp [go_sem,cB])),?_,(by first|assumption|omega|(simp [go_sem];done)|(simp_all;done)),(by (exact x7 _ _ _ _))⟩) ?_
 iterate 10 (first|omega|(simp [go_sem,seval]<;>omega))
 intro i e H hi0
 obtain ⟨q2_0,q1_0,q4_0,q5_0,q6_0,q7_0,g0_0,n0_0,g4_0,n4_0,g8_0,n8_0,hi,hl⟩:=(hI0 _ _ _).1 hi0
 have x0:=b5 n0_0
 have x4:=b5 n4_0
 have x8:=b5 n8_0
 have F0:=And.intro q2_0 (And.intro q1_0 (And.intro q4_0 (And.intro q5_0 (And.intro q6_0 (And.intro q7_0 (And.intro g0_0 (And.intro g4_0 (And.intro g8_0 (And.intro x0 (And.intro x4 x8))))))))))
 try simp [go_sem,seval,F0,hl]
 repeat first|intro _|refine ⟨dQ,?_⟩
 refine aK (fun h3=>?_) (fun h3=>?_)
 ·try simp [go_sem] at h3
  have tm:=b4 (show 0≤(i:Int) by omega) (show (0:Int)<64 by omega)
  have hil:i<(zJ k 0 g.nodes.length i).length:=by rw [hl];exact h3
  try simp [go_sem,seval,F0,hl,h3,aA hil,h3]
  repeat first|intro _|refine ⟨dQ,?_⟩
  refine cT (i+1) (by omega) ((hI0 _ _ _).2 ⟨?_,?_,?_,?_,?_,?_,?_,?_,(by (simp [go_sem,F0,hl,h3,aA hil,h3,← ML h3,dR,QU,cB])),?_,(by (simp [go_sem,F0,hl,h3,aA hil,h3])),?_,(by first|assumption|omega|(simp [go_sem,F0,hl,h3,aA hil,h3];done)|(simp_all<;>omega)),(by (exact x7 _ _ _ _))⟩)<;>first|omega|(simp [go_sem,seval,F0,hl,h3,aA hil,h3]<;>omega)
 ·try simp [go_sem] at h3
  have hI:i=g.nodes.length:=by omega
  subst hI
  have hN:=MM k 0 g.nodes.length
  rw [hN] at hl
  try simp [go_sem,seval,F0,hl,hN]
  obtain ⟨I2,hI2⟩:∃ I2:Nat→cX→AHeap→Prop,∀ (j:Nat) (e:cX) (H:AHeap),I2 j e H↔((e 2=.adr g.c)∧(e 1=.int .u64 (k.toNat:Int))∧(e 4=.ptr 0 1 0 0)∧(e 5=.own 4 g.nodes.length)∧(e 6=.own 8 g.edges.length)∧(e 8=dI j)∧(H.get 0=some ⟨55,2,[[.nil,.nil]],false⟩)∧(0<H.next)∧(H.get 4=some ⟨4,1,(sS k 0 g.nodes.length).map cB,false⟩)∧(4<H.next)∧(H.get 8=some ⟨4,1,(zJ k g.nodes.length g.edges.length j).map cB,false⟩)∧(8<H.next)∧(j≤g.edges.length)∧((zJ k g.nodes.length g.edges.length j).length=g.edges.length)):=⟨fun j e H=>_,fun _ _ _=>Iff.rfl⟩
  refine k6 I2 (fun j=>g.edges.length - j) (0) ((hI2 _ _ _).2 ⟨?_,?_,?_,?_,?_,?_,?_,?_,(by (simp [go_sem,F0,hl,hN])),?_,(by (simp [go_sem,F0,hl,hN,IR])),?_,(by first|assumption|omega|(simp [go_sem,F0,hl,hN];done)|(simp_all;done)),(by (exact x7 _ _ _ _))⟩) ?_
  iterate 10 (first|omega|(simp [go_sem,seval,F0,hl,hN]<;>omega))
  intro j e H hi2
  obtain ⟨q2_2,q1_2,q4_2,q5_2,q6_2,q8_2,g0_2,n0_2,g4_2,n4_2,g8_2,n8_2,hj,hm⟩:=(hI2 _ _ _).1 hi2
  have x0:=b5 n0_2
  have x4:=b5 n4_2
  have x8:=b5 n8_2
  have F2:=And.intro q2_2 (And.intro q1_2 (And.intro q4_2 (And.intro q5_2 (And.intro q6_2 (And.intro q8_2 (And.intro g0_2 (And.intro g4_2 (And.intro g8_2 (And.intro x0 (And.intro x4 x8))))))))))
  try simp [go_sem,seval,hl,hN,F2,hm]
  repeat first|intro _|refine ⟨dQ,?_⟩
  refine aK (fun h7=>?_) (fun h7=>?_)
  ·try simp [go_sem] at h7
   have tm:=b4 (show 0≤(g.nodes.length:Int)+(j:Int) by omega) (show (0:Int)<64 by omega)
   have hjl:j<(zJ k g.nodes.length g.edges.length j).length:=by rw [hm];exact h7
   try simp [go_sem,seval,hl,hN,F2,hm,h7,aA hjl,h7]
   repeat first|intro _|refine ⟨dQ,?_⟩
   refine cT (j+1) (by omega) ((hI2 _ _ _).2 ⟨?_,?_,?_,?_,?_,?_,?_,?_,(by (simp [go_sem,hl,hN,F2,hm,h7,aA hjl,h7])),?_,(by (simp [go_sem,hl,hN,F2,hm,h7,aA hjl,h7,← ML h7,dR,QU,cB])),?_,(by first|assumption|omega|(simp [go_sem,hl,hN,F2,hm,h7,aA hjl,h7,h3];done)|(simp_all<;>omega)),(by (exact x7 _ _ _ _))⟩)<;>first|omega|(simp [go_sem,seval,hl,hN,F2,hm,h7,aA hjl,h7]<;>omega)
  ·try simp [go_sem] at h7
   have hJ:j=g.edges.length:=by omega
   subst hJ
   have hE:=MM k g.nodes.length g.edges.length
   rw [hE] at hm
   try simp [go_sem,seval,hl,hN,F2,hm,hE]
   refine DT (Lv g hn he hin (sS k 0 g.nodes.length) (sS k g.nodes.length g.edges.length) (by simp [sS]) (by simp [sS])) (by (simp [go_sem,hl,hN,F2,hm,hE])<;>rfl) ((by first|rfl|(simp [go_sem,← List.map_take,← List.map_drop,hl,hN,F2,hm,hE];done))) (by (simp [go_sem,hl,hN,F2,hm,hE])<;>rfl) ?_
   try simp [go_sem,seval,hl,hN,F2,hm,hE]
   exact hQ _ _ (by first|(left;(simp [go_sem,hl,hN,F2,hm,hE,oV]);done)|(right;(simp [go_sem,hl,hN,F2,hm,hE,oV]);done))
def C6 (t:Types)(ns:List Int)(k:Int)(i:Nat):Bool:=mem (t.line (ns[i]?.getD 0).toNat) k
def sV (t:Types)(ns:List Int)(k:Int):List Int:=((List.range ns.length).filter (C6 t ns k)).map fun (i:Nat)=>(i:Int)
theorem Do (t:Types)(hv:t.valid)(g:Graph)(hn:g.nodes.length≤100000)(hgn:∀ a∈g.nodes,0≤a∧a<t.nodes.length)(k:Int)(hk:0≤k):Own Tryz.prog 338 [t.d,g.d,dI k] 3 1 ((sV t g.nodes k).map cI):=by
 refine Tz.oK ⟨fun t=>t==7,fun _=>[]⟩ Tryz.func338 rfl (fun Q hQ=>?_)
 have Y:=trivial
 refine wv (h:=bP (fun i e H=>∃ ys:List Int,(e 3=.adr t.c∧e 4=.adr g.c∧e 2=dI k∧e 7=.own 0 ys.length∧e 8=dI i)∧(H.get 0=some ⟨3,1,ys.map cI,false⟩)∧(0<H.next)∧(i≤g.nodes.length)∧(ys.length≤i)∧(ys=((List.range i).filter (C6 t g.nodes k)).map (fun (b:Nat)=>(b:Int)))) (fun i=>g.nodes.length - i) 0 ⟨([]),wg,wn,wn,wi,(by simp),(by rfl)⟩ fun I0 hI0 i e H hi0=>?_)
 obtain ⟨ys,E0,g0_0,n0_0,hi,hyl,hy⟩:=hi0
 have Y:=wa Y (wa E0 (wa g0_0 (b5 n0_0)))
 refine fJ (fun h3=>?_) fun h3=>?_
 ·have hx:=hgn _ (aC h3)
  have hnn:((g.nodes[i].toNat:Nat):Int)=g.nodes[i]:=by omega
  have hab:C6 t g.nodes k i=mem (t.line g.nodes[i].toNat) k:=by simp [C6,aA h3]
  have Y:=wa Y (wa h3 (wa (aA h3) hab))
  refine wo (h:=aQ ((by have hb:=uT t hv k hk g.nodes[i].toNat (by omega);rw [hnn] at hb;exact hb)) wl ?_)
  refine fJ (fun h5=>?_) fun h5=>?_
  ·have Y:=wa Y h5
   exact wo (h:=wx hI0 (i+1) ⟨(ys++(if C6 t g.nodes k i=true then [(i:Int)] else [])),wg,wn,wn,wj,(by (rw [aI];split<;>simp<;>omega)),(by (rw [cJ,← hy]))⟩)
  ·have Y:=wa Y h5
   exact wo (h:=wx hI0 (i+1) ⟨(ys++(if C6 t g.nodes k i=true then [(i:Int)] else [])),wg,wn,wn,wj,(by (rw [aI];split<;>simp<;>omega)),(by (rw [cJ,← hy]))⟩)
 ·have hY:sV t g.nodes k=ys:=by rw [hy,show i=g.nodes.length by omega];rfl
  refine wv (h:=?_)
  exact hQ _ _ _ (by simp [go_sem,Y,hY]) (by simp [go_sem,Y,hY])
def Attr.good (x:Attr):Prop:=x.low≤x.high∧-1000≤x.low∧x.high≤1000
theorem vA (b:ByteArray)(i j:Nat):(b.extract i j).size≤b.size:=by rw [ByteArray.size_extract];omega
theorem rY (i:Nat)(x:B2):(kZ i x).attrs.length≤1∧∀ a∈(kZ i x).attrs,a.good∧a.ok:=by
 have hu:=iX x.2
 have hm:=b4 (show 0≤(x.2.toNat:Int) / 4 by omega) (show (0:Int)<9 by omega)
 have hs:=vA tyU i (i+1)
 have hs2:tyU.size=6:=rfl
 unfold kZ
 by_cases h1:(x.2.toNat:Int).tmod 4=1
 ·simp only [h1,if_true]
  refine ⟨by simp,fun a ha=>?_⟩
  simp only [aV] at ha
  subst ha
  exact ⟨⟨by simp only;omega,by simp only;omega,by simp only;omega⟩,⟨by simp only;omega,by simp,by simp⟩⟩
 ·by_cases h2:(x.2.toNat:Int).tmod 4=2
  ·rw [if_neg h1,if_pos h2]
   refine ⟨by simp,fun a ha=>?_⟩
   simp only [aV] at ha
   subst ha
   refine ⟨⟨by simp,by simp,by simp⟩,⟨by simp only;omega,fun s hs=>?_,by simp⟩⟩
   simp only [bM,iF,or_false] at hs
   rcases hs with rfl|rfl
   ·show (3:Nat)≤100000;omega
   ·show (2:Nat)≤100000;omega
  ·rw [if_neg h1,if_neg h2];simp
theorem uY {ns es:List B2}{j:Nat}{n:NodeTy}(h:(iH ns es).nodes[j]?=some n):j<kH ns∧n=kZ j (iD ns j):=by
 simp only [iH,qH,aM] at h
 by_cases hj:j<kH ns
 ·rw [eM hj] at h;simp at h;exact ⟨hj,h.symm⟩
 ·rw [bL (by simpa using hj)] at h;cases h
theorem yO (ns es:List B2):(iH ns es).nodes.length=kH ns∧0<kH ns∧kH ns≤6∧(iH ns es).edges.length≤5:=by
 refine ⟨N3 _ _,by unfold kH;omega,by unfold kH;omega,by simp only [iH,An];omega⟩
theorem Am {ns es:List B2}{x:EdgeTy}(h:x∈(iH ns es).edges):(0≤x.from_∧x.from_<kH ns)∧(0≤x.to_∧x.to_<kH ns)∧x.ok:=by
 simp only [iH,qI,aT] at h
 obtain ⟨i,_,rfl⟩:=h
 have hk:0<kH ns:=by unfold kH;omega
 have h1:=b4 (show 0≤((iD es i).1.toNat:Int) by omega) (show (0:Int)<kH ns by omega)
 have h2:=b4 (show 0≤((iD es i).2.toNat:Int) by omega) (show (0:Int)<kH ns by omega)
 have hs:=vA tyE i (i+1)
 have hs2:tyE.size=5:=rfl
 exact ⟨h1,h2,⟨by simp only [Bo];omega⟩⟩
theorem GN (nodes:List NodeTy)(h:∀ n∈nodes,n.attrs.length≤1):∀ f a,(fU nodes f a).length≤f
 | 0,a=>by simp [fU]
 | f+1,a=>by
  unfold fU
  split
  ·simp
  ·rename_i n hn
   have:=h n (aH hn)
   have h2:=GN nodes h f n.parent.toNat
   simp only [aI]
   split<;>simp<;>omega
theorem GP {p:Attr→Prop}(nodes:List NodeTy)(h:∀ n∈nodes,∀ a∈n.attrs,p a):∀ f a,∀ x∈fU nodes f a,p x
 | 0,a,x,hx=>by simp [fU] at hx
 | f+1,a,x,hx=>by
  unfold fU at hx
  split at hx
  ·cases hx
  ·rename_i n hn
   rcases aW.1 hx with hx|hx
   ·split at hx
    ·exact GP nodes h f _ x hx
    ·cases hx
   ·exact h n (aH hn) x hx
theorem CD {ns es:List B2}{n:NodeTy}(h:n∈(iH ns es).nodes):∃ j,n=kZ j (iD ns j):=by
 obtain ⟨j,hj⟩:=List.getElem?_of_mem h
 exact ⟨j,(uY hj).2⟩
theorem DB (ns es:List B2):(iH ns es).valid:=by
 obtain ⟨l1,l2,l3,l4⟩:=yO ns es
 refine ⟨by omega,by omega,by omega,fun j n hn=>?_,fun j n hn=>?_,fun j hj=>?_,fun x hx=>?_⟩
 ·obtain ⟨_,rfl⟩:=uY hn
  have:=b4 (show 0≤((iD ns j).1.toNat:Int) by omega) (show 0<(j:Int)+1 by omega)
  simp only [kZ];omega
 ·obtain ⟨_,rfl⟩:=uY hn
  have:=b4 (show 0≤((iD ns j).1.toNat:Int) by omega) (show 0<(j:Int)+1 by omega)
  simp only [kZ];omega
 ·have:=GN (iH ns es).nodes (fun n hn=>by obtain ⟨j,rfl⟩:=CD hn;exact (rY j _).1) (j+1) j
  unfold Types.attrs;omega
 ·obtain ⟨h1,h2,_⟩:=Am hx
  simp only [insideF,l1]
  simp;omega
theorem RO (ns es:List B2):(iH ns es).ok:=by
 obtain ⟨l1,l2,l3,l4⟩:=yO ns es
 refine ⟨fun n hn=>?_,fun x hx=>(Am hx).2.2,by omega,by omega⟩
 obtain ⟨j,rfl⟩:=CD hn
 have ha:=rY j (iD ns j)
 have hs:=vA tyA j (j+1)
 have hs2:tyA.size=6:=rfl
 exact ⟨by simp only [kZ];omega,fun x hx=>(ha.2 x hx).2,by omega⟩
theorem N2 (ns es:List B2)(a:Int):(∀ x∈bI (iH ns es) a,x.good)∧(bI (iH ns es) a).length≤8:=by
 unfold bI
 split
 ·rename_i h
  have hv:=(qP h)
  refine ⟨fun x hx=>GP (p:=Attr.good) (iH ns es).nodes (fun n hn y hy=>by obtain ⟨j,rfl⟩:=CD hn;exact ((rY j _).2 y hy).1) _ _ x hx,hv.1.attrs _ (by omega)⟩
 ·simp
structure Types.fine (t:Types):Prop where
 ok:t.ok
 valid:t.valid
 good:∀ a,(∀ x∈bI t a,x.good)∧(bI t a).length≤8
theorem FN (ns es:List B2):(iH ns es).fine:=⟨RO ns es,DB ns es,N2 ns es⟩
end Go.Abs
end
