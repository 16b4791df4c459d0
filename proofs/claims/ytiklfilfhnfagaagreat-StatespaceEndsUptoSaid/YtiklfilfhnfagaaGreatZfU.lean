/- host.listedEdges, host.Canonical. · Layer 49: visit. · Layer -/
import Derived.Test.YtiklfilfhnfagaaGreatZfG
import Derived.Test.YtiklfilfhnfagaaGreatZfA
import Derived.Test.YtiklfilfhnfagaaGreatZfT
import Derived.Test.YtiklfilfhnfagaaGreatZfR
import Derived.Test.YtiklfilfhnfagaaGreatZfL
set_option linter.unusedVariables false
set_option linter.unusedSimpArgs false
section
set_option maxRecDepth 100000
set_option maxHeartbeats 4000000
open Go Go.Proofs
namespace Go.Abs
theorem O5 (n:Nat):lL n++[(n:Int)]=lL (n+1):=by simp [lL,cA]
theorem Km {n:Nat}{x:Int}(h:x∈lL n):∃ k:Nat,k<n∧x=(k:Int):=by
 simp only [lL,aS,b7] at h
 obtain ⟨k,h1,h2⟩:=h;exact ⟨k,h1,h2.symm⟩
theorem AX (f:Int→List Int):∀ n,(xB f (fun _=>true) n).length=n
 | 0=>rfl
 | n+1=>by
  have ih:=AX f n
  have h:=IE f n (xB f (fun _=>true) n) (xB f (fun _=>true) n).length
  simp only [xB,if_true,Pm,aT,bW,bL,dY]
  omega
theorem B7 (g:Graph)(pl:List Int)(hO:PlOk g pl):Pure Tryz.prog 37 [g.d,dLI pl] (dLI (xB (w9 g pl) (fun _=>true) g.edges.length)):=by
 have he:=hO.e
 have hn0:lL 0=[]:=rfl
 refine Tz.pK ⟨fun t=>t==5||t==7,fun _=>[]⟩ Tryz.func37 rfl (fun Q hQ=>?_)
 try simp [go_sem,seval,Graph.c,Graph.d,hn0]
 repeat first|intro _|refine ⟨fT,?_⟩
 obtain ⟨I0,hI0⟩:∃ I0:Nat→c7→AHeap→Prop,∀ (i:Nat) (e:c7) (H:AHeap),I0 i e H↔((e 2=.adr g.c)∧(e 3=.adr [dLI pl])∧(e 5=.own 0 i)∧(e 10=dI g.edges.length)∧(e 11=dI i)∧(H.get 0=some ⟨3,1,(lL i).map cI,false⟩)∧(0<H.next)∧(i≤g.edges.length)):=⟨fun i e H=>_,fun _ _ _=>Iff.rfl⟩
 refine qV I0 (fun i=>g.edges.length - i) (0) ((hI0 _ _ _).2 ⟨?_,?_,?_,?_,?_,?_,?_,(by first|assumption|omega|(simp [go_sem,Graph.c,Graph.d,hn0];done)|(simp_all;done))⟩) ?_
 iterate 7 (first|omega|(simp [go_sem,seval,Graph.c,Graph.d,hn0]<;>omega))
 intro i e H hi0
 obtain ⟨q2_0,q3_0,q5_0,q10_0,q11_0,g0_0,n0_0,hi⟩:=(hI0 _ _ _).1 hi0
 have x0:=cO n0_0
 have F0:=And.intro q2_0 (And.intro q3_0 (And.intro q5_0 (And.intro q10_0 (And.intro q11_0 (And.intro g0_0 x0)))))
 try simp [go_sem,seval,Graph.c,Graph.d,hn0,F0]
 refine aP (fun h3=>?_) (fun h3=>?_)
 ·try simp [go_sem] at h3
  have hsn:(lL i).map cI++[[D.int .i64 (i:Int)]]=(lL (i+1)).map cI:=by rw [← O5];simp [cI]
  have hsl:=QH i
  try simp [go_sem,seval,Graph.c,Graph.d,hn0,F0,h3,hsn,hsl]
  repeat first|intro _|refine ⟨fT,?_⟩
  refine fN (i+1) (by omega) ((hI0 _ _ _).2 ⟨?_,?_,?_,?_,?_,?_,?_,(by first|assumption|omega|(simp [go_sem,Graph.c,Graph.d,hn0,F0,h3,hsn,hsl];done)|(simp_all<;>omega))⟩)<;>first|omega|(simp [go_sem,seval,Graph.c,Graph.d,hn0,F0,h3,hsn,hsl]<;>omega)
 ·try simp [go_sem] at h3
  have hE:i=g.edges.length:=by omega
  try simp [go_sem,seval,Graph.c,Graph.d,hn0,F0,hE]
  unfold dO
  refine Lz [H.next] (args':=[.own 0 g.edges.length,.fn 68 [.adr [.fn 66 [.adr g.c,.adr [dLI pl]]]]]) rfl ?_ ?_
  focus rintro (_|_|j) d d' q1 q2<;>simp at q1 q2;exact .inl (q2.symm.trans q1);subst q1 q2;right;simp [Dg,BQ,fU,Mp,QY,go_sem,Graph.c]
  refine Ec _ 0 g.edges.length ?_ (by omega) _ _ (by simp [go_sem,Graph.c]) (w9 g pl) ?_ _ fun H1 g1 f1 n1=>?_
  focus simp [go_sem,eT,F0,hE]
  focus intro x hx y hy;obtain ⟨a,ha,rfl⟩:=Km hx;obtain ⟨b,hb,rfl⟩:=Km hy;exact ⟨_,Ml g pl hO a b ha hb,Iff.rfl⟩
  try simp [go_sem,seval,Graph.c,Graph.d,hn0,F0,hE]
  exact hQ _ _ (by first|(left;(have hil:=AX (w9 g pl) g.edges.length;simp [go_sem,g1,dLI,hil]);done)|(right;(have hil:=AX (w9 g pl) g.edges.length;simp [go_sem,g1,dLI,hil]);done))
def Gs (o:List Int)(n:Nat):Nat→List Int
 | 0=>List.replicate n 0
 | k+1=>(Gs o n k).set (iA o k).toNat k
theorem AO (o:List Int)(n:Nat):∀ k,(Gs o n k).length=n
 | 0=>by simp [Gs]
 | k+1=>by rw [Gs,fI,AO o n k]
def MV (g:Graph)(pl:List Int)(e:Int):Edge:=⟨Pw g e,iA pl (eA g e).from_,iA pl (eA g e).to_⟩
def I5 (h:Host):List Int:=(sN h.graph.nodes.length (rP h) h.graph.nodes.length [] [] ⟨false,[],[]⟩).best
def FQ (h:Host):List Int:=Gs (I5 h) h.graph.nodes.length h.graph.nodes.length
def HN (h:Host):List Int:=xB (w9 h.graph (FQ h)) (fun _=>true) h.graph.edges.length
def GH (h:Host):Host:=⟨⟨(I5 h).map (gN h.graph),(HN h).map (MV h.graph (FQ h))⟩,(I5 h).map (vN h)⟩
def SV (h:Host):Part:=⟨FQ h,Gs (HN h) h.graph.edges.length h.graph.edges.length⟩
def sS (t:Types)(h:Host):Int:=if eR t h≠0 then eR t h else if 8<h.graph.nodes.length then 3 else 0
def Bj (t:Types)(h:Host):Host:=if sS t h≠0 then ⟨⟨[],[]⟩,[]⟩ else GH h
def NW (t:Types)(h:Host):Part:=if sS t h≠0 then ⟨[],[]⟩ else SV h
theorem PI (h:Host):Best h.graph.nodes.length (eV (rP h) []) (I5 h):=by
 obtain ⟨o,h1,h2⟩:=Oz (N:=h.graph.nodes.length) (sg:=rP h) S5
 unfold I5;rw [h1];exact h2
theorem SU (h:Host):(I5 h).length=h.graph.nodes.length∧(∀ x∈I5 h,0≤x∧x<h.graph.nodes.length)∧(I5 h).Nodup:=xU.1 (PI h).mem
theorem Ro (h:Host):∀ x∈HN h,0≤x∧x<h.graph.edges.length:=fun x hx=>by
 obtain ⟨k,hk,rfl,_⟩:=((DI (f:=w9 h.graph (FQ h)) (p:=fun _=>true) h.graph.edges.length).2 x).1 hx
 omega
theorem PJ (h:Host):(HN h).length=h.graph.edges.length:=AX _ _
theorem PH (h:Host):(FQ h).length=h.graph.nodes.length:=AO _ _ _
theorem Mq (t:Types)(ht:t.ok)(h:Host):Pure Tryz.prog 34 [t.d,h.d] (dI (eR t h)):=by
 refine Tz.pK ⟨fun _=>false,fun _=>[]⟩ Tryz.func34 rfl (fun Q hQ=>?_)
 have Y:=trivial
 refine wv (h:=aB (oR t ht h) wl ?_)
 exact wv (h:=hQ _ _ (by simp [go_sem,eR]))
theorem xH (t:Types)(ht:t.ok)(h:Host):Pure Tryz.prog 20 [t.d,h.d] (.tup [(Bj t h).d,(NW t h).d,dI (sS t h)]):=by
 refine Tz.pK ⟨fun t=>t==4||t==5||t==33||t==9||t==10||t==41||t==46||t==15,fun r=>match r with|9=>[(5,6),(5,7),(5,8),(5,9),(1,10),(2,10),(3,10),(4,10),(5,10),(1,12),(2,12),(3,12),(4,12),(5,12),(6,12),(7,12),(8,12),(9,12),(10,12)]|14=>[(0,9),(1,9),(2,9)]|15=>[(0,8),(1,8)]|22=>[(0,18),(1,18),(2,18)]|24=>[(1,2)]|_=>[]⟩ Tryz.func20 rfl (fun Q hQ=>?_)
 have Y:=wa @Host.d.eq_1 (wa @Host.c.eq_1 @Part.d.eq_1)
 refine wv (h:=aB (Mq t ht h) wl ?_)
 refine dU (fun h2=>?_) fun h2=>?_
 ·have hE:sS t h=eR t h:=by unfold sS;rw [if_pos (by simpa using h2)]
  have hne:sS t h≠0:=by rw [hE];simpa using h2
  have hH:Bj t h=⟨⟨[],[]⟩,[]⟩:=if_pos hne
  have hM:NW t h=⟨[],[]⟩:=if_pos hne
  exact wv (h:=hQ _ _ (by rw [hH,hM,hE];simp [go_sem,Y,dLI]))
 ·have h0:eR t h=0:=by simpa using h2
  have ho:=Fh h0
  have hgl:=c9 ho.gg
  refine mP (fun h4=>?_) fun h4=>?_
  ·have hE:sS t h=3:=by unfold sS;rw [if_neg (by simpa using h0),if_pos (by omega)]
   have hne:sS t h≠0:=by rw [hE];decide
   have hH:Bj t h=⟨⟨[],[]⟩,[]⟩:=if_pos hne
   have hM:NW t h=⟨[],[]⟩:=if_pos hne
   exact wv (h:=hQ _ _ (by rw [hH,hM,hE];simp [go_sem,Y,dLI]))
  ·have hE:sS t h=0:=by unfold sS;rw [if_neg (by simpa using h0),if_neg (by omega)]
   have hH:Bj t h=GH h:=if_neg (by rw [hE];decide)
   have hM:NW t h=SV h:=if_neg (by rw [hE];decide)
   have hC:CanOk h:=⟨ho.vl,by omega,by omega,fun v hv=>by have:=(ho.row v hv).1;omega⟩
   obtain ⟨o,hoE⟩:∃ o,o=I5 h:=⟨_,rfl⟩
   have hoO:=SU h
   rw [← hoE] at hoO
   obtain ⟨N,hN⟩:∃ N,N=h.graph.nodes.length:=⟨_,rfl⟩
   obtain ⟨m,hm⟩:∃ m,m=h.graph.edges.length:=⟨_,rfl⟩
   obtain ⟨E,hEd⟩:∃ E,E=HN h:=⟨_,rfl⟩
   have hEl:=PJ h
   rw [← hEd] at hEl
   refine wv (h:=?_)
   unfold dO
   refine M9 (id:=2) (k:=⟨108,8,[[dLI h.graph.nodes,.list (h.graph.edges.map Edge.c),.list (h.values.map cL),.nil,.nil,.nil,.nil,.bool false]],false⟩) ?_ ?_
   focus simp [go_sem,dLI]
   refine Bi h hC 2 h.graph.nodes.length [] [] ⟨false,[],[]⟩ _ _ (by simp) (by simp) ⟨by simp,by simp⟩ ?_ ?_ ?_ (fun H1 g1 f1 n1 a1=>?_)
   focus simp [go_sem,cnC,dLI,Sn,dX,fW,jY,nB]
   focus first|(simp [go_sem];done)|(simp [go_sem];omega)
   focus intro j hj;simp [go_sem,f8,iU,oG] at hj ⊢;exact ⟨by omega,by omega,by omega,id⟩
   have e0:=f1 0 (by simp [go_sem]) (by decide)
   have e1:=f1 1 (by simp [go_sem]) (by decide)
   simp [go_sem] at e0 e1 n1
   have hbo:(sN h.graph.nodes.length (rP h) h.graph.nodes.length [] [] ⟨false,[],[]⟩).best=o:=hoE.symm
   simp only [cnC,hbo] at g1
   obtain ⟨zz,hzz⟩:∃ x,x=dLI (sN h.graph.nodes.length (rP h) h.graph.nodes.length [] [] ⟨false,[],[]⟩).least:=⟨_,rfl⟩
   obtain ⟨zf,hzf⟩:∃ x,x=(sN h.graph.nodes.length (rP h) h.graph.nodes.length [] [] ⟨false,[],[]⟩).found:=⟨_,rfl⟩
   rw [← hzz,← hzf] at g1
   have nx:=VD H1.next
   have ny:(∀ a b:Nat,(H1.next+a+b=H1.next)=(a+b=0))∧(∀ a b c:Nat,(H1.next+a+b+c=H1.next)=(a+b+c=0)):=⟨fun _ _=>propext (by omega),fun _ _ _=>propext (by omega)⟩
   have fx:=cO n1
   have fx0:=cO (show 0<H1.next by omega)
   have fx1:=cO (show 1<H1.next by omega)
   have hoN:o.length=N:=by rw [hN];exact hoO.1
   have hp0:(Gs o N 0).map cI=List.replicate N [D.int .i64 0]:=by simp [Gs,cI]
   have hp1:(Gs E m 0).map cI=List.replicate m [D.int .i64 0]:=by simp [Gs,cI]
   have Y:=wa Y (wa g1 (wa e0 (wa e1 (wa hoN (wa (Eq.symm hN) (wa (Eq.symm hm) (wa nx (wa ny (wa fx (wa fx0 (wa fx1 (wa hp0 hp1))))))))))))
   refine wo (h:=sP (Ghosts.step (Ghosts.step (Ghosts.refl _) H1.next 0 0 3 1 _ _ ((by simp [go_sem,nx]:AHeap.get _ _=some ⟨50,3,[[.nil,.nil,.nil]],false⟩)) rfl rfl rfl) H1.next 0 2 31 1 _ _ ((by simp [go_sem,nx]:AHeap.get _ _=some ⟨50,3,[[.own (H1.next+1+14) 0,.nil,.nil]],false⟩)) rfl rfl rfl) (fun k e H=>∃ X:Nat,∃ A:Nat,∃ B:Nat,∃ M:Nat,∃ C:Nat,∃ V:Nat,(e 2=.adr t.c∧e 3=.adr h.c∧e 4=.ptr 0 1 0 0∧e 5=.ptr 1 1 0 0∧e 9=.ptr X 1 0 0∧e 10=.ptr M 1 0 0∧e 51=dLI o∧e 52=dI o.length∧e 53=dI k)∧(H.get 0=some ⟨50,3,[[.nil,.nil,.nil]],false⟩)∧(0<H.next)∧(H.get 1=some ⟨33,2,[[.nil,.nil]],false⟩)∧(1<H.next)∧(H.get X=some ⟨50,3,[[.own C k,.nil,.own V k]],false⟩)∧(X<H.next)∧(H.get A=some ⟨3,1,(Gs o N k).map cI,false⟩)∧(A<H.next)∧(H.get B=some ⟨3,1,(Gs E m 0).map cI,false⟩)∧(B<H.next)∧(H.get M=some ⟨33,2,[[.own A N,.own B m]],false⟩)∧(M<H.next)∧(H.get C=some ⟨3,1,((o.take k).map (gN h.graph)).map cI,false⟩)∧(C<H.next)∧(H.get V=some ⟨31,1,((o.take k).map (vN h)).map cL,false⟩)∧(V<H.next)∧(k≤o.length)∧(2<X∧X<A∧A<B∧B<M∧M<C∧C<V)) (fun k=>o.length - k) 0 ⟨H1.next,(H1.next+1+5),(H1.next+1+10),(H1.next+1+12),(H1.next+1+14),(H1.next+1+14+1),wg,wn,wn,wn,wn,wn,wn,wn,wn,wn,wn,wn,wn,wn,wn,wn,wn,wi,(by omega)⟩ fun I0 hI0 k e H hi0=>?_)
   obtain ⟨X,A,B,M,C,V,E0,g0_0,n0_0,g1_0,n1_0,gX_0,nX_0,gA_0,nA_0,gB_0,nB_0,gM_0,nM_0,gC_0,nC_0,gV_0,nV_0,hk,hlt⟩:=hi0
   have xA:=cO nA_0
   have di1:=And.intro (dP (show V≠C by omega)) (And.intro (dP (show V≠M by omega)) (And.intro (dP (show V≠B by omega)) (And.intro (dP (show V≠A by omega)) (And.intro (dP (show V≠X by omega)) (And.intro (dP (show V≠1 by omega)) (And.intro (dP (show V≠0 by omega)) (And.intro (dP (show C≠M by omega)) (And.intro (dP (show C≠B by omega)) (And.intro (dP (show C≠A by omega)) (And.intro (dP (show C≠X by omega)) (And.intro (dP (show C≠1 by omega)) (And.intro (dP (show C≠0 by omega)) (And.intro (dP (show M≠B by omega)) (And.intro (dP (show M≠A by omega)) (And.intro (dP (show M≠X by omega)) (And.intro (dP (show M≠1 by omega)) (And.intro (dP (show M≠0 by omega)) (And.intro (dP (show B≠A by omega)) (And.intro (dP (show B≠X by omega)) (And.intro (dP (show B≠1 by omega)) (And.intro (dP (show B≠0 by omega)) (And.intro (dP (show A≠X by omega)) (And.intro (dP (show A≠1 by omega)) (And.intro (dP (show A≠0 by omega)) (And.intro (dP (show X≠1 by omega)) (And.intro (dP (show X≠0 by omega)) (dP (show 1≠0 by omega))))))))))))))))))))))))))))
   have Y:=wa Y (wa E0 (wa g0_0 (wa (cO n0_0) (wa g1_0 (wa (cO n1_0) (wa gX_0 (wa (cO nX_0) (wa gA_0 (wa (cO nA_0) (wa gB_0 (wa (cO nB_0) (wa gM_0 (wa (cO nM_0) (wa gC_0 (wa (cO nC_0) (wa gV_0 (wa (cO nV_0) di1)))))))))))))))))
   refine dU (fun h11=>?_) fun h11=>?_
   ·have hkl:k<o.length:=by omega
    have hr:=hoO.2.1 _ (aC hkl)
    have q1:o[k].toNat<h.graph.nodes.length:=by omega
    have q2:o[k].toNat<h.values.length:=by have:=ho.vl;omega
    obtain ⟨nd,hnd⟩:∃ x,x=h.graph.nodes[o[k].toNat]:=⟨_,rfl⟩
    obtain ⟨vs,hvs⟩:∃ x,x=h.values[o[k].toNat]:=⟨_,rfl⟩
    have hvl:vs.length≤8:=by rw [hvs];exact (ho.row _ (aC q2)).1
    have s1:((Gs o N k).map cI).set o[k].toNat [D.int .i64 (k:Int)]=(Gs o N (k+1)).map cI:=by
     rw [Gs,eF,kJ hkl];simp [cI]
    have s2:((o.take k).map (gN h.graph)).map cI++[[D.int .i64 nd]]=((o.take (k+1)).map (gN h.graph)).map cI:=by
     rw [jP _ hkl,List.map_append]
     have:gN h.graph o[k]=nd:=by unfold gN;rw [aA q1,hnd];rfl
     rw [this];simp [cI]
    have s3:((o.take k).map (vN h)).map cL++[[dLI vs]]=((o.take (k+1)).map (vN h)).map cL:=by
     rw [jP _ hkl,List.map_append]
     have:vN h o[k]=vs:=by unfold vN;rw [aA q2,hvs];rfl
     rw [this];simp [cL]
    have hpll:=AO o N k
    have hr2:o[k]<(N:Int):=by omega
    have hvN:h.values.length=N:=by have:=ho.vl;omega
    simp [dLI] at s2 s3
    have Y:=wa Y (wa h11 (wa hr2 (wa hvN (wa (aA hkl) (wa hr.1 (wa hr.2 (wa (aA q1) (wa (aA q2) (wa (Eq.symm hnd) (wa (Eq.symm hvs) (wa s1 (wa s2 (wa s3 hpll)))))))))))))
    refine wo (h:=?_)
    refine jI (gM vs (by omega)) (by simp [go_sem,Y,dLI]) (by simp [go_sem]) (Fm _) rfl (by simp [go_sem]) ?_
    exact wo (h:=wx hI0 (k+1) ⟨X,A,B,M,C,V,wg,wn,wn,wn,wn,wn,wn,wn,wn,wn,wn,wn,wn,wn,wn,wn,wn,wj,(by (exact hlt))⟩)
   ·have hkN:k=N:=by omega
    obtain ⟨pl,hpl⟩:∃ x,x=Gs o N N:=⟨_,rfl⟩
    have hpE:pl=FQ h:=by rw [hpl];unfold FQ;rw [← hoE,← hN]
    have hpll:pl.length=N:=by rw [hpE,hN];exact PH h
    have hEE:E=xB (w9 h.graph pl) (fun _=>true) h.graph.edges.length:=by rw [hEd];unfold HN;rw [hpE]
    have htk:o.take N=o:=aK (by omega)
    have hPO:PlOk h.graph pl:=⟨fun x hx=>((gA ho.gg).2 x hx).2,by omega,by omega⟩
    have cL1:Pure Tryz.prog 37 [h.graph.d,dLI pl] (dLI E):=by rw [hEE];exact B7 h.graph pl hPO
    have hEl2:E.length=m:=by omega
    have Y:=wa Y (wa hkN (wa (Eq.symm hpl) (wa htk (wa hpll hEl2))))
    refine wo (h:=pI (cL1) wz wl wz ?_)
    refine wo (h:=sP (Ghosts.step (Ghosts.refl _) X 0 1 103 3 _ _ ((by simp [go_sem,Y]:AHeap.get _ _=some ⟨50,3,[[.own C N,.nil,.own V N]],false⟩)) rfl rfl rfl) (fun j e H=>∃ W:Nat,(e 2=.adr t.c∧e 3=.adr h.c∧e 4=.ptr 0 1 0 0∧e 5=.ptr 1 1 0 0∧e 9=.ptr X 1 0 0∧e 10=.ptr M 1 0 0∧e 92=dLI E∧e 93=dI E.length∧e 94=dI j)∧(H.get 0=some ⟨50,3,[[.nil,.nil,.nil]],false⟩)∧(0<H.next)∧(H.get 1=some ⟨33,2,[[.nil,.nil]],false⟩)∧(1<H.next)∧(H.get X=some ⟨50,3,[[.own C N,.own W j,.own V N]],false⟩)∧(X<H.next)∧(H.get B=some ⟨3,1,(Gs E m j).map cI,false⟩)∧(B<H.next)∧(H.get M=some ⟨33,2,[[.own A N,.own B m]],false⟩)∧(M<H.next)∧(H.get C=some ⟨3,1,(o.map (gN h.graph)).map cI,false⟩)∧(C<H.next)∧(H.get V=some ⟨31,1,(o.map (vN h)).map cL,false⟩)∧(V<H.next)∧(H.get W=some ⟨103,3,((E.take j).map (MV h.graph pl)).map Edge.c,false⟩)∧(W<H.next)∧(j≤E.length)∧(H.get A=some ⟨3,1,pl.map cI,true⟩)∧(A<H.next)∧(V<W)) (fun j=>E.length - j) 0 ⟨H.next,wg,wn,wn,wn,wn,wn,wn,wn,wn,wn,wn,wn,wn,wn,wn,wn,wn,wi,(by (simp [go_sem,Y];done)),(by (simp [go_sem,Y];omega)),(by omega)⟩ fun I2 hI2 j e H hi2=>?_)
    obtain ⟨W,E2,g0_2,n0_2,g1_2,n1_2,gX_2,nX_2,gB_2,nB_2,gM_2,nM_2,gC_2,nC_2,gV_2,nV_2,gW_2,nW_2,hj,hA,hAn,hW⟩:=hi2
    have di2:=And.intro (dP (show W≠V by omega)) (And.intro (dP (show W≠C by omega)) (And.intro (dP (show W≠M by omega)) (And.intro (dP (show W≠B by omega)) (And.intro (dP (show W≠A by omega)) (And.intro (dP (show W≠X by omega)) (And.intro (dP (show W≠1 by omega)) (And.intro (dP (show W≠0 by omega)) (And.intro (dP (show V≠C by omega)) (And.intro (dP (show V≠M by omega)) (And.intro (dP (show V≠B by omega)) (And.intro (dP (show V≠A by omega)) (And.intro (dP (show V≠X by omega)) (And.intro (dP (show V≠1 by omega)) (And.intro (dP (show V≠0 by omega)) (And.intro (dP (show C≠M by omega)) (And.intro (dP (show C≠B by omega)) (And.intro (dP (show C≠A by omega)) (And.intro (dP (show C≠X by omega)) (And.intro (dP (show C≠1 by omega)) (And.intro (dP (show C≠0 by omega)) (And.intro (dP (show M≠B by omega)) (And.intro (dP (show M≠A by omega)) (And.intro (dP (show M≠X by omega)) (And.intro (dP (show M≠1 by omega)) (And.intro (dP (show M≠0 by omega)) (And.intro (dP (show B≠A by omega)) (And.intro (dP (show B≠X by omega)) (And.intro (dP (show B≠1 by omega)) (And.intro (dP (show B≠0 by omega)) (And.intro (dP (show A≠X by omega)) (And.intro (dP (show A≠1 by omega)) (And.intro (dP (show A≠0 by omega)) (And.intro (dP (show X≠1 by omega)) (And.intro (dP (show X≠0 by omega)) (dP (show 1≠0 by omega))))))))))))))))))))))))))))))))))))
    have xA:=cO hAn
    have Y:=wa Y (wa E2 (wa g0_2 (wa (cO n0_2) (wa g1_2 (wa (cO n1_2) (wa gX_2 (wa (cO nX_2) (wa gB_2 (wa (cO nB_2) (wa gM_2 (wa (cO nM_2) (wa gC_2 (wa (cO nC_2) (wa gV_2 (wa (cO nV_2) (wa gW_2 (wa (cO nW_2) (wa di2 (wa hA xA)))))))))))))))))))
    refine dU (fun h18=>?_) fun h18=>?_
    ·have hjl:j<E.length:=by omega
     have hr:=Ro h E[j] (by rw [← hEd];exact aC hjl)
     have hr2:E[j]<(m:Int):=by omega
     have q1:E[j].toNat<h.graph.edges.length:=by omega
     obtain ⟨x,hx⟩:∃ x,x=h.graph.edges[E[j].toNat]:=⟨_,rfl⟩
     have hxr:=hPO.gg _ (aC q1)
     rw [← hx,← hN] at hxr
     have q2:x.from_.toNat<pl.length:=by omega
     have q3:x.to_.toNat<pl.length:=by omega
     have hpll2:=AO E m j
     have s1:((Gs E m j).map cI).set E[j].toNat [D.int .i64 (j:Int)]=(Gs E m (j+1)).map cI:=by
      rw [Gs,eF,kJ hjl];simp [cI]
     have s2:((E.take j).map (MV h.graph pl)).map Edge.c++[[dI x.type,dI pl[x.from_.toNat],dI pl[x.to_.toNat]]]=((E.take (j+1)).map (MV h.graph pl)).map Edge.c:=by
      rw [jP _ hjl,List.map_append]
      have e1:eA h.graph E[j]=x:=by unfold eA;rw [aA q1,hx];rfl
      have:MV h.graph pl E[j]=⟨x.type,pl[x.from_.toNat],pl[x.to_.toNat]⟩:=by
       unfold MV Pw iA;rw [e1,aA q2,aA q3];rfl
      rw [this];simp [Edge.c]
     simp [go_sem] at s2
     have Y:=wa Y (wa e1 (wa h18 (wa (aA hjl) (wa hr.1 (wa hr2 (wa (aA q1) (wa (Eq.symm hx) (wa hxr.1 (wa hxr.2 (wa (aA q2) (wa (aA q3) (wa s1 (wa s2 (wa hpll2 @Edge.c.eq_1))))))))))))))
     exact wo (h:=wx hI2 (j+1) ⟨W,wg,wn,wn,wn,wn,wn,wn,wn,wn,wn,wn,wn,wn,wn,wn,wn,wn,wj,(by (simp [go_sem,Y];done)),(by (simp [go_sem,Y];omega)),(by (exact hW))⟩)
    ·have hjm:j=m:=by omega
     have hTk:E.take m=E:=aK (by omega)
     have hpm:=AO E m m
     have eH:GH h=⟨⟨o.map (gN h.graph),E.map (MV h.graph pl)⟩,o.map (vN h)⟩:=by unfold GH;rw [← hoE,← hEd,hpE]
     have eM:SV h=⟨pl,Gs E m m⟩:=by unfold SV;rw [← hEd,hpE,← hm]
     have Y:=wa Y (wa hjm hTk)
     exact wv (h:=hQ _ _ (by rw [hH,hM,hE,eH,eM];simp [go_sem,Y,dLI,hpll,hpm,hoN,hEl2]))
structure Vis where
 rule:Int
 m:Mat
 fin:Host
def Fn (t:Types)(r:Rule)(h:Host)(m:Mat):Host:=(D9 t r h m).after
def oH (t:Types)(r:Rule)(h:Host)(i:Int):List Mat→List Vis × Int
 | []=>([],0)
 | m :: l=>if Dt t r h m≠0 then ([],Dt t r h m) else if sS t (Fn t r h m)≠0 then ([],sS t (Fn t r h m)) else (⟨i,m,Bj t (Fn t r h m)⟩ :: (oH t r h i l).1,(oH t r h i l).2)
def kO (t:Types)(h:Host):Nat→List Rule→List Vis × Int
 | _,[]=>([],0)
 | i,r :: l=>if (sU t r h).2≠0 then ([],(sU t r h).2) else if (oH t r h i (sU t r h).1).2≠0 then oH t r h i (sU t r h).1 else ((oH t r h i (sU t r h).1).1++(kO t h (i+1) l).1,(kO t h (i+1) l).2)
theorem BL (t:Types)(ht:t.ok)(rs:List Rule)(hrs:∀ r∈rs,r.ok)(h:Host)(g:FuncId)(caps:List D)(G:AHeap)(Q:D→AHeap→Prop)(I:List Vis→AHeap→Prop)(h0:I [] G)
  (hw:∀ vs H H',I vs H→(∀ j,j<H.next→H'.get j=H.get j)→H.next≤H'.next→I vs H')
  (hs:∀ vs v H,(∃ r,(kO t h 0 rs).1=vs++v :: r)→I vs H→G.next≤H.next→∀ K:D→AHeap→Prop,(∀ H',I (vs++[v]) H'→(∀ x,G.next≤x→x<H.next→H'.get x=H.get x)→H.next≤H'.next→K (.tup []) H')→ACalls Tryz.prog g ([dI v.rule,v.m.d,v.fin.d]++caps) H K)
  (hQ:∀ H',I (kO t h 0 rs).1 H'→G.next≤H'.next→Q (dI (kO t h 0 rs).2) H'):ACalls Tryz.prog 21 [t.d,.list (rs.map Rule.c),h.d,.fn g caps] G Q:=by
 refine (aH (cfg:=⟨fun t=>t==10||t==14||t==15||t==17||t==18,fun _=>[]⟩) Tz.mixed Tryz.func21 rfl rfl (aD rfl) (by kernel_rfl) ?_)
 try simp [go_sem,seval,Mat.c,Mat.d,Host.c,Host.d,Stp26.c,Rule.c,Rule.d]
 repeat first|intro _|refine ⟨fT,?_⟩
 obtain ⟨I0,hI0⟩:∃ I0:Nat→c7→AHeap→Prop,∀ (i:Nat) (e:c7) (H:AHeap),I0 i e H↔(∃ vs:List Vis,(e 4=.adr t.c)∧(e 6=.adr h.c)∧(e 3=.fn g caps)∧(e 19=.list (rs.map Rule.c))∧(e 20=dI rs.length)∧(e 21=dI i)∧(i≤rs.length)∧(I vs H)∧(G.next≤H.next)∧(kO t h 0 rs=(vs++(kO t h i (rs.drop i)).1,(kO t h i (rs.drop i)).2))):=⟨fun i e H=>_,fun _ _ _=>Iff.rfl⟩
 refine qV I0 (fun i=>rs.length - i) (0) ((hI0 _ _ _).2 ⟨([]),?_,?_,?_,?_,?_,?_,(by first|assumption|omega|(simp [go_sem,Mat.c,Mat.d,Host.c,Host.d,Stp26.c,Rule.c,Rule.d];done)|(simp_all;done)),(by (exact h0)),(by (exact aL _)),(by (simp))⟩) ?_
 iterate 6 (first|omega|(simp [go_sem,seval,Mat.c,Mat.d,Host.c,Host.d,Stp26.c,Rule.c,Rule.d]<;>omega))
 intro i e H hi0
 obtain ⟨vs,q4_0,q6_0,q3_0,q19_0,q20_0,q21_0,hi,hI,hnx,hV⟩:=(hI0 _ _ _).1 hi0
 have F0:=And.intro q4_0 (And.intro q6_0 (And.intro q3_0 (And.intro q19_0 (And.intro q20_0 q21_0))))
 try simp [go_sem,seval,Mat.c,Mat.d,Host.c,Host.d,Stp26.c,Rule.c,Rule.d,F0]
 refine aP (fun h2=>?_) (fun h2=>?_)
 ·try simp [go_sem] at h2
  have hri:=hrs _ (aC h2)
  obtain ⟨L,hL⟩:∃ x,x=(sU t rs[i] h).1:=⟨_,rfl⟩
  have hdr:kO t h i (rs.drop i)=if (sU t rs[i] h).2≠0 then ([],(sU t rs[i] h).2) else if (oH t rs[i] h i L).2≠0 then oH t rs[i] h i L else ((oH t rs[i] h i L).1++(kO t h (i+1) (rs.drop (i+1))).1,(kO t h (i+1) (rs.drop (i+1))).2):=by
   rw [List.drop_eq_getElem_cons h2,hL];rfl
  try simp [go_sem,seval,Mat.c,Mat.d,Host.c,Host.d,Stp26.c,Rule.c,Rule.d,F0,h2,aA h2,← hL]
  repeat first|intro _|refine ⟨fT,?_⟩
  refine aB (Dd t ht rs[i] hri h) ((by first|rfl|(simp [go_sem,← List.map_take,← List.map_drop,Mat.c,Mat.d,Host.c,Host.d,Stp26.c,Rule.c,Rule.d,F0,h2,aA h2,← hL];done))) ?_
  try simp [go_sem,seval,Mat.c,Mat.d,Host.c,Host.d,Stp26.c,Rule.c,Rule.d,F0,h2,aA h2,← hL]
  repeat first|intro _|refine ⟨fT,?_⟩
  refine aP (fun h5=>?_) (fun h5=>?_)
  ·try simp [go_sem] at h5
   have hne:(sU t rs[i] h).2≠0:=by simpa using h5
   rw [if_pos hne] at hdr
   have hE:kO t h 0 rs=(vs,(sU t rs[i] h).2):=by rw [hV,hdr];simp
   try simp [go_sem,seval,Mat.c,Mat.d,Host.c,Host.d,Stp26.c,Rule.c,Rule.d,F0,h2,aA h2,← hL]
   rw [hE] at hQ;exact hQ _ (hw _ _ _ hI (fun x hx=>by simp [go_sem,cO hx]) (by simp [go_sem])) (by simp [go_sem];omega)
  ·try simp [go_sem] at h5
   rw [if_neg (by simpa using h5)] at hdr
   try simp [go_sem,seval,Mat.c,Mat.d,Host.c,Host.d,Stp26.c,Rule.c,Rule.d,F0,h2,aA h2,← hL]
   repeat first|intro _|refine ⟨fT,?_⟩
   obtain ⟨I2,hI2⟩:∃ I2:Nat→c7→AHeap→Prop,∀ (j:Nat) (e:c7) (H:AHeap),I2 j e H↔(∃ c:Nat,∃ ws:List Vis,(e 4=.adr t.c)∧(e 6=.adr h.c)∧(e 3=.fn g caps)∧(e 19=.list (rs.map Rule.c))∧(e 20=dI rs.length)∧(e 21=dI i)∧(e 9=dI i)∧(e 10=.ptr c 1 0 0)∧(e 36=.list (L.map Mat.c))∧(e 37=dI L.length)∧(e 38=dI j)∧(H.get c=some ⟨67,25,[rs[i].c],false⟩)∧(c<H.next)∧(j≤L.length)∧(I ws H)∧(G.next≤H.next)∧(G.next≤c)∧(∃ us,ws=vs++us∧oH t rs[i] h i L=(us++(oH t rs[i] h i (L.drop j)).1,(oH t rs[i] h i (L.drop j)).2))):=⟨fun j e H=>_,fun _ _ _=>Iff.rfl⟩
   refine qV I2 (fun j=>L.length - j) (0) ((hI2 _ _ _).2 ⟨(H.next),(vs),?_,?_,?_,?_,?_,?_,?_,?_,?_,?_,?_,?_,?_,(by first|assumption|omega|(simp [go_sem,Mat.c,Mat.d,Host.c,Host.d,Stp26.c,Rule.c,Rule.d,F0,h2,aA h2,← hL];done)|(simp_all;done)),(by (exact hw _ _ _ hI (fun x hx=>by simp [go_sem,cO hx]) (by simp [go_sem]))),(by (simp [go_sem];omega)),(by (exact hnx)),(by (exact ⟨[],by simp,by simp⟩))⟩) ?_
   iterate 13 (first|omega|(simp [go_sem,seval,Mat.c,Mat.d,Host.c,Host.d,Stp26.c,Rule.c,Rule.d,F0,h2,aA h2,← hL]<;>omega))
   intro j e H hi2
   obtain ⟨c,ws,q4_2,q6_2,q3_2,q19_2,q20_2,q21_2,q9_2,q10_2,q36_2,q37_2,q38_2,gc_2,nc_2,hj,hIw,hnw,hcg,hM⟩:=(hI2 _ _ _).1 hi2
   have xc:=cO nc_2
   have F2:=And.intro q4_2 (And.intro q6_2 (And.intro q3_2 (And.intro q19_2 (And.intro q20_2 (And.intro q21_2 (And.intro q9_2 (And.intro q10_2 (And.intro q36_2 (And.intro q37_2 (And.intro q38_2 (And.intro gc_2 xc)))))))))))
   try simp [go_sem,seval,Mat.c,Mat.d,Host.c,Host.d,Stp26.c,Rule.c,Rule.d,h2,aA h2,← hL,F2]
   refine aP (fun h8=>?_) (fun h8=>?_)
   ·try simp [go_sem] at h8
    obtain ⟨us,hus,hMu⟩:=hM
    have hdm:oH t rs[i] h i (L.drop j)=if Dt t rs[i] h L[j]≠0 then ([],Dt t rs[i] h L[j]) else if sS t (Fn t rs[i] h L[j])≠0 then ([],sS t (Fn t rs[i] h L[j])) else (⟨i,L[j],Bj t (Fn t rs[i] h L[j])⟩ :: (oH t rs[i] h i (L.drop (j+1))).1,(oH t rs[i] h i (L.drop (j+1))).2):=by
     rw [List.drop_eq_getElem_cons h8];rfl
    obtain ⟨finC,hfc⟩:∃ x,x=Bj t (Fn t rs[i] h L[j]):=⟨_,rfl⟩
    have hfd:(D9 t rs[i] h L[j]).after=Fn t rs[i] h L[j]:=rfl
    have nx:=VD H.next
    have ny:(∀ a b:Nat,(H.next+a+b=H.next)=(a+b=0))∧(∀ a b c:Nat,(H.next+a+b+c=H.next)=(a+b+c=0)):=⟨fun _ _=>propext (by omega),fun _ _ _=>propext (by omega)⟩
    try simp [go_sem,seval,Mat.c,Mat.d,Host.c,Host.d,Stp26.c,Rule.c,Rule.d,h2,aA h2,← hL,F2,h8,aA h8,nx,ny,← hfc]
    repeat first|intro _|refine ⟨fT,?_⟩
    refine aB (LP t ht rs[i] hri h L[j]) ((by first|rfl|(simp [go_sem,← List.map_take,← List.map_drop,Mat.c,Mat.d,Host.c,Host.d,Stp26.c,Rule.c,Rule.d,h2,aA h2,← hL,F2,h8,aA h8,nx,ny,← hfc];done))) ?_
    try simp [go_sem,seval,Mat.c,Mat.d,Host.c,Host.d,Stp26.c,Rule.c,Rule.d,h2,aA h2,← hL,F2,h8,aA h8,nx,ny,← hfc]
    repeat first|intro _|refine ⟨fT,?_⟩
    refine aP (fun h11=>?_) (fun h11=>?_)
    ·try simp [go_sem] at h11
     have hn11:Dt t rs[i] h L[j]≠0:=by simpa using h11
     rw [if_pos hn11] at hdm
     have hE:kO t h 0 rs=(ws,Dt t rs[i] h L[j]):=by rw [hV,hdr,hMu,hdm,if_pos hn11,hus];simp
     try simp [go_sem,seval,Mat.c,Mat.d,Host.c,Host.d,Stp26.c,Rule.c,Rule.d,h2,aA h2,← hL,F2,h8,aA h8,nx,ny,← hfc]
     rw [hE] at hQ;exact hQ _ (hw _ _ _ hIw (fun x hx=>by simp [go_sem,cO hx]) (by simp [go_sem];omega)) (by simp [go_sem];omega)
    ·try simp [go_sem] at h11
     rw [if_neg (by simpa using h11)] at hdm
     try simp [go_sem,seval,Mat.c,Mat.d,Host.c,Host.d,Stp26.c,Rule.c,Rule.d,h2,aA h2,← hL,F2,h8,aA h8,nx,ny,← hfc]
     refine aB (xH t ht (Fn t rs[i] h L[j])) ((by first|rfl|(simp [go_sem,← List.map_take,← List.map_drop,Mat.c,Mat.d,Host.c,Host.d,Stp26.c,Rule.c,Rule.d,h2,aA h2,← hL,F2,h8,aA h8,nx,ny,← hfc];done))) ?_
     try simp [go_sem,seval,Mat.c,Mat.d,Host.c,Host.d,Stp26.c,Rule.c,Rule.d,h2,aA h2,← hL,F2,h8,aA h8,nx,ny,← hfc]
     refine aP (fun h14=>?_) (fun h14=>?_)
     ·try simp [go_sem] at h14
      have hn14:sS t (Fn t rs[i] h L[j])≠0:=by simpa using h14
      rw [if_pos hn14] at hdm
      have hE:kO t h 0 rs=(ws,sS t (Fn t rs[i] h L[j])):=by rw [hV,hdr,hMu,hdm,if_pos hn14,hus];simp
      try simp [go_sem,seval,Mat.c,Mat.d,Host.c,Host.d,Stp26.c,Rule.c,Rule.d,h2,aA h2,← hL,F2,h8,aA h8,nx,ny,← hfc]
      rw [hE] at hQ;exact hQ _ (hw _ _ _ hIw (fun x hx=>by simp [go_sem,cO hx]) (by simp [go_sem];omega)) (by simp [go_sem];omega)
     ·try simp [go_sem] at h14
      rw [if_neg (by simpa using h14),← hfc] at hdm
      have hM1:∃ us,ws++[⟨(i:Int),L[j],finC⟩]=vs++us∧oH t rs[i] h i L=(us++(oH t rs[i] h i (L.drop (j+1))).1,(oH t rs[i] h i (L.drop (j+1))).2):=⟨us++[⟨(i:Int),L[j],finC⟩],by rw [hus];simp,by rw [hMu,hdm];simp⟩
      have hex:∃ r,(kO t h 0 rs).1=ws++⟨(i:Int),L[j],finC⟩ :: r:=by
       rw [hV,hdr]
       split
       ·exact ⟨(oH t rs[i] h i (L.drop (j+1))).1,by rw [hMu,hdm,hus];simp⟩
       ·exact ⟨(oH t rs[i] h i (L.drop (j+1))).1++(kO t h (i+1) (rs.drop (i+1))).1,by rw [hMu,hdm,hus];simp⟩
      try simp [go_sem,seval,Mat.c,Mat.d,Host.c,Host.d,Stp26.c,Rule.c,Rule.d,h2,aA h2,← hL,F2,h8,aA h8,nx,ny,← hfc]
      unfold dO
      refine hs ws ⟨(i:Int),L[j],finC⟩ _ hex ?_ ?_ _ (fun H1 I1 f1 n1=>?_)
      focus refine hw _ _ _ hIw ?_ ?_;intro x hx;simp [go_sem,cO hx];simp [go_sem];omega
      focus simp [go_sem];omega
      simp [go_sem] at f1 n1
      have g1:=f1 c (by omega) (by omega)
      simp [go_sem,F2] at g1
      try simp [go_sem,seval,Mat.c,Mat.d,Host.c,Host.d,Stp26.c,Rule.c,Rule.d,h2,aA h2,← hL,F2,h8,aA h8,nx,ny,← hfc,g1]
      repeat first|intro _|refine ⟨fT,?_⟩
      refine fN (j+1) (by omega) ((hI2 _ _ _).2 ⟨(c),(ws++[⟨(i:Int),L[j],finC⟩]),?_,?_,?_,?_,?_,?_,?_,?_,?_,?_,?_,?_,?_,(by first|assumption|omega|(simp [go_sem,Mat.c,Mat.d,Host.c,Host.d,Stp26.c,Rule.c,Rule.d,h2,aA h2,← hL,F2,h8,aA h8,nx,ny,← hfc,g1,h5,h11,h14];done)|(simp_all<;>omega)),(by (exact I1)),(by (omega)),(by (exact hcg)),(by (exact hM1))⟩)<;>first|omega|(simp [go_sem,seval,Mat.c,Mat.d,Host.c,Host.d,Stp26.c,Rule.c,Rule.d,h2,aA h2,← hL,F2,h8,aA h8,nx,ny,← hfc,g1]<;>omega)
   ·try simp [go_sem] at h8
    obtain ⟨us,hus,hMu⟩:=hM
    have hM2:oH t rs[i] h i L=(us,0):=by rw [hMu,dW (by omega)];simp [oH]
    rw [hM2,if_neg (by simp)] at hdr
    have hVw:kO t h 0 rs=(ws++(kO t h (i+1) (rs.drop (i+1))).1,(kO t h (i+1) (rs.drop (i+1))).2):=by rw [hV,hdr,hus];simp
    try simp [go_sem,seval,Mat.c,Mat.d,Host.c,Host.d,Stp26.c,Rule.c,Rule.d,h2,aA h2,← hL,F2]
    repeat first|intro _|refine ⟨fT,?_⟩
    refine fN (i+1) (by omega) ((hI0 _ _ _).2 ⟨(ws),?_,?_,?_,?_,?_,?_,(by first|assumption|omega|(simp [go_sem,Mat.c,Mat.d,Host.c,Host.d,Stp26.c,Rule.c,Rule.d,h2,aA h2,← hL,F2,h5,h8];done)|(simp_all<;>omega)),(by (exact hIw)),(by (exact hnw)),(by (exact hVw))⟩)<;>first|omega|(simp [go_sem,seval,Mat.c,Mat.d,Host.c,Host.d,Stp26.c,Rule.c,Rule.d,h2,aA h2,← hL,F2]<;>omega)
 ·try simp [go_sem] at h2
  have hE:kO t h 0 rs=(vs,0):=by rw [hV,dW (by omega)];simp [kO]
  try simp [go_sem,seval,Mat.c,Mat.d,Host.c,Host.d,Stp26.c,Rule.c,Rule.d,F0]
  rw [hE] at hQ;exact hQ _ hI hnx
structure XS where
 hosts:List Host
 arrs:List Arr
 all:Bool
def zC (a b:Arr):Bool:=decide (bV a.key b.key=0)
def wQ (x:XS)(hs:List Host)(a:Arr):XS:=⟨hs,if x.arrs.any (zC a)=true then x.arrs else x.arrs++[a],x.all⟩
def lC (most:Int)(i:Int)(x:XS)(v:Vis):XS :=
 if Dh x.hosts v.fin<0∧(x.hosts.length:Int)=most then { x with all:=false }
 else if Dh x.hosts v.fin<0 then wQ x (x.hosts++[v.fin]) ⟨v.rule,i,x.hosts.length,v.m⟩
 else wQ x x.hosts ⟨v.rule,i,Dh x.hosts v.fin,v.m⟩
theorem A5 (a b:Arr):Pure Tryz.prog 25 [b.d,.adr a.c] (.bool (zC a b)):=by
 refine Tz.pK ⟨fun _=>false,fun _=>[]⟩ Tryz.func25 rfl (fun Q hQ=>?_)
 have Y:=wa @Arr.d.eq_1 @Arr.c.eq_1
 refine wv (h:=aB (qM a b) wl ?_)
 exact wv (h:=hQ _ _ (by simp [go_sem,zC];rfl))
structure HX (H:AHeap) (s hb al at' ar ab:Nat) (i:Int) (d:D) (x:XS):Prop where
 s:H.get s=some ⟨28,2,[[.own hb x.hosts.length,d]],false⟩
 hb:H.get hb=some ⟨50,3,x.hosts.map Host.c,false⟩
 al:H.get al=some ⟨4,1,[[.bool x.all]],false⟩
 at':H.get at'=some ⟨3,1,[[dI i]],false⟩
 ar:H.get ar=some ⟨26,1,[[.own ab x.arrs.length]],false⟩
 ab:H.get ab=some ⟨37,6,x.arrs.map Arr.c,false⟩
theorem KS (most i:Int)(s hb al at' ar ab:Nat)(d:D)(x:XS)(v:Vis)(G:AHeap)(Q:D→AHeap→Prop)(hx:HX G s hb al at' ar ab i d x)
  (hd:s≠hb∧s≠al∧s≠at'∧s≠ar∧s≠ab∧hb≠al∧hb≠at'∧hb≠ar∧hb≠ab∧al≠at'∧al≠ar∧al≠ab∧at'≠ar∧at'≠ab∧ar≠ab)
  (hl:s<G.next∧hb<G.next∧al<G.next∧at'<G.next∧ar<G.next∧ab<G.next) (h1:x.hosts.length≤1000000000) (h2:x.arrs.length≤1000000000)
  (hQ:∀ H',HX H' s hb al at' ar ab i d (lC most i x v)→(∀ j,j<G.next→j≠s→j≠hb→j≠al→j≠ar→j≠ab→H'.get j=G.get j)→G.next≤H'.next→Q (.tup []) H') :
  ACalls Tryz.prog 22 [dI v.rule,v.m.d,v.fin.d,.ptr s 1 0 0,.adr [dI most],.ptr al 1 0 0,.ptr at' 1 0 0,.ptr ar 1 0 0] G Q:=by
 obtain ⟨e1,e2,e3,e4,e5,e6⟩:=hx
 obtain ⟨l1,l2,l3,l4,l5,l6⟩:=hl
 have f1:=cO l1
 have f2:=cO l2
 have f3:=cO l3
 have f4:=cO l4
 have f5:=cO l5
 have f6:=cO l6
 obtain ⟨n1,n2,n3,n4,n5,n6,n7,n8,n9,n10,n11,n12,n13,n14,n15⟩:=hd
 have m1:=n1.symm
 have m2:=n2.symm
 have m3:=n3.symm
 have m4:=n4.symm
 have m5:=n5.symm
 have m6:=n6.symm
 have m7:=n7.symm
 have m8:=n8.symm
 have m9:=n9.symm
 have m10:=n10.symm
 have m11:=n11.symm
 have m12:=n12.symm
 have m13:=n13.symm
 have m14:=n14.symm
 have m15:=n15.symm
 obtain ⟨k,hk⟩:∃ k,k=Dh x.hosts v.fin:=⟨_,rfl⟩
 refine (aH (cfg:=⟨fun t=>t==12,fun _=>[]⟩) Tz.mixed Tryz.func22 rfl rfl (aD rfl) (by kernel_rfl) ?_)
 have Y:=wa e1 (wa e2 (wa e3 (wa e4 (wa e5 (wa e6 (wa f1 (wa f2 (wa f3 (wa f4 (wa f5 (wa f6 (wa n1 (wa n2 (wa n3 (wa n4 (wa n5 (wa n6 (wa n7 (wa n8 (wa n9 (wa n10 (wa n11 (wa n12 (wa n13 (wa n14 (wa n15 (wa m1 (wa m2 (wa m3 (wa m4 (wa m5 (wa m6 (wa m7 (wa m8 (wa m9 (wa m10 (wa m11 (wa m12 (wa m13 (wa m14 (wa m15 (wa @Mat.d.eq_1 (wa @Mat.c.eq_1 (wa @Host.d.eq_1 (wa @Host.c.eq_1 (wa @Arr.c.eq_1 (Eq.symm hk)))))))))))))))))))))))))))))))))))))))))))))))
 refine wv (h:=lO ((BM x.hosts v.fin)) wr wl rfl ?_)
 refine qJ (fun h2=>?_) fun h2=>?_
 ·have hE:lC most i x v={ x with all:=false }:=by
   unfold lC;rw [← hk,if_pos (by first|exact h2|(simpa using h2))]
  refine wv (h:=?_)
  rw [hE] at hQ;exact hQ _ ⟨by simp [go_sem,Y],by simp [go_sem,Y],by simp [go_sem,Y],by simp [go_sem,Y],by simp [go_sem,Y],by simp [go_sem,Y]⟩ (fun j hj p1 p2 p3 p4 p5=>by simp [go_sem,p1,p2,p3,p4,p5,cO hj]) (by first|(simp [go_sem];done)|(simp [go_sem];omega))
 ·have hn2:¬ (k<0∧(x.hosts.length:Int)=most):=by first|exact h2|(intro hh;exact h2 hh.1 hh.2)|(simpa using h2)
  refine dU (fun h4=>?_) fun h4=>?_
  ·have hk0:k<0:=by first|exact h4|(simpa using h4)
   obtain ⟨aw,haw⟩:∃ a:Arr,a=⟨v.rule,i,(x.hosts.length:Int),v.m⟩:=⟨_,rfl⟩
   obtain ⟨hs,hhs⟩:∃ l:List Host,l=x.hosts++[v.fin]:=⟨_,rfl⟩
   have hE:lC most i x v=wQ x hs aw:=by
    unfold lC;rw [← hk,if_neg hn2,if_pos hk0,hhs,haw]
   have cAw:Pure Tryz.prog 24 [.list (x.arrs.map Arr.c),.fn 25 [.adr [dI v.rule,dI i,dI x.hosts.length,dLI v.m.m.nodes,dLI v.m.m.edges,dLI v.m.vars]]] (.bool (x.arrs.any (zC aw))):=by
    rw [haw];exact tY x.arrs _ _ _ (by simp [go_sem,dLI]) (by simp [go_sem]) fun y _=>A5 ⟨v.rule,i,(x.hosts.length:Int),v.m⟩ y
   refine wp (h:=lO (cAw) wr wl rfl ?_)
   refine qJ (fun h8=>?_) fun h8=>?_
   ·have hA:x.arrs.any (zC aw)=false:=by first|exact h8|(simpa using h8)
    have hE2:wQ x hs aw=⟨hs,x.arrs++[aw],x.all⟩:=by unfold wQ;rw [hA];rfl
    refine wp (h:=?_)
    rw [hE,hE2] at hQ;exact hQ _ ⟨by simp [go_sem,Y,hhs],by simp [go_sem,Y,hhs],by simp [go_sem,Y],by simp [go_sem,Y],by simp [go_sem,Y,haw],by simp [go_sem,Y,haw]⟩ (fun j hj p1 p2 p3 p4 p5=>by simp [go_sem,p1,p2,p3,p4,p5,cO hj]) (by first|(simp [go_sem];done)|(simp [go_sem];omega))
   ·have hA:x.arrs.any (zC aw)=true:=by first|exact h8|(simpa using h8)
    have hE2:wQ x hs aw=⟨hs,x.arrs,x.all⟩:=by unfold wQ;rw [hA];rfl
    refine wv (h:=?_)
    rw [hE,hE2] at hQ;exact hQ _ ⟨by simp [go_sem,Y,hhs],by simp [go_sem,Y,hhs],by simp [go_sem,Y],by simp [go_sem,Y],by simp [go_sem,Y,haw],by simp [go_sem,Y,haw]⟩ (fun j hj p1 p2 p3 p4 p5=>by simp [go_sem,p1,p2,p3,p4,p5,cO hj]) (by first|(simp [go_sem];done)|(simp [go_sem];omega))
  ·have hk0:¬ k<0:=by first|exact h4|(simpa using h4)|omega
   obtain ⟨aw,haw⟩:∃ a:Arr,a=⟨v.rule,i,k,v.m⟩:=⟨_,rfl⟩
   obtain ⟨hs,hhs⟩:∃ l:List Host,l=x.hosts:=⟨_,rfl⟩
   have hE:lC most i x v=wQ x hs aw:=by
    unfold lC;rw [← hk,if_neg hn2,if_neg hk0,hhs,haw]
   have cAw:Pure Tryz.prog 24 [.list (x.arrs.map Arr.c),.fn 25 [.adr [dI v.rule,dI i,dI k,dLI v.m.m.nodes,dLI v.m.m.edges,dLI v.m.vars]]] (.bool (x.arrs.any (zC aw))):=by
    rw [haw];exact tY x.arrs _ _ _ (by simp [go_sem,dLI]) (by simp [go_sem]) fun y _=>A5 ⟨v.rule,i,k,v.m⟩ y
   refine wp (h:=lO (cAw) wr wl rfl ?_)
   refine qJ (fun h8=>?_) fun h8=>?_
   ·have hA:x.arrs.any (zC aw)=false:=by first|exact h8|(simpa using h8)
    have hE2:wQ x hs aw=⟨hs,x.arrs++[aw],x.all⟩:=by unfold wQ;rw [hA];rfl
    refine wp (h:=?_)
    rw [hE,hE2] at hQ;exact hQ _ ⟨by simp [go_sem,Y,hhs],by simp [go_sem,Y,hhs],by simp [go_sem,Y],by simp [go_sem,Y],by simp [go_sem,Y,haw],by simp [go_sem,Y,haw]⟩ (fun j hj p1 p2 p3 p4 p5=>by simp [go_sem,p1,p2,p3,p4,p5,cO hj]) (by first|(simp [go_sem];done)|(simp [go_sem];omega))
   ·have hA:x.arrs.any (zC aw)=true:=by first|exact h8|(simpa using h8)
    have hE2:wQ x hs aw=⟨hs,x.arrs,x.all⟩:=by unfold wQ;rw [hA];rfl
    refine wv (h:=?_)
    rw [hE,hE2] at hQ;exact hQ _ ⟨by simp [go_sem,Y,hhs],by simp [go_sem,Y,hhs],by simp [go_sem,Y],by simp [go_sem,Y],by simp [go_sem,Y,haw],by simp [go_sem,Y,haw]⟩ (fun j hj p1 p2 p3 p4 p5=>by simp [go_sem,p1,p2,p3,p4,p5,cO hj]) (by first|(simp [go_sem];done)|(simp [go_sem];omega))
def FH (a b:Arr):Int:=if a.from_≠b.from_ then IntKind.i64.wrap (a.from_ - b.from_) else if a.rule≠b.rule then IntKind.i64.wrap (a.rule - b.rule) else IntKind.i64.wrap (a.to_ - b.to_)
def Arr.small (a:Arr):Prop:=(0≤a.from_∧a.from_≤1000000)∧(0≤a.rule∧a.rule≤1000000)∧-1≤a.to_∧a.to_≤1000000
theorem DL {a b:Arr}(ha:a.small)(hb:b.small):(FH a b<0↔bV a.key b.key<0)∧(0<FH a b↔0<bV a.key b.key)∧(FH a b=0↔bV a.key b.key=0):=by
 obtain ⟨a1,a2,a3⟩:=ha
 obtain ⟨b1,b2,b3⟩:=hb
 unfold FH Arr.key
 simp only [bV,IntKind.wrap_i64]
 repeat' split
 all_goals first|omega|(refine ⟨?_,?_,?_⟩<;>omega)
def SZ (l:List Arr)(x:Arr)(k:Nat):Arr:=l[k]?.getD x
def PR (l:List Arr)(x:Arr):Nat→Nat
 | 0=>0
 | k+1=>if 0<FH (SZ l x k) x then PR l x k else k+1
def EF (l:List Arr)(x:Arr):List Arr :=
 if 0<PR l x l.length∧FH (SZ l x (PR l x l.length - 1)) x=0 then l else l.take (PR l x l.length)++x :: l.drop (PR l x l.length)
def ValB (h:Host):Prop:=∀ v∈h.values,v.length≤1000∧∀ x∈v,-1000000≤x∧x≤1000000
def W9 (l:List Host)(i:Nat):Host:=l[i]?.getD Hp
def Qd (most i:Int)(x:XS)(v:Vis):XS :=
 if Dh x.hosts v.fin<0∧(x.hosts.length:Int)=most then { x with all:=false }
 else if Dh x.hosts v.fin<0 then ⟨x.hosts++[v.fin],EF x.arrs ⟨v.rule,i,x.hosts.length,v.m⟩,x.all⟩
 else ⟨x.hosts,EF x.arrs ⟨v.rule,i,Dh x.hosts v.fin,v.m⟩,x.all⟩
theorem J3 (l:List Arr)(x:Arr):(EF l x).length≤l.length+1:=by
 unfold EF
 split
 ·omega
 ·rw [aT,bW,bL,dY];omega
structure XOk (most:Int) (B:Nat) (x:XS):Prop where
 hl:(x.hosts.length:Int)≤most
 vb:∀ h∈x.hosts,ValB h
 al:x.arrs.length≤B
theorem XOk.step {most i:Int}{B:Nat}{x:XS}{v:Vis}(h:XOk most B x)(hv:ValB v.fin):XOk most (B+1) (Qd most i x v)∧∃ l,(Qd most i x v).hosts=x.hosts++l:=by
 unfold Qd
 split
 ·exact ⟨⟨h.hl,h.vb,Nat.le_succ_of_le h.al⟩,[],by simp⟩
 ·rename_i hn
  split
  ·rename_i hk
   have hl:=h.hl
   refine ⟨⟨by simp only [aT,wA];have:¬ (x.hosts.length:Int)=most:=fun q=>hn ⟨hk,q⟩;omega,fun a ha=>?_,cQ (J3 _ _) (by have:=h.al;omega)⟩,_,rfl⟩
   rcases aW.1 ha with ha|ha
   ·exact h.vb a ha
   ·rw [aR.1 ha];exact hv
  ·exact ⟨⟨h.hl,h.vb,cQ (J3 _ _) (by have:=h.al;omega)⟩,[],by simp⟩
def XS.d (x:XS):D:=.agg [.list (x.hosts.map Host.c),.list (x.arrs.map Arr.c)]
theorem O2 (l:List Host):dX (l.map Host.c)=l.map Host.c:=lK fun c hc=>by
 rw [aS] at hc;obtain ⟨y,_,rfl⟩:=hc;simp [Host.c,jY,fW,dLI,qS,O3,QB]
theorem QD (l:List Arr):dX (l.map Arr.c)=l.map Arr.c:=lK fun c hc=>by
 rw [aS] at hc;obtain ⟨y,_,rfl⟩:=hc;simp [Arr.c,jY,fW,dLI,dI,qS]
@[go_sem] theorem XS.dcl (x:XS):x.d.cl=true:=by simp [XS.d,go_sem]
theorem Jt {t:Types}{r:Rule}{h:Host}{i:Int}:∀ l:List Mat,(oH t r h i l).1.length≤l.length
 | []=>by simp [oH]
 | m :: l=>by
  have ih:=Jt (t:=t) (r:=r) (h:=h) (i:=i) l
  simp only [oH]
  split
  ·simp
  ·split
   ·simp
   ·simp only [bW];omega
theorem DQ {t:Types}{h:Host}:∀ (rs:List Rule) (k:Nat),(kO t h k rs).1.length≤5000 * rs.length
 | [],_=>by simp [kO]
 | r :: l,k=>by
  have ih:=DQ (t:=t) (h:=h) l (k+1)
  have ha:=S4 t r h
  have hm:=Jt (t:=t) (r:=r) (h:=h) (i:=k) (sU t r h).1
  simp only [kO]
  split
  ·simp
  ·split
   ·rw [bW];omega
   ·rw [aT,bW];omega
theorem Ou (most i:Int)(x:XS)(v:Vis):(lC most i x v).hosts.length≤x.hosts.length+1∧(lC most i x v).arrs.length≤x.arrs.length+1:=by
 have hp:∀ hs a,(wQ x hs a).hosts=hs∧(wQ x hs a).arrs.length≤x.arrs.length+1:=fun hs a=>by
  unfold wQ
  refine ⟨rfl,?_⟩
  simp only
  split<;>simp
 unfold lC
 split
 ·simp
 ·split
  ·rw [(hp _ _).1];exact ⟨by simp,(hp _ _).2⟩
  ·rw [(hp _ _).1];exact ⟨by simp,(hp _ _).2⟩
theorem Cb (most i:Int):∀ (vs:List Vis) (x:XS),(vs.foldl (lC most i) x).hosts.length≤x.hosts.length+vs.length∧(vs.foldl (lC most i) x).arrs.length≤x.arrs.length+vs.length
 | [],x=>by simp
 | v :: l,x=>by
  have h:=Ou most i x v
  have ih:=Cb most i l (lC most i x v)
  simp only [c8,bW];omega
def Oh (t:Types)(rs:List Rule)(hh:Host)(most i:Int)(x:XS):XS:=(kO t hh 0 rs).1.foldl (lC most i) ⟨x.hosts,[],x.all⟩
def DR (H:AHeap)(s hb al ar q:Nat)(d:D)(y:XS):AHeap:=((((H.put s ⟨28,2,[[.own hb y.hosts.length,d]],false⟩).put hb ⟨50,3,y.hosts.map Host.c,false⟩).put al ⟨4,1,[[.bool y.all]],false⟩).put ar ⟨26,1,[[.own q y.arrs.length]],false⟩).push q ⟨37,6,y.arrs.map Arr.c,false⟩
theorem IU {md:Nat→Bool}{ops:Array Oper}{sp:List (Nat × Nat)}{n0 ix:Nat}{rest:List Oper}{acc:List (Nat × List Nat)}{e:c7}{dst:Option Tmp}{K:c7→AHeap→Prop}{H:AHeap}
  (t:Types) (ht:t.ok) (rs:List Rule) (hrs:∀ r∈rs,r.ok) (hr10:rs.length≤10) (hh:Host) (most i:Int) (x:XS) (hx:x.hosts.length≤1000) (s hb al at' ar q sa m:Nat)
  (e1:H.get s=some ⟨28,2,[[.own hb x.hosts.length,.own sa m]],false⟩) (e2:H.get hb=some ⟨50,3,x.hosts.map Host.c,false⟩) (e3:H.get al=some ⟨4,1,[[.bool x.all]],false⟩) (e4:H.get at'=some ⟨3,1,[[dI i]],false⟩)
  (e5:H.get ar=some ⟨26,1,[[.nil]],false⟩) (e6:∃ k,H.get sa=some k)
  (hd:s≠hb∧s≠al∧s≠at'∧s≠ar∧hb≠al∧hb≠at'∧hb≠ar∧al≠at'∧al≠ar∧at'≠ar)
  (hq:q<n0) (hqa:¬ H.al q) (hmd:CR md dst=true) (hck:Dr sp ix [s,hb,al,at',ar,sa,q] acc)
  (hK:jL Tryz.prog md ops sp n0 (ix+1) rest ((ix,[s,hb,al,at',ar,sa,q]) :: acc) (kY e dst (dI (kO t hh 0 rs).2)) (DR H s hb al ar q (.own sa m) (Oh t rs hh most i x)) K) :
  rC Tryz.prog md ops sp n0 ix rest acc e dst K 21 [t.d,.list (rs.map Rule.c),hh.d,.fn 22 [.ptr s 1 0 0,.adr [dI most],.ptr al 1 0 0,.ptr at' 1 0 0,.ptr ar 1 0 0]] H:=by
 obtain ⟨y,hy⟩:∃ y,y=Oh t rs hh most i x:=⟨_,rfl⟩
 rw [← hy] at hK
 obtain ⟨x0,hx0⟩:∃ x0:XS,x0=⟨x.hosts,[],x.all⟩:=⟨_,rfl⟩
 have hyf:y=(kO t hh 0 rs).1.foldl (lC most i) x0:=by rw [hy,hx0];rfl
 have hVl:(kO t hh 0 rs).1.length≤50000:=by have:=DQ (t:=t) (h:=hh) rs 0;omega
 obtain ⟨d1,d2,d3,d4,d5,d6,d7,d8,d9,d10⟩:=hd
 unfold rC
 refine Or.inr ⟨hmd,dI (kO t hh 0 rs).2,[s,hb,al,at',ar,sa],[(s,⟨28,2,[[.own hb y.hosts.length,.own sa m]],false⟩),(hb,⟨50,3,y.hosts.map Host.c,false⟩),(al,⟨4,1,[[.bool y.all]],false⟩),(ar,⟨26,1,[[.own q y.arrs.length]],false⟩)],[(q,⟨37,6,y.arrs.map Arr.c,false⟩)],
  (fun p hp=>by
   simp only [aO,eW,or_false] at hp
   rcases hp with rfl|rfl|rfl|rfl<;>simp),
  (fun p hp=>by
   rw [aR.1 hp];exact ⟨hq,hqa⟩),
  (fun H' hag hfr=>?_),hck,hK⟩
 obtain ⟨hq',hqa'⟩:=hfr (q,_) (aR.2 rfl)
 simp only at hq' hqa'
 have f1:=(hag s (by simp)).trans e1
 have f2:=(hag hb (by simp)).trans e2
 have f3:=(hag al (by simp)).trans e3
 have f4:=(hag at' (by simp)).trans e4
 have f5:=(hag ar (by simp)).trans e5
 obtain ⟨ksa,e6⟩:=e6
 have f6:=(hag sa (by simp)).trans e6
 have hEnt:RQ Tryz.prog 21:=⟨Tryz.f21,Tryz.func21,rfl,rfl⟩
 refine ACalls.wf hEnt fun hnx hnon=>?_
 have hal:∀ {j k},H'.get j=some k→H'.al j:=fun {j k} hj=>bJ fun hn=>by rw [hnon j hn] at hj;cases hj
 have l1:=hnx s (hal f1)
 have l2:=hnx hb (hal f2)
 have l3:=hnx al (hal f3)
 have l4:=hnx at' (hal f4)
 have l5:=hnx ar (hal f5)
 have l6:=hnx sa (hal f6)
 have nq:∀ {j k},H'.get j=some k→j≠q:=fun {j k} hj e=>hqa' (e ▸ hal hj)
 obtain ⟨I,hI⟩:∃ I:List Vis→AHeap→Prop,I=fun vs H1=>HX H1 s hb al at' ar H'.next i (.own sa m) (vs.foldl (lC most i) x0)∧(∀ j,j<H'.next→j≠s→j≠hb→j≠al→j≠ar→H1.get j=H'.get j)∧H'.next<H1.next:=⟨_,rfl⟩
 have hgh:Ghosts H' (nD H' ar 0 0 37 6):=.step (.refl _) ar 0 0 _ _ _ _ f5 rfl rfl rfl
 have hgn:(nD H' ar 0 0 37 6).next=H'.next+1:=by simp [nD,f5,AHeap.push,AHeap.put]
 have hgg:∀ j,j≠ar→j≠H'.next→(nD H' ar 0 0 37 6).get j=H'.get j:=fun j p1 p2=>by simp [nD,f5,AHeap.push,AHeap.put,p1,p2]
 have hv:=BL t ht rs hrs hh 22 [.ptr s 1 0 0,.adr [dI most],.ptr al 1 0 0,.ptr at' 1 0 0,.ptr ar 1 0 0] (nD H' ar 0 0 37 6) (fun d1 H1=>d1=dI (kO t hh 0 rs).2∧I (kO t hh 0 rs).1 H1) I
  (by
   rw [hI]
   simp only [List.foldl_nil,hx0]
   refine ⟨⟨?_,?_,?_,?_,?_,?_⟩,fun j hj p1 p2 p3 p4=>?_,by rw [hgn];omega⟩
   ·rw [hgg _ d4 (by omega)];exact f1
   ·rw [hgg _ d7 (by omega)];exact f2
   ·rw [hgg _ d9 (by omega)];exact f3
   ·rw [hgg _ d10 (by omega)];exact f4
   ·simp [nD,f5,AHeap.push,AHeap.put,show ar≠H'.next by omega]
   ·simp [nD,f5,AHeap.push,AHeap.put]
   ·exact hgg j p4 (by omega))
  (fun vs H1 H2 h1 h2 h3=>by
   rw [hI] at h1 ⊢
   obtain ⟨⟨g1,g2,g3,g4,g5,g6⟩,g7,g8⟩:=h1
   exact ⟨⟨(h2 _ (by omega)).trans g1,(h2 _ (by omega)).trans g2,(h2 _ (by omega)).trans g3,(h2 _ (by omega)).trans g4,(h2 _ (by omega)).trans g5,(h2 _ g8).trans g6⟩,fun j hj p1 p2 p3 p4=>(h2 j (by omega)).trans (g7 j hj p1 p2 p3 p4),by omega⟩)
  (fun vs v H1 hpre h1 hn K1 hK1=>by
   rw [hI] at h1
   obtain ⟨hX,hF,hN⟩:=h1
   obtain ⟨r,hr⟩:=hpre
   have hvl:vs.length≤50000:=by have:=congrArg List.length hr;simp at this;omega
   have hfl:=Cb most i vs x0
   have hx0l:x0.hosts.length=x.hosts.length∧x0.arrs.length=0:=by rw [hx0];exact ⟨rfl,rfl⟩
   refine KS most i s hb al at' ar H'.next (.own sa m) (vs.foldl (lC most i) x0) v H1 K1 hX ⟨d1,d2,d3,d4,by omega,d5,d6,d7,by omega,d8,d9,by omega,d10,by omega,by omega⟩ ⟨by omega,by omega,by omega,by omega,by omega,by omega⟩ (by omega) (by omega) fun H3 hX3 hF3 hN3=>hK1 H3 ?_ (fun z z1 z2=>hF3 z z2 ?_ ?_ ?_ ?_ ?_) hN3
   ·rw [hI]
    exact ⟨by rw [cG];exact hX3,fun j hj p1 p2 p3 p4=>(hF3 j (by omega) p1 p2 p3 p4 (by omega)).trans (hF j hj p1 p2 p3 p4),by omega⟩
   all_goals (rw [hgn] at z1;omega))
  (fun H1 h1 _=>⟨rfl,h1⟩)
 refine ACalls.exact (E:=DR H' s hb al ar q (.own sa m) y) (hv.ghosts hgh) fun _ _ d1 H1 hq1=>?_
 obtain ⟨rfl,h1⟩:=hq1
 rw [hI] at h1
 obtain ⟨⟨g1,g2,g3,g4,g5,g6⟩,g7,g8⟩:=h1
 rw [← hyf] at g1 g2 g3 g5 g6
 obtain ⟨E,hE⟩:∃ E,E=DR H' s hb al ar q (.own sa m) y:=⟨_,rfl⟩
 have n1:=nq f1
 have n2:=nq f2
 have n3:=nq f3
 have n5:=nq f5
 have a1:=hal f1
 have a2:=hal f2
 have a3:=hal f3
 have a5:=hal f5
 have a6:=hal f6
 have hEal:∀ j,E.al j↔j=q∨H'.al j:=fun j=>by rw [hE];exact Iff.rfl
 have hEn:E.next=H'.next:=by rw [hE];simp [DR,AHeap.push,AHeap.put,hq']
 have hEg:∀ j,j≠q→j≠s→j≠hb→j≠al→j≠ar→E.get j=H'.get j:=fun j p0 p1 p2 p3 p4=>by rw [hE];simp [DR,AHeap.push,AHeap.put,p0,p1,p2,p3,p4]
 have k1:E.get s=some ⟨28,2,[[.own hb y.hosts.length,.own sa m]],false⟩:=by rw [hE];simp [DR,AHeap.push,AHeap.put,n1,d1,d2,d4]
 have k2:E.get hb=some ⟨50,3,y.hosts.map Host.c,false⟩:=by rw [hE];simp [DR,AHeap.push,AHeap.put,n2,d5,d7]
 have k3:E.get al=some ⟨4,1,[[.bool y.all]],false⟩:=by rw [hE];simp [DR,AHeap.push,AHeap.put,n3,d9]
 have k5:E.get ar=some ⟨26,1,[[.own q y.arrs.length]],false⟩:=by rw [hE];simp [DR,AHeap.push,AHeap.put,n5]
 have kq:E.get q=some ⟨37,6,y.arrs.map Arr.c,false⟩:=by rw [hE];simp [DR,AHeap.push]
 have hτ:∀ j,j≠q→(if j=q then H'.next else j)=j:=fun j hj=>if_neg hj
 have hcl:∀ (l:List (List D)),D.clLL l=true→l.map (·.map (tI fun j=>if j=q then H'.next else j))=l∧∀ c∈l,∀ z∈c,Ua E.al z:=fun l hl=>by
  have hz:∀ c∈l,∀ z∈c,z.cl=true:=fun c hc z hz=>gF (mY hl c hc) z hz
  refine ⟨?_,fun c hc z hzz=>?_⟩
  ·have:l.map (·.map (tI fun j=>if j=q then H'.next else j))=l.map id:=bP fun c hc=>by
    have:c.map (tI fun j=>if j=q then H'.next else j)=c.map id:=bP fun z hzz=>by
     have:=hz c hc z hzz
     cases z<;>first|rfl|(simp [D.cl] at this)
    simpa using this
   simpa using this
  ·have:=hz c hc z hzz
   cases z<;>first|exact this|(simp [D.cl] at this)
 rw [← hE]
 refine ⟨fun j=>if j=q then H'.next else j,⟨fun j hj=>?_,fun a b ha hb e=>?_,fun j hj=>⟨(hEal j).2 (.inr hj),hτ j fun e=>hqa' (e ▸ hj)⟩,fun j hj=>?_,fun j k hj=>?_⟩,rfl,rfl⟩
 ·rw [hEn]
  rcases (hEal j).1 hj with rfl|h
  ·exact hq'
  ·exact hnx j h
 ·have la:a≠q→a<H'.next:=fun h=>by
   rcases (hEal a).1 ha with h'|h'
   ·exact absurd h' h
   ·exact hnx a h'
  have lb:b≠q→b<H'.next:=fun h=>by
   rcases (hEal b).1 hb with h'|h'
   ·exact absurd h' h
   ·exact hnx b h'
  by_cases p1:a=q<;>by_cases p2:b=q<;>simp [p1,p2] at e ⊢
  ·have:=lb p2;omega
  ·have:=la p1;omega
  ·exact e
 ·have p0:j≠q:=fun e=>hj ((hEal j).2 (.inl e))
  have pj:¬ H'.al j:=fun e=>hj ((hEal j).2 (.inr e))
  rw [hEg j p0 (fun e=>pj (e ▸ a1)) (fun e=>pj (e ▸ a2)) (fun e=>pj (e ▸ a3)) (fun e=>pj (e ▸ a5))]
  exact hnon j pj
 ·by_cases p0:j=q
  ·subst p0;rw [kq] at hj;cases hj
   exact .inr ⟨_,by rw [if_pos rfl];exact g6,rfl,rfl,rfl,(hcl _ (N8 _)).1.symm,(hcl _ (N8 _)).2⟩
  ·by_cases p1:j=s
   ·subst p1;rw [k1] at hj;cases hj
    exact .inr ⟨_,by rw [hτ _ p0];exact g1,rfl,rfl,rfl,by simp [tI,n2,nq f6],fun c hc z hz=>by
     rw [aR.1 hc] at hz
     simp only [aO,eW,or_false] at hz
     rcases hz with rfl|rfl
     ·exact (hEal _).2 (.inr a2)
     ·exact (hEal _).2 (.inr a6)⟩
   ·by_cases p2:j=hb
    ·subst p2;rw [k2] at hj;cases hj
     exact .inr ⟨_,by rw [hτ _ p0];exact g2,rfl,rfl,rfl,(hcl _ (Ho _)).1.symm,(hcl _ (Ho _)).2⟩
    ·by_cases p3:j=al
     ·subst p3;rw [k3] at hj;cases hj
      exact .inr ⟨_,by rw [hτ _ p0];exact g3,rfl,rfl,rfl,(hcl _ rfl).1.symm,(hcl _ rfl).2⟩
     ·by_cases p4:j=ar
      ·subst p4;rw [k5] at hj;cases hj
       exact .inr ⟨⟨26,1,[[.own H'.next y.arrs.length]],false⟩,by rw [hτ _ p0];exact g5,rfl,rfl,rfl,by simp [tI],fun c hc z hz=>by
        rw [aR.1 hc] at hz
        rw [aR.1 hz]
        exact (hEal _).2 (.inl rfl)⟩
      ·have hg:=hEg j p0 p1 p2 p3 p4
       rw [hg] at hj
       exact .inl ⟨hal hj,hj,(g7 j (hnx j (hal hj)) p1 p2 p3 p4).trans hj⟩
theorem Lj (l:List Arr)(x:Arr):∀ k,k≤l.length→PR l x k≤k∧(∀ j,PR l x k≤j→j<k→0<FH (SZ l x j) x)∧(0<PR l x k→¬ 0<FH (SZ l x (PR l x k - 1)) x)
 | 0,_=>⟨aL _,fun j h1 h2=>by omega,fun h=>absurd h (iX _)⟩
 | k+1,hk=>by
  obtain ⟨i1,i2,i3⟩:=Lj l x k (by omega)
  by_cases hc:0<FH (SZ l x k) x
  ·have e:PR l x (k+1)=PR l x k:=if_pos hc
   rw [e]
   refine ⟨by omega,fun j h1 h2=>?_,i3⟩
   by_cases hj:j=k
   ·rw [hj];exact hc
   ·exact i2 j h1 (by omega)
  ·have e:PR l x (k+1)=k+1:=if_neg hc
   rw [e]
   exact ⟨aL _,fun j h1 h2=>by omega,fun _=>hc⟩
def Ko (a b:Arr):Prop:=bV a.key b.key<0
theorem Jb {l:List Arr}{x:Arr}{j:Nat}(h:j<l.length):SZ l x j=l[j]:=by unfold SZ;rw [aA h];rfl
theorem EV {a b:Arr}:0<bV a.key b.key↔Ko b a:=by unfold Ko;have:=jK a.key b.key;omega
theorem QM {a b c:Arr}(h1:Ko a b)(h2:Ko b c):Ko a c:=nX (by unfold Ko at h1;omega) h2
theorem Qr {S:List Arr}{x:Arr}(hs:S.Pairwise Ko)(hS:∀ a∈S,a.small)(hx:x.small) :
  ((∃ a∈S,bV a.key x.key=0)→EF S x=S)∧((¬ ∃ a∈S,bV a.key x.key=0)→(EF S x).Perm (x :: S)∧(EF S x).Pairwise Ko):=by
 obtain ⟨hp,h1,h2⟩:=Lj S x S.length (aL _)
 obtain ⟨p,hpe⟩:∃ p,p=PR S x S.length:=⟨_,rfl⟩
 rw [← hpe] at hp h1 h2
 have hg:∀ j (hj:j<S.length),p≤j→Ko x S[j]:=fun j hj hpj=>by
  have:=h1 j hpj hj
  rw [Jb hj] at this
  exact EV.1 ((DL (hS _ (aC hj)) hx).2.1.1 this)
 have hle:∀ (h0:0<p),¬ Ko x (S[p - 1]'(by omega)):=fun h0 hc=>by
  have hj:p - 1<S.length:=by omega
  have:=h2 h0
  rw [Jb hj] at this
  exact this ((DL (hS _ (aC hj)) hx).2.1.2 (EV.2 hc))
 have hpw:=b6.1 hs
 have hput:EF S x=if 0<p∧FH (SZ S x (p - 1)) x=0 then S else S.take p++x :: S.drop p:=by unfold EF;rw [← hpe]
 constructor
 ·rintro ⟨a,ha,hk⟩
  obtain ⟨j,hj,rfl⟩:=aM ha
  have hjp:j<p:=Nat.lt_of_not_le fun hc=>by
   have:=hg j hj hc;unfold Ko at this;have n:=jK S[j].key x.key;omega
  have hjp1:j=p - 1:=bJ fun hc=>by
   have q:=hpw j (p - 1) hj (by omega) (by omega)
   have e:x.key=S[j].key:=(nY hk).symm
   exact hle (by omega) (by unfold Ko at q ⊢;rw [e];exact q)
  rw [hput,if_pos]
  refine ⟨by omega,?_⟩
  rw [Jb (by omega)]
  have:=(DL (hS _ (aC hj)) hx).2.2.2 hk
  simpa [← hjp1] using this
 ·intro hno
  have hlt:∀ j (hj:j<S.length),j<p→Ko S[j] x:=fun j hj hjp=>by
   have hp1:p - 1<S.length:=by omega
   have key:Ko S[p - 1] x:=by
    have n1:=hle (by omega)
    have n2:¬ bV S[p - 1].key x.key=0:=fun h=>hno ⟨_,aC hp1,h⟩
    have n3:=@EV S[p - 1] x
    unfold Ko at n1 n3 ⊢
    omega
   by_cases e:j=p - 1
   ·simpa [e] using key
   ·exact QM (hpw j (p - 1) hj hp1 (by omega)) key
  have hne:¬ (0<p∧FH (SZ S x (p - 1)) x=0):=fun ⟨q1,q2⟩=>by
   have hp1:p - 1<S.length:=by omega
   rw [Jb hp1] at q2
   exact hno ⟨_,aC hp1,(DL (hS _ (aC hp1)) hx).2.2.1 q2⟩
  rw [hput,if_neg hne]
  constructor
  ·have:(x :: S).Perm (x :: (S.take p++S.drop p)):=by rw [List.take_append_drop]
   exact List.perm_middle.trans this.symm
  ·rw [pW]
   refine ⟨hs.sublist (List.take_sublist _ _),CB.2 ⟨fun b hb=>?_,hs.sublist (List.drop_sublist _ _)⟩,fun a ha b hb=>?_⟩
   ·obtain ⟨j,hj,rfl⟩:=aM hb
    rw [List.getElem_drop]
    exact hg _ _ (by omega)
   ·obtain ⟨j,hj,rfl⟩:=aM ha
    rw [bL] at hj
    rw [List.getElem_take]
    have hax:=hlt j (by omega) (by omega)
    rcases aO.1 hb with rfl|hb
    ·exact hax
    ·obtain ⟨q,hq,rfl⟩:=aM hb
     rw [List.getElem_drop]
     exact QM hax (hg _ _ (by omega))
def Ea (l:List Arr):List Arr:=l.foldl EF []
theorem Ov (l:List Arr)(x:Arr):Ea (l++[x])=EF (Ea l) x:=by simp [Ea]
def S6 (l:List Arr):Prop:=l.Pairwise fun a b=>bV a.key b.key≠0
theorem Id:∀ (n:Nat) (l:List Arr),l.length=n→S6 l→(∀ a∈l,a.small)→(Ea l).Perm l∧(Ea l).Pairwise Ko
 | 0,l,hn,_,_=>by rw [aV hn];exact ⟨.refl _,.nil⟩
 | n+1,l,hn,h1,h2=>by
  obtain ⟨k,x,rfl⟩:∃ k x,l=k++[x]:=⟨l.dropLast,l.getLast (by intro h;rw [h] at hn;cases hn),(List.dropLast_concat_getLast _).symm⟩
  have hk:k.length=n:=by simp at hn;exact hn
  have h1':=pW.1 h1
  obtain ⟨p1,p2⟩:=Id n k hk h1'.1 fun a ha=>h2 a (by simp [ha])
  have hS:∀ a∈Ea k,a.small:=fun a ha=>h2 a (by simp [p1.subset ha])
  obtain ⟨q1,q2⟩:=(Qr p2 hS (h2 x (by simp))).2 fun ⟨a,ha,hc⟩=>h1'.2.2 a (p1.subset ha) x (by simp) hc
  rw [Ov]
  exact ⟨q1.trans ((List.Perm.cons x p1).trans (List.perm_append_singleton x k).symm),q2⟩
theorem R7 {l l':List Arr}(h1:S6 l)(h2:∀ a∈l,a.small)(hp:l'.Perm l)(hs:l'.Pairwise fun a b=>¬ bV b.key a.key<0):l'=Ea l:=by
 obtain ⟨p1,p2⟩:=Id l.length l rfl h1 h2
 refine List.Perm.eq_of_pairwise (le:=fun a b=>¬ bV b.key a.key<0) (fun a b ha hb q1 q2=>?_) hs (p2.imp fun {a b} h hc=>?_) (hp.trans p1.symm)
 ·have hz:bV a.key b.key=0:=by have:=jK a.key b.key;omega
  have ha':=hp.subset ha
  have hb':=p1.subset hb
  have hpw:=b6.1 h1
  obtain ⟨i,hi,rfl⟩:=aM ha'
  obtain ⟨j,hj,rfl⟩:=aM hb'
  rcases Nat.lt_trichotomy i j with h|h|h
  ·exact absurd hz (hpw i j hi hj h)
  ·subst h;rfl
  ·have:=hpw j i hj hi h;have n:=jK l[i].key l[j].key;exact absurd (by omega) this
 ·unfold Ko at h;have:=jK a.key b.key;omega
def QS (x y:XS):XS:=⟨y.hosts,x.arrs++Ea y.arrs,y.all⟩
def wU (t:Types)(rs:List Rule)(most:Int)(i:Nat)(x:XS):XS × Int :=
 if (kO t (W9 x.hosts i) 0 rs).2≠0 then (x,(kO t (W9 x.hosts i) 0 rs).2) else (QS x (Oh t rs (W9 x.hosts i) most i x),0)
def w5 (t:Types)(rs:List Rule)(most:Int):Nat→Nat→XS→XS × Int
 | 0,_,x=>(x,0)
 | n+1,i,x=>if i<x.hosts.length then (if (wU t rs most i x).2≠0 then wU t rs most i x else w5 t rs most n (i+1) (wU t rs most i x).1) else (x,0)
theorem Sg (l:List Host)(h:Host) : -1≤Dh l h∧Dh l h<l.length:=by
 unfold Dh xF
 split
 ·rename_i k hk
  have:=(fC.1 hk).1
  omega
 ·omega
structure XG (most:Int) (i:Nat) (x:XS):Prop where
 hl:(x.hosts.length:Int)≤most
 ne:S6 x.arrs
 fr:∀ a∈x.arrs,a.from_=i∧a.small
theorem XG.put {most:Int}{i:Nat}{x:XS}(h:XG most i x)(hs:List Host)(hl:(hs.length:Int)≤most)(a:Arr)(ha:a.from_=i∧a.small):XG most i (wQ x hs a):=by
 unfold wQ
 split
 ·exact ⟨hl,h.ne,h.fr⟩
 ·rename_i hn
  refine ⟨hl,?_,fun b hb=>?_⟩
  ·show S6 (x.arrs++[a])
   refine pW.2 ⟨h.ne,by simp,fun b hb c hc e=>?_⟩
   rw [aR.1 hc] at e
   refine hn (bX.2 ⟨b,hb,?_⟩)
   unfold zC
   rw [nY e,gC];rfl
  ·rcases aW.1 hb with hb|hb
   ·exact h.fr b hb
   ·rw [aR.1 hb];exact ha
theorem XG.step {most:Int}{i:Nat}{x:XS}(h:XG most i x)(hm:most≤300)(hi:i≤300)(v:Vis)(hv:0≤v.rule∧v.rule≤1000000):XG most i (lC most i x v):=by
 have hp:=Sg x.hosts v.fin
 have hl:=h.hl
 unfold lC
 split
 ·exact ⟨h.hl,h.ne,h.fr⟩
 ·rename_i hn
  split
  ·rename_i hk
   refine h.put _ (by simp only [aT,wA];have:¬ (x.hosts.length:Int)=most:=fun q=>hn ⟨hk,q⟩;omega) _ ⟨rfl,⟨?_,?_⟩,hv,?_,?_⟩
   all_goals simp only;omega
  ·refine h.put _ hl _ ⟨rfl,⟨?_,?_⟩,hv,?_,?_⟩
   all_goals simp only;omega
theorem Oa {most:Int}{i:Nat}(hm:most≤300)(hi:i≤300):∀ (vs:List Vis) (x:XS),XG most i x→(∀ v∈vs,0≤v.rule∧v.rule≤1000000)→XG most i (vs.foldl (lC most i) x)
 | [],x,h,_=>h
 | v :: vs,x,h,hv=>Oa hm hi vs _ (h.step hm hi v (hv v (by simp))) fun w hw=>hv w (by simp [hw])
theorem Bz {t:Types}{r:Rule}{h:Host}{i:Int}:∀ l:List Mat,∀ v∈(oH t r h i l).1,v.rule=i
 | [],v,hv=>by simp [oH] at hv
 | m :: l,v,hv=>by
  simp only [oH] at hv
  split at hv
  ·cases hv
  ·split at hv
   ·cases hv
   ·rcases aO.1 hv with rfl|hv
    ·rfl
    ·exact Bz l v hv
theorem GR {t:Types}{h:Host}:∀ (rs:List Rule) (k:Nat),∀ v∈(kO t h k rs).1,(k:Int)≤v.rule∧v.rule<((k+rs.length:Nat):Int)
 | [],k,v,hv=>by simp [kO] at hv
 | r :: l,k,v,hv=>by
  simp only [kO] at hv
  have e:(k+(r :: l).length:Nat)=k+1+l.length:=by simp;omega
  rw [e]
  split at hv
  ·cases hv
  ·split at hv
   ·have:=Bz _ v hv;omega
   ·rcases aW.1 hv with hv|hv
    ·have:=Bz _ v hv;omega
    ·have:=GR l (k+1) v hv;omega
theorem RU {t:Types}{rs:List Rule}{hh:Host}{most:Int}{i:Nat}{x:XS}(hm:most≤300)(hi:i≤300)(hr:rs.length≤10)(hl:(x.hosts.length:Int)≤most):XG most i (Oh t rs hh most i x) :=
 Oa hm hi _ _ ⟨hl,.nil,fun a ha=>by cases ha⟩ fun v hv=>by have:=GR rs 0 v hv;omega
theorem OD {t : Types} {rs : List Rule} (h : iS t rs = 0) : (cJ t).2 = 0 ∧ rs.length ≤ 10 ∧ ∀ r ∈ rs, ruleF t r = 0 := by
  unfold iS at h
  split at h
  · contradiction
  · rename_i h1
    split at h
    · cases h
    · refine ⟨by simpa using h1, by omega, ?_⟩
      have key : ∀ l : List Rule, sO t l = 0 → ∀ r ∈ l, ruleF t r = 0 := fun l => by
        induction l with
        | nil => intro _ r hr; cases hr
        | cons a l ih =>
          intro hl r hr
          unfold sO at hl
          split at hl
          · contradiction
          · rename_i h2
            rcases aO.1 hr with rfl | hr
            · simpa using h2
            · exact ih hl r hr
      exact key rs h
def pN (t:Types)(rs:List Rule)(h:Host)(most:Int):XS × Int :=
 if iS t rs≠0 then (⟨[],[],false⟩,iS t rs) else if eR t h≠0 then (⟨[],[],false⟩,eR t h) else if most<1∨300<most then (⟨[],[],false⟩,6) else if sS t h≠0 then (⟨[],[],false⟩,sS t h)
 else if (w5 t rs most most.toNat 0 ⟨[GH h],[],true⟩).2≠0 then (⟨[],[],false⟩,(w5 t rs most most.toNat 0 ⟨[GH h],[],true⟩).2) else ((w5 t rs most most.toNat 0 ⟨[GH h],[],true⟩).1,0)
end Go.Abs
end
