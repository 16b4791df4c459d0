/- The search of the reference. · The search of the reference:  -/
import Derived.Test.YthalajhajpjjeaaGreatZgAF
import Derived.Test.YthalajhajpjjeaaGreatZgAL
import Derived.Test.YthalajhajpjjeaaGreatZgAA
import Derived.Test.YthalajhajpjjeaaGreatZgAK
import Derived.Test.YthalajhajpjjeaaGreatZgAJ
set_option linter.unusedVariables false
set_option linter.unusedSimpArgs false
section
set_option maxRecDepth 100000
set_option maxHeartbeats 4000000
open Go Go.Proofs
namespace Go.Abs
structure G17 (t:Types) (p g:Graph):Prop where
 v:t.valid
 gp:graphF p=0
 gg:graphF g=0
 tp:∀ a∈p.nodes,0<=a/\a<t.nodes.length
 tg:∀ a∈g.nodes,0<=a/\a<t.nodes.length
theorem Fk {t:Types}{g:Graph}(h:mD t g=true):∀ a∈g.nodes,0<=a/\a<t.nodes.length:=λa ha=>by
 simp only [mD,aQ,c9,xI,insideF,Bool.not_eq_true,Bool.not_eq_false',decide_eq_true_eq] at h
 have:=h.1 a ha
 simpa using this
theorem pZ {t:Types}{p g:Graph}(h:fZ t p g=0):G17 t p g:=by
 unfold fZ at h
 split at h
 .exact absurd h (by assumption)
 .rename_i h1
  split at h
  .exact absurd h (by assumption)
  .rename_i h2
   split at h
   .exact absurd h (by assumption)
   .rename_i h3
    split at h
    .cases h
    .rename_i h4
     simp only [c4,c9,not_or,Bool.not_eq_false] at h4
     exact ⟨nP (bX h1),by simpa using h2,by simpa using h3,Fk h4.1,Fk h4.2⟩
def I9 (t:Types)(p g:Graph)(m:Part)(i:Nat):Int :=
 if m.nodes[i]?.getD 0<0\/(g.nodes.length:Int)<=m.nodes[i]?.getD 0 then 6
 else if wT t (p.nodes[i]?.getD 0) (g.nodes[(m.nodes[i]?.getD 0).toNat]?.getD 0)=true then 0 else 13
def iX (t:Types)(p g:Graph)(m:Part)(inj:Bool):Int :=
 if m.nodes.length≠p.nodes.length\/m.edges.length≠p.edges.length then 20
 else if bQ (I9 t p g m) 0 p.nodes.length≠0 then bQ (I9 t p g m) 0 p.nodes.length
 else if bQ (iP p g m) 0 p.edges.length≠0 then bQ (iP p g m) 0 p.edges.length
 else if inj=true/\(¬ m.nodes.Nodup\/¬ m.edges.Nodup) then 5 else 0
def fM (t:Types)(p g:Graph)(m:Part)(inj:Bool):Int:=if fZ t p g≠0 then fZ t p g else iX t p g m inj
theorem AH (t:Types)(c:t.valid)(a b:Int)(f:0<=a)(g:a<t.nodes.length)(e:0<=b):Pure Tryz.prog 266 [t.d,dI a,dI b] (.bool (wT t b a)):=by
 have:=wG t c b e a.toNat aD
 rw [Int.toNat_of_nonneg f] at this;exact this
theorem Mb (t:Types)(p g:Graph)(hG:G17 t p g)(m:Part)(inj:Bool):Pure Tryz.prog 247 [t.d,p.d,g.d,m.d,.bool inj] (dI (iX t p g m inj)):=by
 have hga:=bS hG.gp
 have hgb:=bS hG.gg
 have hia:=(eK hG.gp).2
 refine Tz.pK ⟨λt=>t==13||t==14,λr=>match r with|15=>[(0,14),(1,14),(3,14),(4,14),(5,14),(6,14),(7,14),(8,14),(10,14),(11,14),(12,14),(13,14),(0,15),(1,15),(3,15),(4,15),(5,15),(6,15),(7,15),(8,15),(10,15),(11,15),(12,15),(13,15),(14,15),(5,16),(6,16),(7,16),(8,16),(10,16),(11,16),(12,16),(13,16)]|_=>[]⟩ Tryz.func247 rfl (λQ hQ=>?_)
 have Y:=trivial
 refine fA (λh1=>?_) λh1=>?_
 .have hM:iX t p g m inj=20:=by unfold iX;rw [if_pos aD]
  exact wv (h:=hQ _ _ (by simp [go_sem,hM]))
 .have hM:iX t p g m inj=(if bQ (I9 t p g m) 0 p.nodes.length≠0 then bQ (I9 t p g m) 0 p.nodes.length else if bQ (iP p g m) 0 p.edges.length≠0 then bQ (iP p g m) 0 p.edges.length else if inj=true/\(¬ m.nodes.Nodup\/¬ m.edges.Nodup) then 5 else 0):=by unfold iX;rw [if_neg aD]
  have hl1:m.nodes.length=p.nodes.length:=aD
  have hl2:m.edges.length=p.edges.length:=aD
  refine wv (h:=bD (λi e H=>(e 5=.adr t.c/\e 6=.adr p.c/\e 7=.adr g.c/\e 8=.adr m.c/\e 4=.bool inj/\e 11=dI i)/\(i<=m.nodes.length)/\(bQ (I9 t p g m) i (p.nodes.length - i)=bQ (I9 t p g m) 0 p.nodes.length)) (λi=>m.nodes.length - i) 0 ⟨wg,wi,(by rfl)⟩ λI0 hI0 i e H hi0=>?_)
  obtain ⟨E0,hi,hF⟩:=hi0
  have Y:=wa Y E0
  refine fA (λh4=>?_) λh4=>?_
  .have hn:i<p.nodes.length:=aD
   have hst:=eI (I9 t p g m) hn
   rw [hF] at hst
   have hNE:I9 t p g m i=(if m.nodes[i]<0\/(g.nodes.length:Int)<=m.nodes[i] then 6 else if wT t p.nodes[i] (g.nodes[m.nodes[i].toNat]?.getD 0)=true then 0 else 13):=by simp only [I9,aA h4,aA hn,Option.getD_some]
   have hbp:=hG.tp _ (aC hn)
   have Y:=wa Y (wa h4 (wa (aA h4) (aA hn)))
   refine fA (λh6=>?_) λh6=>?_
   .rw [if_pos aD] at hNE
    rw [hNE,if_pos aD] at hst
    rw [hst,if_pos aD] at hM
    exact wv (h:=hQ _ _ (by simp [go_sem,hM]))
   .have hkb:m.nodes[i].toNat<g.nodes.length:=aD
    rw [if_neg aD,aA hkb,Option.getD_some] at hNE
    have hbg:=hG.tg _ (aC hkb)
    have Y:=wa Y (aA hkb)
    refine wo (h:=aI ((AH t hG.v g.nodes[m.nodes[i].toNat] p.nodes[i] hbg.1 hbg.2 hbp.1)) wl ?_)
    refine fA (λh8=>?_) λh8=>?_
    .rw [if_neg (bX h8)] at hNE
     rw [hNE,if_pos aD] at hst
     rw [hst,if_pos aD] at hM
     exact wv (h:=hQ _ _ (by simp [go_sem,hM]))
    .rw [if_pos (bX h8)] at hNE
     rw [hNE,if_neg aD] at hst
     exact wo (h:=wx hI0 (i+1) ⟨wg,wj,(by exact hst.symm)⟩)
  .have hN0:bQ (I9 t p g m) 0 p.nodes.length=0:=by rw [<- hF,(aD:p.nodes.length - i=0)];rfl
   rw [hN0,if_neg aD] at hM
   refine wv (h:=bD (λk e H=>(e 5=.adr t.c/\e 6=.adr p.c/\e 7=.adr g.c/\e 8=.adr m.c/\e 4=.bool inj/\e 12=dI k)/\(k<=m.edges.length)/\(bQ (iP p g m) k (p.edges.length - k)=bQ (iP p g m) 0 p.edges.length)) (λk=>m.edges.length - k) 0 ⟨wg,wi,(by rfl)⟩ λI2 hI2 k e H hi2=>?_)
   obtain ⟨E2,hk,hE⟩:=hi2
   have Y:=wa Y E2
   refine fA (λh11=>?_) λh11=>?_
   .have hn:k<p.edges.length:=aD
    have hst:=eI (iP p g m) hn
    rw [hE] at hst
    have hx:=hia _ (aC hn)
    have hxf:p.edges[k].from_.toNat<m.nodes.length:=aD
    have hxt:p.edges[k].to_.toNat<m.nodes.length:=aD
    have hEE:iP p g m k=(if m.edges[k]<0\/(g.edges.length:Int)<=m.edges[k] then 6 else if p.edges[k].type≠(g.edges[m.edges[k].toNat]?.getD cF).type then 13 else if m.nodes[p.edges[k].from_.toNat]≠(g.edges[m.edges[k].toNat]?.getD cF).from_\/m.nodes[p.edges[k].to_.toNat]≠(g.edges[m.edges[k].toNat]?.getD cF).to_ then 11 else 0):=by
     simp only [iP,aA h11,aA hn,Option.getD_some,aA hxf,aA hxt]
    have Y:=wa Y (wa h11 (wa (aA h11) (wa (aA hn) (wa (aA hxf) (aA hxt)))))
    refine fA (λh13=>?_) λh13=>?_
    .rw [if_pos aD] at hEE
     rw [hEE,if_pos aD] at hst
     rw [hst,if_pos aD] at hM
     exact wv (h:=hQ _ _ (by simp [go_sem,hM]))
    .have hkb:m.edges[k].toNat<g.edges.length:=aD
     rw [if_neg aD,aA hkb,Option.getD_some] at hEE
     have Y:=wa Y (aA hkb)
     refine fA (λh16=>?_) λh16=>?_
     .rw [if_pos h16] at hEE
      rw [hEE,if_pos aD] at hst
      rw [hst,if_pos aD] at hM
      exact wv (h:=hQ _ _ (by simp [go_sem,hM]))
     .rw [if_neg (bX h16)] at hEE
      refine fA (λh18=>?_) λh18=>?_
      .rw [if_pos aD] at hEE
       rw [hEE,if_pos aD] at hst
       rw [hst,if_pos aD] at hM
       exact wv (h:=hQ _ _ (by simp [go_sem,hM]))
      .rw [if_neg aD] at hEE
       rw [hEE,if_neg aD] at hst
       exact wo (h:=wx hI2 (k+1) ⟨wg,wj,(by exact hst.symm)⟩)
   .have hE0:bQ (iP p g m) 0 p.edges.length=0:=by rw [<- hE,(aD:p.edges.length - k=0)];rfl
    rw [hE0,if_neg aD] at hM
    refine wo (h:=aH (λhg=>yK m.nodes) (λhg=>wl) ?_)
    refine wo (h:=aH (λhg=>yK m.edges) (λhg=>wl) ?_)
    refine fA (λh20=>?_) λh20=>?_
    .rw [if_pos (by simpa [oS] using h20)] at hM
     exact wv (h:=hQ _ _ (by simp [go_sem,hM]))
    .rw [if_neg (by simpa [oS] using h20)] at hM
     exact wv (h:=hQ _ _ (by simp [go_sem,hM]))
theorem yL (t:Types)(e:t.ok)(p g:Graph)(m:Part)(a:Bool):Pure Tryz.prog 148 [t.d,p.d,g.d,m.d,.bool a] (dI (fM t p g m a)):=by
 refine Tz.pK ⟨λ_=>false,λ_=>[]⟩ Tryz.func148 rfl (λQ c=>?_)
 have Y:=trivial
 refine wv (h:=aB (yJ t e p g) wl ?_)
 refine dP (λb=>?_) λb=>?_
 .exact wv (h:=c _ _ (by simp [go_sem,fM,b]))
 .refine wv (h:=aB (Mb t p g (pZ (bX b)) m a) wl ?_)
  exact wv (h:=c _ _ (by simp [go_sem,fM,b]))
/-! ### the search -/
def Srch.cells (S:Srch)(most:Int)(fd:D):List D:=[.list (S.t.nodes.map NodeTy.c),.list (S.t.edges.map EdgeTy.c),dLI S.p.nodes,.list (S.p.edges.map Edge.c),dLI S.g.nodes,.list (S.g.edges.map Edge.c),dLI S.pn,dLI S.pe,.bool S.inj,dI most,fd]
theorem FX (S:Srch)(most:Int)(fd:D)(hfd:fd.cl=true)(l:List Int)(n:Int):Pure Tryz.prog 451 [.adr (S.cells most fd),dLI l,dI n] (.bool (S.inj&&mem l n)):=by
 refine Tz.pK ⟨λ_=>false,λ_=>[]⟩ Tryz.func451 rfl (λQ hQ=>?_)
 have hcl:∀ b:Bool,D.clL (S.cells most fd)=true:=λ_=>by simp [go_sem,Srch.cells,hfd]
 have Y:=@Srch.cells.eq_1
 refine wv (h:=bD (λi e H=>(e 0=.adr (S.cells most fd)/\e 1=dLI l/\e 2=dI n/\e 7=dI i)/\(i<=l.length)/\(∀ j,j<i->∀ hj:j<l.length,l[j]≠n)) (λi=>l.length - i) 0 ⟨wg,wi,(by intro j hj;omega)⟩ λI0 hI0 i e H hi0=>?_)
 obtain ⟨E0,hi,hN⟩:=hi0
 have Y:=wa Y E0
 refine wv (h:=?_)
 repeat first|intro _|refine ⟨eO,?_⟩
 refine wq (λh2=>?_) λh2=>?_
 .have hil:i<l.length:=h2.1
  have Y:=wa Y (wa h2 (aA hil))
  refine wv (h:=?_)
  repeat first|intro _|refine ⟨eO,?_⟩
  refine wq (λh4=>?_) λh4=>?_
  .have hm:mem l n=true:=(mem_iff _ _).2 (h4 ▸ aC hil)
   have hI:S.inj=true:=h2.2
   exact wv (h:=hQ _ _ (by simp [go_sem,hm,hI]))
  .exact wo (h:=wx hI0 (i+1) ⟨wg,wj,(by intro j hj hjl;rcases b6 j i with hji|hji;exact hN j hji hjl;(obtain rfl:j=i:=aD;exact h4))⟩)
 .have hR:(S.inj&&mem l n)=false:=by
   cases hI:S.inj
   .rfl
   .simp [hI] at h2
    rw [gM,bH]
    intro hm
    obtain ⟨j,hj,he⟩:=aO ((mem_iff _ _).1 hm)
    exact hN j aD hj he
  exact wv (h:=hQ _ _ (by simp [go_sem,hR]))
theorem Ch (a b:Int):(a==b)=decide (a=b):=by rw [aR];simp
theorem zL (f:Nat->Bool)(k:Nat):(List.range (k+1)).any f=((List.range k).any f||f k):=by rw [c7,Bs];simp
theorem Ou (S:Srch)(hp:graphF S.p=0)(hg:graphF S.g=0)(most:Int)(fd:D)(hfd:fd.cl=true)(l:List Int):Pure Tryz.prog 449 [.adr (S.cells most fd),dLI l] (.bool (uJ S l)):=by
 have hpi:=(eK hp).2
 have hla:=bS hp
 have hlb:=bS hg
 refine Tz.pK ⟨λt=>t==6||t==9,λ_=>[]⟩ Tryz.func449 rfl (λQ hQ=>?_)
 have Y:=@Srch.cells.eq_1
 refine wv (h:=bD (λi e H=>(e 0=.adr (S.cells most fd)/\e 1=dLI l/\e 5=dI i)/\(i<=S.p.edges.length)/\(∀ j,j<i->A4 S l j=true)) (λi=>S.p.edges.length - i) 0 ⟨wg,wi,(by intro j hj;omega)⟩ λI0 hI0 i e H hi0=>?_)
 obtain ⟨E0,hi,hK⟩:=hi0
 have Y:=wa Y E0
 refine fA (λh2=>?_) λh2=>?_
 .obtain ⟨x,hx⟩:=cW (S.p.edges[i])
  have hxi:=(hpi _ (aC h2)).2
  rw [<- hx] at hxi
  have hKe:A4 S l i=(decide ((l.length:Int)<=x.from_)||decide ((l.length:Int)<=x.to_)||(List.range S.g.edges.length).any (y7 S l i)):=by unfold A4;rw [aA h2,Option.getD_some,<- hx]
  have Y:=wa Y (wa h2 (wa (aA h2) (wa (Eq.symm hx) @Edge.c.eq_1)))
  refine fA (λh5=>?_) λh5=>?_
  .have hKi:A4 S l i=true:=by rw [hKe];rcases h5 with h|h<;>simp<;>omega
   exact wo (h:=wx hI0 (i+1) ⟨wg,wj,(by intro j hj;rcases b6 j i with hji|hji;exact hK j hji;(obtain rfl:j=i:=aD;exact hKi))⟩)
  .have hf:x.from_.toNat<l.length:=aD
   have hft:x.to_.toNat<l.length:=aD
   have hH:∀ k (hk:k<S.g.edges.length),y7 S l i k=(decide (x.type=S.g.edges[k].type)&&(decide (S.g.edges[k].from_=l[x.from_.toNat])&&decide (S.g.edges[k].to_=l[x.to_.toNat]))):=λk hk=>by
    simp only [y7,VB,SD,aA hk,aA h2,Option.getD_some,<- hx,aA hf,aA hft]
    simp [eq_comm (a:=x.type)]
   have Y:=wa Y (wa h5 (wa (aA hf) (aA hft)))
   refine wv (h:=bD (λk e H=>∃ q:Nat,∃ b:Bool,(e 0=.adr (S.cells most fd)/\e 1=dLI l/\e 5=dI i/\e 6=.ptr q 1 0 0/\e 7=.bool b/\e 8=dI k)/\(H.get q=some ⟨122,3,[[dI x.type,dI x.from_,dI x.to_]],false⟩)/\(q<H.next)/\(k<=S.g.edges.length)/\(b=(List.range k).any (y7 S l i))) (λk=>S.g.edges.length - k) 0 ⟨H.next,false,wg,wn,wn,wi,(by rfl)⟩ λI2 hI2 k e H hi2=>?_)
   obtain ⟨q,b,E2,gq_2,nq_2,hk,hb⟩:=hi2
   have Y:=wa Y (wa E2 (wa gq_2 (b8 nq_2)))
   refine fA (λh8=>?_) λh8=>?_
   .have hHk:=hH k h8
    have Y:=wa Y (wa h8 (wa (aA h8) (wa hHk (wa @Ch @lO))))
    exact wo (h:=wx hI2 (k+1) ⟨q,((b||y7 S l i k)),wg,wn,wn,wj,(by rw [zL,<- hb])⟩)
   .refine fA (λh12=>?_) λh12=>?_
    .have hR:uJ S l=false:=by
      simp only [uJ,Ff,bK]
      refine ⟨i,h2,?_⟩
      rw [hKe,<- show k=S.g.edges.length by omega,<- hb]
      simp [h12];omega
     exact wv (h:=hQ _ _ (by simp [go_sem,hR]))
    .have hKi:A4 S l i=true:=by rw [hKe,<- show k=S.g.edges.length by omega,<- hb];simp [h12]
     exact wo (h:=wx hI0 (i+1) ⟨wg,wj,(by intro j hj;rcases b6 j i with hji|hji;exact hK j hji;(obtain rfl:j=i:=aD;exact hKi))⟩)
 .have hR:uJ S l=true:=by
   simp only [uJ,cJ,bK]
   exact λj hj=>hK j aD
  exact wv (h:=hQ _ _ (by simp [go_sem,hR]))
structure SrS (f o:Nat) (S:Srch) (most:Nat) (out:List Part) (H:AHeap):Prop where
 bf:H.get f=some ⟨414,11,[S.cells most (.own o out.length)],false⟩
 bo:H.get o=some ⟨36,2,out.map Part.c,false⟩
 le:out.length<=most+1
@[go_sem] theorem vA (l:List Part):D.clLL (l.map Part.c)=true:=dK _ (λp=>by simp [Part.c,D.clL,pD]) l
theorem Mc (S:Srch)(hp:graphF S.p=0)(hg:graphF S.g=0)(hpe:S.pe.length=S.p.edges.length)(most:Nat)(hmo:most<=5000)(ns:List Int)(hns:ns.length=S.p.nodes.length)(f o:Nat)(hd:f≠o) :
  ∀ (d:Nat) (es:List Int) (out:List Part) (G:AHeap) (Q:D->AHeap->Prop),es.length+d=S.p.edges.length->f<G.next->o<G.next->SrS f o S most out G ->
  (∀ H',SrS f o S most (Hz S (most+1) ns d es out) H'->(∀ j,j≠f->j≠o->j<G.next->H'.get j=G.get j)->G.next<=H'.next->Q (.tup []) H')->ACalls Tryz.prog 450 [.ptr f 1 0 0,dLI ns,dLI es] G Q:=by
 have hla:=bS hp
 have hlb:=bS hg
 have hib:∀ x∈S.p.edges,(0<=x.from_/\x.from_<S.p.nodes.length)/\(0<=x.to_/\x.to_<S.p.nodes.length):=λx hx=>((eK hp).2 x hx).2
 intro d
 induction d using Nat.strongRecOn with
 | _ d ih =>
 intro es out G Q hk hfN hoN hF hQ
 obtain ⟨gf,go,hle⟩:=hF
 have hds:=hd.symm
 have ff:=b8 hfN
 have fo:=b8 hoN
 refine (aJ (cfg:=⟨λt=>t==7||t==9||t==35||t==38||t==128,λr=>match r with|3=>[(2,5),(3,5),(4,5),(2,7),(3,7),(4,7),(2,8),(3,8),(4,8),(5,8),(7,8),(2,10),(3,10),(4,10),(2,12),(3,12),(4,12)]|_=>[]⟩) Tz.mixed Tryz.func450 rfl rfl (aF rfl) (by kernel_rfl) ?_)
 have Y:=wa gf (wa go (wa hd (wa hds (wa ff (wa fo (wa @Part.c.eq_1 @Srch.cells.eq_1))))))
 refine rT (λh0=>?_) λh0=>?_
 .have hfull:most+1<=out.length:=aD
  refine wv (h:=?_)
  exact hQ _ (by rw [Fu _ _ _ hfull];exact ⟨gf,go,hle⟩) (by intro j _ _ _;rfl) (by first|exact bC _|exact Nat.le_add_right _ _)
 .have hnf:¬ most+1<=out.length:=aD
  refine rT (λh2=>?_) λh2=>?_
  .have hk0:d=0:=aD
   subst hk0
   refine wp (h:=?_)
   exact hQ _ (by simp only [Hz];rw [if_neg hnf];exact ⟨by simp [go_sem,Y],by simp [go_sem,Y],by simp;omega⟩) (by intro j h1 h2 h3;simp [go_sem,h1,h2,b8 h3]) (by first|exact bC _|(simp [go_sem]<;>omega)|(simp only [go_sem];split<;>omega))
  .obtain ⟨k',rfl⟩:∃ k',d=k'+1:=⟨d - 1,aD⟩
   have hel:es.length<S.p.edges.length:=aD
   have hpl:es.length<S.pe.length:=aD
   have hbx:=hib _ (aC hel)
   have hf1:S.p.edges[es.length].from_.toNat<ns.length:=aD
   have hft:S.p.edges[es.length].to_.toNat<ns.length:=aD
   have hokE:∀ j (hj:j<S.g.edges.length),PO S ns es j=((decide (S.pe[es.length]<0)||decide (S.pe[es.length]=(j:Int)))&&(!(S.inj&&mem es j)&&(decide (S.p.edges[es.length].type=S.g.edges[j].type)&&(decide (S.g.edges[j].from_=ns[S.p.edges[es.length].from_.toNat])&&decide (S.g.edges[j].to_=ns[S.p.edges[es.length].to_.toNat]))))):=λj hj=>by
    simp only [PO,zC,y7,VB,SD,aA hj,aA hel,aA hpl,Option.getD_some,aA hf1,aA hft]
    simp [eq_comm (a:=S.p.edges[es.length].type)]
   have Y:=wa Y (wa (aA hel) (wa (aA hpl) (wa (aA hf1) (aA hft))))
   refine wp (h:=bD (λj e H=>∃ w7:Nat,∃ ou:List Part,(e 0=.ptr f 1 0 0/\e 1=dLI ns/\e 2=dLI es/\e 6=dI es.length/\e 7=.ptr w7 1 0 0/\e 8=dI j)/\(H.get f=some ⟨414,11,[S.cells most (.own o ou.length)],false⟩)/\(f<H.next)/\(H.get o=some ⟨36,2,ou.map Part.c,false⟩)/\(o<H.next)/\(H.get w7=some ⟨122,3,[S.p.edges[es.length].c],false⟩)/\(w7<H.next)/\(w7=G.next+10)/\(j<=S.g.edges.length)/\(ou.length<=most+1)/\(ou=(List.range j).foldl (λou k=>if PO S ns es k=true then Hz S (most+1) ns k' (es++[(k:Int)]) ou else ou) out)/\(∀ q,q≠f->q≠o->q<G.next->H.get q=G.get q)/\(G.next+1<=H.next)) (λj=>S.g.edges.length - j) 0 ⟨(G.next+10),out,wg,wn,wn,wn,wn,wn,wn,(by rfl),wi,(by exact hle),(by rfl),(by intro q h1 h2 h3;simp [go_sem,h1,h2,b8 h3]),(by simp [go_sem])⟩ λI0 hI0 j e H hi0=>?_)
   obtain ⟨w7,ou,E0,gf_0,nf_0,go_0,no_0,gw7_0,nw7_0,hw7,hj,hou,hst,hfr,hnx⟩:=hi0
   have di1:=And.intro (dF (aD:w7≠o)) (And.intro (dF (aD:w7≠f)) (dF (aD:o≠f)))
   have Y:=wa Y (wa E0 (wa gf_0 (wa (b8 nf_0) (wa go_0 (wa (b8 no_0) (wa gw7_0 (wa (b8 nw7_0) (wa @Edge.c.eq_1 di1))))))))
   refine rT (λh6=>?_) λh6=>?_
   .have hEj:=hokE j h6
    have hbf:=hbx.1
    have hbt:=hbx.2
    have o1:(0<=S.pe[es.length]->S.pe[es.length]=(j:Int))->(S.inj=true->mem es (j:Int)=false)->(S.pe[es.length]<0\/S.pe[es.length]=(j:Int))/\(S.inj=false\/mem es (j:Int)=false):=λa b=>⟨aD,by cases hI:S.inj;exact .inl rfl;exact .inr (b hI)⟩
    have o2:(S.pe[es.length]<0\/S.pe[es.length]=(j:Int))->(S.inj=false\/mem es (j:Int)=false)->S.p.edges[es.length].type=S.g.edges[j].type->0<=S.p.edges[es.length].from_/\S.p.edges[es.length].from_<(ns.length:Int):=λ_ _ _=>by omega
    have o3:(0<=S.pe[es.length]->S.pe[es.length]=(j:Int))->(S.inj=true->mem es (j:Int)=false)->S.p.edges[es.length].type=S.g.edges[j].type->((S.pe[es.length]<0\/S.pe[es.length]=(j:Int))/\(S.inj=false\/mem es (j:Int)=false))/\S.p.edges[es.length].type=S.g.edges[j].type:=λa b c=>⟨o1 a b,c⟩
    have o4:(S.pe[es.length]<0\/S.pe[es.length]=(j:Int))->(S.inj=false\/mem es (j:Int)=false)->S.p.edges[es.length].type=S.g.edges[j].type->S.g.edges[j].from_=ns[S.p.edges[es.length].from_.toNat]->0<=S.p.edges[es.length].to_/\S.p.edges[es.length].to_<(ns.length:Int):=λ_ _ _ _=>by omega
    have o5:(0<=S.pe[es.length]->S.pe[es.length]=(j:Int))->(S.inj=true->mem es (j:Int)=false)->S.p.edges[es.length].type=S.g.edges[j].type->S.g.edges[j].from_=ns[S.p.edges[es.length].from_.toNat]->(((S.pe[es.length]<0\/S.pe[es.length]=(j:Int))/\(S.inj=false\/mem es (j:Int)=false))/\S.p.edges[es.length].type=S.g.edges[j].type)/\S.g.edges[j].from_=ns[S.p.edges[es.length].from_.toNat]:=λa b c d=>⟨⟨o1 a b,c⟩,d⟩
    have Y:=wa Y (wa h6 (aA h6))
    refine wp (h:=uM (λhg=>FX S most (.list (ou.map Part.c)) (by simp [D.cl,vA]) es j) WJ (λhg=>wl) (λhg=> rfl) rfl Zz ?_)
    refine rT (λh9=>?_) λh9=>?_
    .have hE:PO S ns es j=false:=by
      rw [hEj,bH];intro hT;simp at hT
      obtain ⟨a,b,c,d,e⟩:=hT
      rcases h9 with (((h|h)|h)|h)|h
      .omega
      .rcases b with b|b
       .rw [b] at h;cases h.1
       .rw [b] at h;cases h.2
      .exact h c
      .exact h d
      .exact h e
     obtain ⟨ou2,hou2⟩:∃ x,x=ou:=⟨_,rfl⟩
     have Y:=wa Y (wa @Part.c.eq_1 (wa @Edge.c.eq_1 hou2))
     exact wp (h:=wx hI0 (j+1) ⟨w7,ou2,wg,wn,wn,wn,wn,wn,wn,(by exact hw7),wj,(by rw [hou2];first|exact hou|exact CY _ _ _ _ _ hou|exact CY _ _ _ _ hou),(by rw [eD,<- hst];first|exact hou2|(rw [hou2];first|rw [if_pos hE]|rw [if_neg (by rw [hE];simp)])),(by first|exact hfr3|(intro q h1 h2 h3;simp [go_sem,h1,h2,b8 (aD:q<H.next)];exact hfr q h1 h2 h3)),(by first|omega|(simp [go_sem];omega))⟩)
    .have hE:PO S ns es j=true:=by
      obtain ⟨⟨⟨⟨a,b⟩,c⟩,d⟩,e⟩:=h9
      rw [hEj];simp [c,d,e]
      exact ⟨aD,by cases hI:S.inj;exact .inl rfl;exact .inr (b hI)⟩
     obtain ⟨ou2,hou2⟩:∃ x,x=Hz S (most+1) ns k' (es++[(j:Int)]) ou:=⟨_,rfl⟩
     have Y:=wa Y (wa @Part.c.eq_1 (wa @Edge.c.eq_1 h9))
     refine wp (h:=?_)
     refine Jz (args':=[.ptr f 1 0 0,dLI ns,dLI (es++[(j:Int)])]) (by simp [go_sem,Y,dLI]) rfl ?_
     unfold fL
     refine ih k' aD (es++[(j:Int)]) ou _ _ (by simp;omega) (by simp [go_sem];omega) (by simp [go_sem];omega) ⟨by simp [go_sem,Y],by simp [go_sem,Y],hou⟩ (λH3 hF3 hf3 hn3=>?_)
     rw [<- hou2] at hF3
     obtain ⟨gf3,go3,hle3⟩:=hF3
     have gw3:=hf3 w7 aD aD (by simp [go_sem];omega)
     simp [go_sem,Y] at gw3
     simp [go_sem] at hn3
     have hfr3:∀ j,j≠f->j≠o->j<G.next->H3.get j=G.get j:=λj h1 h2 h3=>by
      have e1:=b8 (aD:j<H.next)
      rw [hf3 j h1 h2 (by simp [go_sem];omega)]
      simp [go_sem,h1,h2,e1]
      exact hfr j h1 h2 h3
     have fr2:=And.intro (b8 (aD:f<H3.next)) (And.intro (b8 (aD:o<H3.next)) (b8 (aD:w7<H3.next)))
     have Y:=wa Y (wa gf3 (wa go3 (wa gw3 fr2)))
     exact wp (h:=wx hI0 (j+1) ⟨w7,ou2,wg,wn,wn,wn,wn,wn,wn,(by exact hw7),wj,(by rw [hou2];first|exact hou|exact CY _ _ _ _ _ hou|exact CY _ _ _ _ hou),(by rw [eD,<- hst];first|exact hou2|(rw [hou2];first|rw [if_pos hE]|rw [if_neg (by rw [hE];simp)])),(by first|exact hfr3|(intro q h1 h2 h3;simp [go_sem,h1,h2,b8 (aD:q<H.next)];exact hfr q h1 h2 h3)),(by first|omega|(simp [go_sem];omega))⟩)
   .have hJ:j=S.g.edges.length:=aD
    have hOV:Hz S (most+1) ns (k'+1) es out=ou:=by simp only [Hz];rw [if_neg hnf,hst,hJ]
    refine wv (h:=?_)
    exact hQ _ (by rw [hOV];exact ⟨by assumption,by assumption,hou⟩) hfr aD
theorem Ma (S:Srch)(hG:G17 S.t S.p S.g)(hpn:S.pn.length=S.p.nodes.length)(hpe:S.pe.length=S.p.edges.length)(most:Nat)(hmo:most<=5000)(f o:Nat)(hd:f≠o) :
  ∀ (d:Nat) (ns:List Int) (out:List Part) (G:AHeap) (Q:D->AHeap->Prop),ns.length+d=S.p.nodes.length->f<G.next->o<G.next->SrS f o S most out G ->
  (∀ H',SrS f o S most (N7 S (most+1) d ns out) H'->(∀ j,j≠f->j≠o->j<G.next->H'.get j=G.get j)->G.next<=H'.next->Q (.tup []) H')->ACalls Tryz.prog 411 [.ptr f 1 0 0,dLI ns] G Q:=by
 have hla:=bS hG.gp
 have hlb:=bS hG.gg
 intro d
 induction d using Nat.strongRecOn with
 | _ d ih =>
 intro ns out G Q hk hfN hoN hF hQ
 obtain ⟨gf,go,hle⟩:=hF
 have hds:=hd.symm
 have ff:=b8 hfN
 have fo:=b8 hoN
 refine (aJ (cfg:=⟨λt=>t==97,λ_=>[]⟩) Tz.mixed Tryz.func411 rfl rfl (aF rfl) (by kernel_rfl) ?_)
 have Y:=wa gf (wa go (wa hd (wa hds (wa ff (wa fo (wa @Part.c.eq_1 @Srch.cells.eq_1))))))
 refine wp (h:=uM (λhg=>Ou S hG.gp hG.gg most (.list (out.map Part.c)) (by simp [D.cl,vA]) ns) WJ (λhg=>wl) (λhg=> rfl) rfl Zz ?_)
 refine rT (λh0=>?_) λh0=>?_
 .have hX:N7 S (most+1) d ns out=out:=by
   cases d<;>(simp only [N7];rw [if_pos];rcases h0 with h|h;exact .inl aD;exact .inr (bX h))
  refine wv (h:=?_)
  exact hQ _ (by rw [hX];exact ⟨gf,go,hle⟩) (by intro j _ _ _;rfl) (by first|exact bC _|exact Nat.le_add_right _ _)
 .have hnf:¬ (most+1<=out.length\/uJ S ns=false):=by rintro (h|h);(omega);(simp [h] at h0)
  refine rT (λh2=>?_) λh2=>?_
  .have hk0:d=0:=aD
   subst hk0
   refine wv (h:=?_)
   refine Nz (args':=[.ptr f 1 0 0,dLI ns,dLI []]) (by simp [go_sem,Y,dLI,Q3]) ?_
   unfold fL
   refine Mc S hG.gp hG.gg hpe most hmo ns aD f o hd S.p.edges.length [] out _ _ bW (by first|exact hfN|exact Nat.lt_add_right _ hfN) (by first|exact hoN|exact Nat.lt_add_right _ hoN) ⟨gf,go,hle⟩ (λH3 hF3 hf3 hn3=>?_)
   refine wv (h:=?_)
   exact hQ _ (by simp only [N7];rw [if_neg hnf];exact hF3) (λj h1 h2 h3=>hf3 j h1 h2 (by first|exact h3|exact Nat.lt_add_right _ h3)) (by first|exact hn3|exact fC (Nat.le_add_right _ _) hn3)
  .obtain ⟨k',rfl⟩:∃ k',d=k'+1:=⟨d - 1,aD⟩
   have hel:ns.length<S.p.nodes.length:=aD
   have hpl:ns.length<S.pn.length:=aD
   have hbp:=hG.tp _ (aC hel)
   have hokN:∀ j (hj:j<S.g.nodes.length),IQ S ns j=((decide (S.pn[ns.length]<0)||decide (S.pn[ns.length]=(j:Int)))&&(!(S.inj&&mem ns j)&&wT S.t S.p.nodes[ns.length] S.g.nodes[j])):=λj hj=>by
    simp only [IQ,zC,aA hj,aA hel,aA hpl,Option.getD_some]
   have Y:=wa Y (wa (aA hel) (aA hpl))
   refine wv (h:=bD (λj e H=>∃ ou:List Part,(e 0=.ptr f 1 0 0/\e 1=dLI ns/\e 4=dI ns.length/\e 5=dI j)/\(H.get f=some ⟨414,11,[S.cells most (.own o ou.length)],false⟩)/\(f<H.next)/\(H.get o=some ⟨36,2,ou.map Part.c,false⟩)/\(o<H.next)/\(j<=S.g.nodes.length)/\(ou.length<=most+1)/\(ou=(List.range j).foldl (λou k=>if IQ S ns k=true then N7 S (most+1) k' (ns++[(k:Int)]) ou else ou) out)/\(∀ q,q≠f->q≠o->q<G.next->H.get q=G.get q)/\(G.next<=H.next)) (λj=>S.g.nodes.length - j) 0 ⟨out,wg,wn,wn,wn,wn,wi,(by exact hle),(by rfl),(by intro q h1 h2 h3;rfl),(by simp [go_sem])⟩ λI0 hI0 j e H hi0=>?_)
   obtain ⟨ou,E0,gf_0,nf_0,go_0,no_0,hj,hou,hst,hfr,hnx⟩:=hi0
   have di1:=dF (aD:o≠f)
   have Y:=wa Y (wa E0 (wa gf_0 (wa (b8 nf_0) (wa go_0 (wa (b8 no_0) di1)))))
   refine rT (λh5=>?_) λh5=>?_
   .have hEj:=hokN j h5
    have o1:(0<=S.pn[ns.length]->S.pn[ns.length]=(j:Int))->(S.inj=true->mem ns (j:Int)=false)->(S.pn[ns.length]<0\/S.pn[ns.length]=(j:Int))/\(S.inj=false\/mem ns (j:Int)=false):=λa b=>⟨aD,by cases hI:S.inj;exact .inl rfl;exact .inr (b hI)⟩
    have hbg:=hG.tg _ (aC h5)
    have Y:=wa Y (wa h5 (aA h5))
    refine wp (h:=uM (λhg=>FX S most (.list (ou.map Part.c)) (by simp [D.cl,vA]) ns j) WJ (λhg=>wl) (λhg=> rfl) rfl Zz ?_)
    refine wp (h:=dL (λhg=>(by have hq:=AH S.t hG.v S.g.nodes[j] S.p.nodes[ns.length] hbg.1 hbg.2 hbp.1;unfold Types.d Types.c dI at hq;exact hq)) (λhg=>wl) ?_)
    refine rT (λh7=>?_) λh7=>?_
    .have hE:IQ S ns j=false:=by
      rw [hEj,bH];intro hT;simp at hT
      obtain ⟨a,b,c⟩:=hT
      rcases h7 with (h|h)|h
      .omega
      .rcases b with b|b
       .rw [b] at h;cases h.1
       .rw [b] at h;cases h.2
      .rw [c] at h;cases h
     obtain ⟨ou2,hou2⟩:∃ x,x=ou:=⟨_,rfl⟩
     have Y:=wa Y (wa @Part.c.eq_1 hou2)
     exact wp (h:=wx hI0 (j+1) ⟨ou2,wg,wn,wn,wn,wn,wj,(by rw [hou2];first|exact hou|exact RX hG.gp _ _ hou),(by rw [eD,<- hst,hou2];first|rw [if_pos hE]|rw [if_neg (by rw [hE];simp)]),(by first|exact hfr3|exact hfr|(intro q h1 h2 h3;simp [go_sem,h1,h2,b8 (aD:q<H.next)];exact hfr q h1 h2 h3)),(by first|omega|(simp [go_sem];omega))⟩)
    .have hE:IQ S ns j=true:=by
      obtain ⟨⟨a,b⟩,c⟩:=h7
      rw [hEj];simp [c]
      exact ⟨aD,by cases hI:S.inj;exact .inl rfl;exact .inr (b hI)⟩
     obtain ⟨ou2,hou2⟩:∃ x,x=N7 S (most+1) k' (ns++[(j:Int)]) ou:=⟨_,rfl⟩
     have Y:=wa Y (wa @Part.c.eq_1 h7)
     refine wp (h:=?_)
     refine Jz (args':=[.ptr f 1 0 0,dLI (ns++[(j:Int)])]) (by simp [go_sem,Y,dLI]) rfl ?_
     unfold fL
     refine ih k' aD (ns++[(j:Int)]) ou _ _ (by simp;omega) (by simp [go_sem];omega) (by simp [go_sem];omega) ⟨by simp [go_sem,Y],by simp [go_sem,Y],hou⟩ (λH3 hF3 hf3 hn3=>?_)
     rw [<- hou2] at hF3
     obtain ⟨gf3,go3,hle3⟩:=hF3
     simp [go_sem] at hn3
     have hfr3:∀ j,j≠f->j≠o->j<G.next->H3.get j=G.get j:=λj h1 h2 h3=>by
      have e1:=b8 (aD:j<H.next)
      rw [hf3 j h1 h2 (by simp [go_sem];omega)]
      simp [go_sem,h1,h2,e1]
      exact hfr j h1 h2 h3
     have fr2:=And.intro (b8 (aD:f<H3.next)) (b8 (aD:o<H3.next))
     have Y:=wa Y (wa gf3 (wa go3 fr2))
     exact wp (h:=wx hI0 (j+1) ⟨ou2,wg,wn,wn,wn,wn,wj,(by rw [hou2];first|exact hou|exact RX hG.gp _ _ hou),(by rw [eD,<- hst,hou2];first|rw [if_pos hE]|rw [if_neg (by rw [hE];simp)]),(by first|exact hfr3|exact hfr|(intro q h1 h2 h3;simp [go_sem,h1,h2,b8 (aD:q<H.next)];exact hfr q h1 h2 h3)),(by first|omega|(simp [go_sem];omega))⟩)
   .have hJ:j=S.g.nodes.length:=aD
    have hOV:N7 S (most+1) (k'+1) ns out=ou:=by simp only [N7];rw [if_neg hnf,hst,hJ]
    refine wv (h:=?_)
    exact hQ _ (by rw [hOV];exact ⟨by assumption,by assumption,hou⟩) hfr hnx
@[go_sem] theorem Yj {n:Nat}{c:List D}(h:D.clL c=true):D.clLL (List.replicate n c)=true:=by
 induction n with
 | zero=>rfl
 | succ n ih=>simp [s5,D.clLL,h,ih]
theorem MA (l:List Part):eQ (l.map Part.c)=l.map Part.c:=lI λc hc=>by
 rw [bB] at hc;obtain ⟨x,_,rfl⟩:=hc
 simp [Part.c,i6,l8,dLI,eH]
theorem QL (S:Srch)(n:G17 S.t S.p S.g)(f:S.pn.length=S.p.nodes.length)(i:S.pe.length=S.p.edges.length)(a:Nat)(j:a<=5000) :
  Pure Tryz.prog 356 [S.t.d,S.p.d,S.g.d,.agg [dLI S.pn,dLI S.pe],.bool S.inj,dI a] (.list (((Bq S).take (a+1)).map Part.c)):=by
 have b:N7 S (a+1) S.p.nodes.length [] []=(Bq S).take (a+1):=by rw [N6 n.gp (a+1) _ _ _ bW];simp [Bq]
 obtain ⟨L,s⟩:=cW ((Bq S).take (a+1))
 rw [<- s] at b ⊢
 refine uF (by first|rfl|(simp [go_sem];done)) (λQ r=>(aJ (cfg:=⟨λt=>t==21,λ_=>[]⟩) Tz.mixed Tryz.func356 rfl rfl (aF rfl) (by kernel_rfl) ?_))
 have Y:=trivial
 refine wv (h:=?_)
 refine wS (.step (.refl _) 0 0 10 36 2 _ _ (by simp [go_sem];rfl) rfl rfl rfl) ?_
 simp [go_sem]
 refine Nz (args':=[.ptr 0 1 0 0,dLI []]) (by simp [go_sem,dLI,Q3]) ?_
 unfold fL
 refine Ma S n f i a j 0 1 aD S.p.nodes.length [] [] _ _ bW (by simp [go_sem]) (by simp [go_sem]) ⟨by simp [go_sem,Srch.cells,Types.c,Graph.c,dLI,dI],by simp [go_sem],by simp⟩ (λu e q o=>?_)
 rw [b] at e
 obtain ⟨l,k,m⟩:=e
 have Y:=wa Y (wa l (wa k @Srch.cells.eq_1))
 refine wv (h:=?_)
 exact r _ _ (by simp [go_sem,Y,l8,MA])
def c8 (x:Term)(vs:List Int):Int:=if x.var<0 then x.add else vs[x.var.toNat]?.getD 0+x.add
def Sm (vs:List Int):Prop:=∀ v∈vs,-4000000<=v/\v<=4000000
theorem Sm.get {vs:List Int}(h:Sm vs){k:Nat}(hk:k<vs.length) : -4000000<=vs[k]/\vs[k]<=4000000:=h _ (aC hk)
def pL (x:Term)(n:Nat):Prop:=(-1<=x.var/\x.var<n)/\(-1000000<=x.add/\x.add<=1000000)
theorem qQ (x:Term)(vs:List Int)(e:pL x vs.length)(f:Sm vs):Pure Tryz.prog 256 [.agg x.c,dLI vs] (dI (c8 x vs)):=by
 have a:=e
 obtain ⟨⟨l,k⟩,j,i⟩:=a
 refine Tz.pK ⟨λ_=>false,λ_=>[]⟩ Tryz.func256 rfl (λQ b=>?_)
 have Y:=@Term.c.eq_1
 refine dP (λd=>?_) λd=>?_
 .exact wv (h:=b _ _ (by simp [go_sem,c8,d]))
 .have hk:x.var.toNat<vs.length:=aD
  have g:=f.get hk
  have Y:=wa Y (aA hk)
  exact wo (h:=b _ _ (by simp [go_sem,c8,(aD:¬ x.var<0),aA hk]))
theorem jO (x:Term)(vs:List Int)(d:pL x vs.length)(f:Sm vs):Pure Tryz.prog 158 [.agg x.c,dLI vs] (.tup [dI (c8 x vs),dI 0]):=by
 have a:=d
 obtain ⟨⟨k,j⟩,i,g⟩:=a
 refine Tz.pK ⟨λ_=>false,λ_=>[]⟩ Tryz.func158 rfl (λQ e=>?_)
 have Y:=@Term.c.eq_1
 refine fA (λb=>?_) λb=>?_
 .have Y:=wa Y b
  exact wv (h:=e _ _ wy)
 .refine wv (h:=aB (qQ x vs d f) wl ?_)
  have Y:=wa Y b
  exact wv (h:=e _ _ wy)
theorem DZ (x:Term)(vs:List Int)(f:pL x vs.length)(g:Sm vs):Pure Tryz.prog 392 [.agg x.c,dLI vs] (.tup [dI (c8 x vs),.bool true]):=by
 have a:=f
 obtain ⟨⟨m,l⟩,k,j⟩:=a
 refine Tz.pK ⟨λ_=>false,λ_=>[]⟩ Tryz.func392 rfl (λQ b=>?_)
 have Y:=@Term.c.eq_1
 refine dP (λd=>?_) λd=>?_
 .exact wv (h:=b _ _ (by simp [go_sem,c8,d]))
 .refine fA (λe=>?_) λe=>?_
  .have Y:=wa Y (wa d e)
   exact wv (h:=b _ _ wy)
  .have hk:x.var.toNat<vs.length:=aD
   have i:=g.get hk
   have Y:=wa Y (aA hk)
   exact wo (h:=b _ _ (by simp [go_sem,c8,aA hk];omega))
def Aj (x:Test)(vs:List Int):Bool:=(decide (x.kind=1)&&decide (c8 x.left vs<=c8 x.right vs))||(decide (x.kind=2)&&decide (c8 x.left vs=c8 x.right vs))
def Hm (x:Test)(n:Nat):Prop:=(x.kind=1\/x.kind=2)/\pL x.left n/\pL x.right n
theorem Ml (x:Test)(vs:List Int)(b:Hm x vs.length)(a:Sm vs):Pure Tryz.prog 339 [.agg x.c,dLI vs] (.bool (Aj x vs)):=by
 obtain ⟨g,e,d⟩:=b
 refine Tz.pK ⟨λ_=>false,λ_=>[]⟩ Tryz.func339 rfl (λQ f=>?_)
 have Y:=@Test.c.eq_1
 refine wv (h:=?_)
 refine aB (DZ x.left vs e a) wl ?_
 refine wv (h:=?_)
 refine aB (DZ x.right vs d a) wl ?_
 refine wv (h:=?_)
 repeat first|intro _|refine ⟨eO,?_⟩
 exact f _ _ (by simp [go_sem,Aj,Ch])
def lT (h:Host)(m:Part)(s:Slot):Int:=(h.values[(m.nodes[s.node.toNat]?.getD 0).toNat]?.getD [])[s.attr.toNat]?.getD 0
def kY (st:List Int × List Bool)(s:Slot):Bool:=decide (0<=s.term.var)&&!(st.2[s.term.var.toNat]?.getD false)
def l3 (h:Host)(m:Part)(st:List Int × List Bool)(s:Slot):List Int × List Bool :=
 if kY st s=true then (st.1.set s.term.var.toNat (lT h m s - s.term.add),st.2.set s.term.var.toNat true) else st
def jA (h:Host)(m:Part):List Int × List Bool->List Slot->Option (List Int × List Bool)
 | st,[]=>some st
 | st,s :: l=>if c8 s.term (l3 h m st s).1=lT h m s then jA h m (l3 h m st s) l else none
theorem yB (h:Host)(m:Part)(s:Slot):∀ (l:List Slot) (st:List Int × List Bool),jA h m st (l++[s])=(jA h m st l).bind λq=>if c8 s.term (l3 h m q s).1=lT h m s then some (l3 h m q s) else none
 | [],st=>by simp [jA]
 | a :: l,st=>by
  simp only [cX,jA]
  split
  .exact yB h m s l _
  .rfl
theorem DJ (h:Host)(m:Part):∀ (l r:List Slot) (st:List Int × List Bool),jA h m st l=none->jA h m st (l++r)=none
 | [],r,st,hn=>by simp [jA] at hn
 | a :: l,r,st,hn=>by
  simp only [cX,jA] at hn ⊢
  split at hn
  .rename_i he;rw [if_pos he];exact DJ h m l r _ hn
  .rename_i he;rw [if_neg he]
theorem tE {h:Host}{m:Part}{l:List Slot}{i:Nat}(d:i<l.length){a q:List Int × List Bool}(c:jA h m a (l.take i)=some q) :
  (c8 l[i].term (l3 h m q l[i]).1=lT h m l[i]->jA h m a (l.take (i+1))=some (l3 h m q l[i]))/\(c8 l[i].term (l3 h m q l[i]).1≠lT h m l[i]->jA h m a l=none):=by
 have e:l.take (i+1)=l.take i++[l[i]]:=aE d
 refine ⟨λb=>?_,λb=>?_⟩
 .rw [e,yB,c];simp [b]
 .have hn:jA h m a (l.take (i+1))=none:=by rw [e,yB,c];simp [b]
  have:=DJ h m _ (l.drop (i+1)) a hn
  rw [List.take_append_drop] at this;exact this
def fB (p:Pattern)(h:Host)(m:Part)(vs:List Int):List Int × Int :=
 match jA h m (vs++List.replicate (p.vars.toNat - vs.length) 0,List.replicate vs.length true++List.replicate (p.vars.toNat - vs.length) false) p.slots with
 | none=>([],11)
 | some q=>if p.tests.all (λx=>Aj x q.1)=true then (q.1,0) else ([],16)
structure Mat where
 m:Part
 vars:List Int
def Mat.c (x:Mat):List D:=[dLI x.m.nodes,dLI x.m.edges,dLI x.vars]
def Mat.d (x:Mat):D:=.agg x.c
@[go_sem] theorem Mat.cl (x:Mat):D.clL x.c=true:=by simp [Mat.c,D.clL,pD]
@[go_sem] theorem Y8 (l:List Mat):D.clLL (l.map Mat.c)=true:=dK _ Mat.cl l
def Nh (l:List Part):List Part × Int:=if 5000<(l.take 5001).length then ([],3) else (l.take 5001,0)
def B6 (n:Int)(l:List Int)(i:Nat):Int:=if l[i]?.getD 0 < -1\/n<=l[i]?.getD 0 then 6 else 0
def nD (l:List Int)(n:Int):Int:=bQ (B6 n l) 0 l.length
def nJ (t:Types)(p g:Graph)(q:Part)(inj:Bool):List Part × Int :=
 if fZ t p g≠0 then ([],fZ t p g)
 else if q.nodes.length≠p.nodes.length\/q.edges.length≠p.edges.length then ([],20)
 else if nD q.nodes g.nodes.length≠0 then ([],nD q.nodes g.nodes.length)
 else if nD q.edges g.edges.length≠0 then ([],nD q.edges g.edges.length)
 else Nh (Bq ⟨t,p,g,q.nodes,q.edges,inj⟩)
def yQ (n:Nat)(at_ im:List Int):List Int:=(List.range at_.length).foldl (λacc i=>acc.set (at_[i]?.getD 0).toNat (im[i]?.getD 0)) (List.replicate n (-1))
def o6 (c:Part)(q:Pattern)(m:Part):Part:=⟨yQ q.graph.nodes.length c.nodes m.nodes,yQ q.graph.edges.length c.edges m.edges⟩
def At (q:Pattern)(h:Host)(vars:List Int)(l:List Part):List Mat:=l.filterMap λx=>if (fB q h x vars).2=0 then some ⟨x,(fB q h x vars).1⟩ else none
def xL (t:Types)(c:Part)(q:Pattern)(h:Host)(m:Mat)(inj:Bool):List Mat × Int :=
 if (nJ t q.graph h.graph (o6 c q m.m) inj).2≠0 then ([],(nJ t q.graph h.graph (o6 c q m.m) inj).2)
 else (At q h m.vars (nJ t q.graph h.graph (o6 c q m.m) inj).1,0)
/-! ### conditions: the first witness -/
inductive Prf where
 | mk (choice:Int) (m:Mat) (kids:List Prf)
mutual
def Prf.c:Prf→List D
 | .mk ch m l=>[dI ch,dLI m.m.nodes,dLI m.m.edges,dLI m.vars,.list (Prf.cs l)]
def Prf.cs:List Prf→List (List D)
 | []=>[]
 | p :: l=>p.c :: Prf.cs l
end
theorem Prf.cs_eq (l:List Prf):Prf.cs l=l.map Prf.c:=by
 induction l with
 | nil=>simp [Prf.cs]
 | cons a l ih=>simp [Prf.cs,ih]
theorem Prf.c_eq (a:Int)(m:Mat)(l:List Prf):(Prf.mk a m l).c=[dI a,dLI m.m.nodes,dLI m.m.edges,dLI m.vars,.list (l.map Prf.c)]:=by simp [Prf.c,Prf.cs_eq]
mutual
theorem Prf.cl:∀ x:Prf,D.clL x.c=true
 | .mk ch m l=>by
  have:=Prf.cls l
  simp [Prf.c,D.clL,D.cl,dI,pD,this]
theorem Prf.cls:∀ l:List Prf,D.clLL (Prf.cs l)=true
 | []=>by simp [Prf.cs,D.clLL]
 | c :: l=>by simp [Prf.cs,D.clLL,Prf.cl c,Prf.cls l]
end
attribute [go_sem] Prf.cl
@[go_sem] theorem YT (l:List Prf):D.clLL (l.map Prf.c)=true:=by rw [<- Prf.cs_eq];exact Prf.cls l
mutual
theorem VU:∀ x:Prf,i6 x.c=x.c
 | .mk ch m l=>by
  have:=Ld l
  simp [Prf.c,i6,l8,dI,dLI,eH,this]
theorem Ld:∀ l:List Prf,eQ (Prf.cs l)=Prf.cs l
 | []=>by simp [Prf.cs,eQ]
 | c :: l=>by simp [Prf.cs,eQ,VU c,Ld l]
end
theorem fY (l:List Prf):eQ (l.map Prf.c)=l.map Prf.c:=by rw [<- Prf.cs_eq];exact Ld l
def iO:Mat:=⟨⟨[],[]⟩,[]⟩
def jP:Prf:=.mk 0 iO []
def TF (e:Int):Int:=if e=0 then 10 else if e=10 then 0 else e
def K6:List (Prf × Int)->List Prf->Prf × Int
 | [],acc=>(.mk 0 iO acc,0)
 | (p,e) :: l,acc=>if e≠0 then (jP,e) else K6 l (acc++[p])
def Tx:List (Prf × Int)->Nat->Prf × Int
 | [],_=>(jP,10)
 | (p,e) :: l,i=>if e≠10 then (.mk i iO [p],e) else Tx l (i+1)
def TU:List (Mat × (Prf × Int))->Prf × Int
 | []=>(jP,10)
 | (m,(p,e)) :: l=>if e≠10 then (.mk 0 m [p],e) else TU l
def MX (fs:List (Mat->Prf × Int)):Mat->Prf × Int:=fs.head?.getD λ_=>(jP,0)
mutual
def oO (t:Types)(h:Host)(inj:Bool):Cond→Mat→Prf × Int
 | .mk k l mp q=>fun m =>
  if k=2 then (jP,TF (MX (DF t h inj l) m).2)
  else if k=3 then K6 ((DF t h inj l).map fun f=>f m) []
  else if k=4 then Tx ((DF t h inj l).map fun f=>f m) 0
  else if k=5 then (if (xL t mp q h m inj).2≠0 then (jP,(xL t mp q h m inj).2) else TU ((xL t mp q h m inj).1.map fun x=>(x,MX (DF t h inj l) x)))
  else (jP,0)
def DF (t:Types)(h:Host)(inj:Bool):List Cond→List (Mat→Prf × Int)
 | []=>[]
 | c :: l=>oO t h inj c :: DF t h inj l
end
theorem RK (t:Types)(h:Host)(b:Bool)(l:List Cond):DF t h b l=l.map (oO t h b):=by
 induction l with
 | nil=>simp [DF]
 | cons a l ih=>simp [DF,ih]
theorem JL (t:Types)(h:Host)(a:Bool)(c:Cond)(m:Mat):oO t h a c m =
  if c.kind=2 then (jP,TF (MX (c.kids.map (oO t h a)) m).2)
  else if c.kind=3 then K6 (c.kids.map λk=>oO t h a k m) []
  else if c.kind=4 then Tx (c.kids.map λk=>oO t h a k m) 0
  else if c.kind=5 then (if (xL t c.map c.pattern h m a).2≠0 then (jP,(xL t c.map c.pattern h m a).2) else TU ((xL t c.map c.pattern h m a).1.map λx=>(x,MX (c.kids.map (oO t h a)) x)))
  else (jP,0):=by
 cases c;simp only [oO,RK,Cond.kind,Cond.kids,Cond.map,Cond.pattern,List.map_map];rfl
def RL (t:Types)(h:Host)(inj:Bool)(c:Cond)(m:Mat):Int:=(oO t h inj c m).2
def nS (t:Types)(h:Host)(inj:Bool)(c:Cond)(m:Mat):Bool × Int:=if RL t h inj c m=10 then (false,0) else (decide (RL t h inj c m=0),RL t h inj c m)
/-! ### a step -/
def d9 (t:Types)(p:Pattern)(h:Host)(m:Part):List Int × Int :=
 if c6 t p≠0 then ([],c6 t p) else if iG t h≠0 then ([],iG t h) else if fM t p.graph h.graph m false≠0 then ([],fM t p.graph h.graph m false) else fB p h m []
def l4 (p g:Graph)(m:Part):Graph:=⟨m.nodes.map (gN g),p.edges⟩
def q6 (t:Types)(r:Rule)(h:Host)(m:Mat):Int :=
 if fM t r.left.graph h.graph m.m r.inj≠0 then 1
 else if (d9 t r.left h m.m).2≠0 then (d9 t r.left h m.m).2
 else if (d9 t r.left h m.m).1≠m.vars then 11
 else rG (l4 r.left.graph h.graph m.m) h.graph r.keep m.m
def lQ (t:Types)(r:Rule)(h:Host)(m:Mat):Int :=
 if q6 t r h m≠0 then q6 t r h m
 else if (nS t h r.inj r.cond m).2≠0 then (nS t h r.inj r.cond m).2
 else if (nS t h r.inj r.cond m).1=false then 16 else 0
def bV (r:Rule)(h:Host)(m:Mat):Part:=sP (l4 r.left.graph h.graph m.m) h.graph r.keep m.m
def gA (l:List Int)(n:Nat)(v:Int):Int:=(List.range n).foldl (λacc (k:Nat)=>if l[k]?.getD (-1)=v then (k:Int) else acc) (-1)
def lM (l:List Int)(n:Nat):List Int:=(List.range n).map λ(v:Nat)=>gA l l.length v
def A1 (into:List Int)(i:Nat):Nat:=((List.range i).filter λ(j:Nat)=>decide (gA into into.length j<0)).length
def G2 (keep into at_:List Int)(remain:Nat)(i:Nat):Int:=if 0<=gA into into.length i then at_[(keep[(gA into into.length i).toNat]?.getD 0).toNat]?.getD 0 else ((remain+A1 into i:Nat):Int)
def CQ (keep into at_:List Int)(right remain:Nat):List Int:=(List.range right).map (G2 keep into at_ remain)
def nF (d:List Int)(n:Nat):List Int:=lM d n
def cO (r:Rule)(h:Host)(m:Mat):Part:=⟨nF (bV r h m).nodes h.graph.nodes.length,nF (bV r h m).edges h.graph.edges.length⟩
def oQ (l tr:List Int):List Int:=l.map λk=>tr[k.toNat]?.getD 0
def eY (r:Rule)(h:Host)(m:Mat):Part :=
 ⟨CQ r.keep.nodes r.into.nodes (oQ m.m.nodes (cO r h m).nodes) r.right.graph.nodes.length (bV r h m).nodes.length,CQ r.keep.edges r.into.edges (oQ m.m.edges (cO r h m).edges) r.right.graph.edges.length (bV r h m).edges.length⟩
def l9 (t:Types)(k:Int):List Int:=(bM t k).map λa=>a.low
def freshE (c:Part)(y:Edge):Edge:=⟨y.type,c.nodes[y.from_.toNat]?.getD 0,c.nodes[y.to_.toNat]?.getD 0⟩
def jQ (t:Types)(r:Rule)(c:Part)(x:Host):Host :=
 ⟨⟨x.graph.nodes++r.freshN.map (gN r.right.graph),x.graph.edges++r.freshE.map (λk=>freshE c (r.right.graph.edges[k.toNat]?.getD cF))⟩,x.values++r.freshN.map (λk=>l9 t (gN r.right.graph k))⟩
def bZ (t:Types)(r:Rule)(h:Host)(m:Mat):Host:=jQ t r (eY r h m) ⟨cY h.graph (bV r h m),(bV r h m).nodes.map λk=>h.values[k.toNat]?.getD []⟩
def fI (c:Part)(s:Slot):Nat:=(c.nodes[s.node.toNat]?.getD 0).toNat
def Dr (c:Part)(vs:List Int)(a b:Slot):Bool:=decide (fI c a=fI c b)&&(decide (a.attr=b.attr)&&decide (c8 a.term vs≠c8 b.term vs))
def wR (c:Part)(vs:List Int)(l:List Slot):Bool:=(List.range l.length).any λi=>(List.range i).any λk=>match l[k]?,l[i]? with|some a,some b=>Dr c vs a b|_,_=>false
def yR (t:Types)(g:Graph)(c:Part)(vs:List Int)(s:Slot):Bool :=
 let a:=(bM t (g.nodes[fI c s]?.getD 0))[s.attr.toNat]?.getD nO
 decide (c8 s.term vs<a.low)||decide (a.high<c8 s.term vs)
def s7 (t:Types)(g:Graph)(c:Part)(vs:List Int)(l:List Slot):Int:=if wR c vs l=true then 11 else if l.any (yR t g c vs)=true then 6 else 0
def uE (c:Part)(vs:List Int)(l:List Slot)(vals:List (List Int)):List (List Int):=l.foldl (λvals s=>vals.set (fI c s) ((vals[fI c s]?.getD []).set s.attr.toNat (c8 s.term vs))) vals
def cT (t:Types)(r:Rule)(h:Host)(m:Mat):Host:=⟨(bZ t r h m).graph,uE (eY r h m) m.vars r.right.slots (bZ t r h m).values⟩
def k8 (t:Types)(r:Rule)(h:Host)(m:Mat):Int :=
 if lQ t r h m≠0 then lQ t r h m
 else if s7 t (bZ t r h m).graph (eY r h m) m.vars r.right.slots≠0 then s7 t (bZ t r h m).graph (eY r h m) m.vars r.right.slots
 else if 40<(bZ t r h m).graph.nodes.length\/80<(bZ t r h m).graph.edges.length then 3 else 0
structure Stp26 where
 rule:Rule
 mat:Mat
 before:Host
 after:Host
 track:Part
 comatch:Part
def Stp26.c (s:Stp26):List D:=s.rule.c++s.mat.c++s.before.c++s.after.c++[dLI s.track.nodes,dLI s.track.edges,dLI s.comatch.nodes,dLI s.comatch.edges]
def iJ (t:Types)(r:Rule)(h:Host):Int:=if ruleF t r≠0 then ruleF t r else iG t h
def nT (t:Types)(r:Rule)(h:Host)(m:Mat):Int:=if iJ t r h≠0 then iJ t r h else k8 t r h m
def bG (t:Types)(r:Rule)(h:Host)(m:Mat):Stp26:=⟨r,m,h,cT t r h m,cO r h m,eY r h m⟩
@[go_sem] theorem Wm (l:List Part):D.clLL (l.map Part.c)=true:=vA l
theorem WV (t:Types)(p g:Graph)(hG:G17 t p g)(pn pe:List Int)(h1:pn.length=p.nodes.length)(h2:pe.length=p.edges.length)(inj:Bool) :
  Pure Tryz.prog 356 [t.d,p.d,g.d,.agg [dLI pn,dLI pe],.bool inj,dI 5000] (.list (((Bq ⟨t,p,g,pn,pe,inj⟩).take 5001).map Part.c)) :=
 QL ⟨t,p,g,pn,pe,inj⟩ hG h1 h2 5000 aD
theorem UT (t:Types)(p g:Graph)(hG:G17 t p g)(pn pe:List Int)(h1:pn.length=p.nodes.length)(h2:pe.length=p.edges.length)(inj:Bool){L:List Part}(hL:L=(Bq ⟨t,p,g,pn,pe,inj⟩).take 5001) :
 Pure Tryz.prog 356 [t.d,p.d,g.d,.agg [dLI pn,dLI pe],.bool inj,dI 5000] (.list (L.map Part.c)):=hL ▸ WV t p g hG pn pe h1 h2 inj
def BZ (l:List Int)(uN n:Int):Int:=if (l.length:Int)≠uN then 20 else nD l n
theorem BT (l:List Int)(uN n:Int):Pure Tryz.prog 440 [dLI l,dI uN,dI n] (dI (BZ l uN n)):=by
 refine Tz.pK ⟨λ_=>false,λ_=>[]⟩ Tryz.func440 rfl (λQ hQ=>?_)
 have Y:=trivial
 refine wv (h:=?_)
 repeat first|intro _|refine ⟨eO,?_⟩
 refine wq (λh1=>?_) λh1=>?_
 .have hP:BZ l uN n=20:=by unfold BZ;rw [if_pos aD]
  exact wv (h:=hQ _ _ (by simp [go_sem,hP]))
 .have hP:BZ l uN n=nD l n:=by unfold BZ;rw [if_neg aD]
  refine wv (h:=bD (λi e H=>(e 0=dLI l/\e 2=dI n/\e 7=dI i)/\(i<=l.length)/\(bQ (B6 n l) i (l.length - i)=nD l n)) (λi=>l.length - i) 0 ⟨wg,wi,(by rfl)⟩ λI0 hI0 i e H hi0=>?_)
  obtain ⟨E0,hi,hF⟩:=hi0
  have Y:=wa Y E0
  refine wv (h:=?_)
  repeat first|intro _|refine ⟨eO,?_⟩
  refine wq (λh4=>?_) λh4=>?_
  .have hst:=eI (B6 n l) h4
   rw [hF] at hst
   have hO:B6 n l i=if l[i] < -1\/n<=l[i] then 6 else 0:=by simp only [B6,aA h4,Option.getD_some]
   have Y:=wa Y (wa h4 (aA h4))
   refine wv (h:=?_)
   repeat first|intro _|refine ⟨eO,?_⟩
   refine wq (λh6=>?_) λh6=>?_
   .rw [if_pos aD] at hO
    rw [hO,if_pos aD] at hst
    exact wv (h:=hQ _ _ (by simp [go_sem,hP,hst]))
   .rw [if_neg aD] at hO
    rw [hO,if_neg aD] at hst
    exact wo (h:=wx hI0 (i+1) ⟨wg,wj,(by exact hst.symm)⟩)
  .have hZ:nD l n=0:=by rw [<- hF,(aD:l.length - i=0)];rfl
   exact wv (h:=hQ _ _ (by simp [go_sem,hP,hZ]))
theorem Ko (t:Types)(o:t.ok)(p g:Graph)(q:Part)(a:Bool):Pure Tryz.prog 394 [t.d,p.d,g.d,q.d,.bool a] (.tup [.list ((nJ t p g q a).1.map Part.c),dI (nJ t p g q a).2]):=by
 refine Tz.pK ⟨λ_=>false,λ_=>[]⟩ Tryz.func394 rfl (λQ k=>?_)
 have Y:=trivial
 refine wv (h:=aB (yJ t o p g) wl ?_)
 refine dP (λi=>?_) λi=>?_
 .have b:nJ t p g q a=([],fZ t p g):=by unfold nJ;rw [if_pos (bX i)]
  exact wv (h:=k _ _ (by simp [go_sem,b]))
 .have hG:=pZ (bX i)
  refine fA (λr=>?_) λr=>?_
  .have b:nJ t p g q a=([],20):=by unfold nJ;rw [if_neg (bX i),if_pos aD]
   exact wv (h:=k _ _ (by simp [go_sem,b]))
  .have hq:q.nodes.length=p.nodes.length/\q.edges.length=p.edges.length:=aD
   have f:BZ q.nodes p.nodes.length g.nodes.length=nD q.nodes g.nodes.length:=by unfold BZ;rw [if_neg aD]
   have e:BZ q.edges p.edges.length g.edges.length=nD q.edges g.edges.length:=by unfold BZ;rw [if_neg aD]
   refine wo (h:=aB (BT q.nodes p.nodes.length g.nodes.length) wl ?_)
   refine fA (λl=>?_) λl=>?_
   .have b:nJ t p g q a=([],nD q.nodes g.nodes.length):=by unfold nJ;rw [if_neg (bX i),if_neg aD,if_pos (by rw [<- f];exact l)]
    exact wv (h:=k _ _ (by simp [go_sem,b,f]))
   .have h7':nD q.nodes g.nodes.length=0:=by rw [<- f];exact l
    refine wo (h:=aB (BT q.edges p.edges.length g.edges.length) wl ?_)
    refine fA (λj=>?_) λj=>?_
    .have b:nJ t p g q a=([],nD q.edges g.edges.length):=by unfold nJ;rw [if_neg (bX i),if_neg aD,if_neg aD,if_pos (by rw [<- e];exact j)]
     exact wv (h:=k _ _ (by simp [go_sem,b,e]))
    .have h10':nD q.edges g.edges.length=0:=by rw [<- e];exact j
     obtain ⟨L,n⟩:=cW ((Bq ⟨t,p,g,q.nodes,q.edges,a⟩).take 5001)
     have b:nJ t p g q a=if 5000<L.length then ([],3) else (L,0):=by unfold nJ;rw [if_neg (bX i),if_neg aD,if_neg aD,if_neg aD];unfold Nh;rw [<- n]
     refine wv (h:=aB (UT t p g hG q.nodes q.edges hq.1 hq.2 a n) wl ?_)
     refine fA (λm=>?_) λm=>?_
     .rw [if_pos aD] at b
      exact wv (h:=k _ _ (by simp [go_sem,b]))
     .rw [if_neg aD] at b
      exact wv (h:=k _ _ (by simp [go_sem,b]))
/-! ### the instance of a pattern -/
def Gx (g:Graph)(ms ns:List Int)(i:Nat):List Int:=(List.range i).foldl (λacc k=>acc.set k (gN g (ms[k]?.getD 0))) ns
theorem y4 (g:Graph)(ms ns:List Int):∀ i,(Gx g ms ns i).length=ns.length
 | 0=>rfl
 | i+1=>by unfold Gx;rw [eD,g7];exact y4 g ms ns i
theorem Je (g:Graph)(a ns:List Int)(i:Nat):Gx g a ns (i+1)=(Gx g a ns i).set i (gN g (a[i]?.getD 0)):=by unfold Gx;rw [eD]
theorem MR (g:Graph)(ms ns:List Int)(k:Nat)(hk:k<ns.length):∀ i,(Gx g ms ns i)[k]?=if k<i then some (gN g (ms[k]?.getD 0)) else ns[k]?
 | 0=>by simp [Gx]
 | i+1=>by
  rw [Je,dZ,y4,MR g ms ns k hk i]
  by_cases h:i=k
  .subst h;simp [hk]
  .rw [if_neg h]
   by_cases h2:k<i
   .rw [if_pos h2,if_pos aD]
   .rw [if_neg h2,if_neg aD]
theorem So {g:Graph}{a ns:List Int}(h:a.length=ns.length):Gx g a ns ns.length=a.map (gN g):=by
 apply gL
 intro k
 by_cases b:k<ns.length
 .rw [MR g a ns k b,if_pos b,aN,aA aD];rfl
 .rw [b7 (by rw [y4];omega),b7 (by simp;omega)]
def Al (t:Types)(p g:Graph)(m:Part):Graph:=if fM t p g m false=0 then l4 p g m else ⟨[],[]⟩
theorem zY {t:Types}{p g:Graph}{m:Part}{a:Bool}(h:iX t p g m a=0) :
  (m.nodes.length=p.nodes.length/\m.edges.length=p.edges.length)/\(∀ x∈m.nodes,0<=x/\x<g.nodes.length)/\(∀ x∈m.edges,0<=x/\x<g.edges.length):=by
 unfold iX at h
 split at h
 .cases h
 .rename_i h1
  split at h
  .exact absurd h (by assumption)
  .rename_i h2
   split at h
   .exact absurd h (by assumption)
   .rename_i h3
    refine ⟨aD,λx b=>?_,λx b=>?_⟩
    .obtain ⟨k,c,rfl⟩:=aO b
     have:=eP _ _ (bX h2) k (dY _) aD
     unfold I9 at this
     rw [aA c,Option.getD_some] at this
     split at this
     .cases this
     .omega
    .obtain ⟨k,c,rfl⟩:=aO b
     have:=eP _ _ (bX h3) k (dY _) aD
     unfold iP at this
     rw [aA c,Option.getD_some] at this
     split at this
     .cases this
     .omega
theorem r4 {t:Types}{p g:Graph}{m:Part}{a:Bool}(h:fM t p g m a=0):G17 t p g/\iX t p g m a=0:=by
 unfold fM at h
 split at h
 .exact absurd h (by assumption)
 .rename_i h1;exact ⟨pZ (bX h1),h⟩
theorem FY (t:Types)(ht:t.ok)(p g:Graph)(m:Part):Pure Tryz.prog 150 [t.d,p.d,g.d,m.d] (.tup [(Al t p g m).d,dI (fM t p g m false)]):=by
 refine Tz.pK ⟨λt=>t==8||t==11,λ_=>[]⟩ Tryz.func150 rfl (λQ hQ=>?_)
 have Y:=trivial
 refine wv (h:=aB (yL t ht p g m false) wl ?_)
 refine dP (λh2=>?_) λh2=>?_
 .have hI:Al t p g m=⟨[],[]⟩:=by unfold Al;rw [if_neg (bX h2)]
  exact wv (h:=hQ _ _ (by simp [go_sem,hI]))
 .obtain ⟨hG,hM⟩:=r4 (bX h2)
  obtain ⟨⟨hl1,hl2⟩,hmn,hme⟩:=zY hM
  have hla:=bS hG.gp
  have hlb:=bS hG.gg
  have hI:Al t p g m=l4 p g m:=by unfold Al;rw [if_pos (bX h2)]
  refine wv (h:=?_)
  unfold fL;refine uD p aD aD _ _ (λa b H1 ha hb hab han hbn hga hgb hfr hnn=>?_)
  have h0n:(0:Nat)<H1.next:=aD
  have ha0:a≠0:=by simp [go_sem] at ha;omega
  have hb0:b≠0:=by simp [go_sem] at hb;omega
  have hg0:=hfr 0 (by simp [go_sem])
  simp [go_sem] at hg0
  have nx:=Wp H1.next
  have fr1:=And.intro (b8 (aD:a<H1.next)) (And.intro (b8 (aD:b<H1.next)) (b8 (aD:0<H1.next)))
  have di2:=And.intro (dF (aD:0≠b)) (And.intro (dF (aD:0≠a)) (dF (aD:b≠a)))
  have Y:=wa Y (wa fr1 (wa di2 (wa hga (wa hgb (wa hg0 nx)))))
  refine wv (h:=bD (λi e H=>∃ c:Nat,(e 4=.adr t.c/\e 5=.adr p.c/\e 6=.adr g.c/\e 7=.adr m.c/\e 8=.ptr 0 1 0 0/\e 11=.ptr c 1 0 0/\e 12=dI i)/\(H.get 0=some ⟨29,2,[[.nil,.nil]],false⟩)/\(0<H.next)/\(H.get c=some ⟨29,2,[[.own a p.nodes.length,.own b p.edges.length]],false⟩)/\(c<H.next)/\(H.get a=some ⟨3,1,(Gx g m.nodes p.nodes i).map cI,false⟩)/\(a<H.next)/\(H.get b=some ⟨122,3,p.edges.map Edge.c,false⟩)/\(b<H.next)/\(i<=p.nodes.length)/\(a<c/\b<c)/\((Gx g m.nodes p.nodes i).length=p.nodes.length)) (λi=>p.nodes.length - i) 0 ⟨H1.next,wg,wn,wn,wn,wn,(by simp [go_sem,Y,Gx]),wn,wn,wn,wi,aD,(by exact y4 _ _ _ _)⟩ λI0 hI0 i e H hi0=>?_)
  obtain ⟨c,E0,g0_0,n0_0,gc_0,nc_0,ga_0,na_0,gb_0,nb_0,hi,hc,hrl⟩:=hi0
  have di3:=And.intro (dF (aD:0≠c)) (And.intro (dF (aD:0≠b)) (And.intro (dF (aD:0≠a)) (And.intro (dF (aD:c≠b)) (And.intro (dF (aD:c≠a)) (dF (aD:b≠a))))))
  have Y:=wa Y (wa E0 (wa g0_0 (wa (b8 n0_0) (wa gc_0 (wa (b8 nc_0) (wa ga_0 (wa (b8 na_0) (wa gb_0 (wa (b8 nb_0) (wa hrl di3))))))))))
  refine rT (λh6=>?_) λh6=>?_
  .have him:i<m.nodes.length:=aD
   have hmi:=hmn _ (aC him)
   have hkg:m.nodes[i].toNat<g.nodes.length:=aD
   have hgx:gN g (m.nodes[i]?.getD 0)=g.nodes[m.nodes[i].toNat]:=by rw [aA him,Option.getD_some];simp [gN,aA hkg]
   have hgy:gN g m.nodes[i]=g.nodes[m.nodes[i].toNat]:=by simp [gN,aA hkg]
   have Y:=wa Y (wa h6 (wa (aA him) (aA hkg)))
   exact wp (h:=wx hI0 (i+1) ⟨c,wg,wn,wn,wn,wn,(by simp [go_sem,Y,Je,bY,hgx,hgy,cI]),wn,wn,wn,wj,aD,(by exact y4 _ _ _ _)⟩)
  .have hIe:i=p.nodes.length:=aD
   have hE:=So (g:=g) hl1
   rw [hIe] at hrl
   exact wv (h:=hQ _ _ (by simp [go_sem,Y,hI,l4,Graph.d,Graph.c,hIe,hE,dLI,hl1,h2]))
theorem Ez (a b:Graph)(m:Part):Pure Tryz.prog 97 [a.d,b.d,m.d] (.bool (Gy a b m)):=by
 refine Tz.pK ⟨λ_=>false,λ_=>[]⟩ Tryz.func97 rfl (λQ e=>?_)
 have Y:=trivial
 refine wo (h:=aB (tK a b m) wl ?_)
 refine wo (h:=aH (λc=>lG m.nodes) (λc=>wl) ?_)
 refine wo (h:=aH (λc=>lG m.edges) (λc=>wl) ?_)
 exact wo (h:=e _ _ (by simp [go_sem,Gy,lO]))
theorem Ki (c:Cond)(a:c.short):Pure Tryz.prog 418 [.agg c.c] (.bool (bareB c)):=by
 obtain ⟨j,i,g,f,e,d⟩:=a
 refine Tz.pK ⟨λ_=>false,λ_=>[]⟩ Tryz.func418 rfl (λQ b=>?_)
 have Y:=@Cond.c_eq
 exact wo (h:=b _ _ (by simp [go_sem,bareB];rw [aR];simp;omega))
theorem L0 (c:Cond)(m:c.short):Pure Tryz.prog 361 [.agg c.c] (.bool (rF c)):=by
 have a:∀ e:Int,e=c.kind->Pure Tryz.prog 418 [.agg [dI e,.list (c.kids.map Cond.c),dLI c.map.nodes,dLI c.map.edges,dLI c.pattern.graph.nodes,.list (c.pattern.graph.edges.map Edge.c),.list (c.pattern.slots.map Slot.c),dI c.pattern.vars,.list (c.pattern.tests.map Test.c)]] (.bool (bareB c)):=by
  intro e f
  have:=Ki c m
  rwa [Cond.c_eq,<- f] at this
 refine Tz.pK ⟨λ_=>false,λ_=>[]⟩ Tryz.func361 rfl (λQ d=>?_)
 have Y:=@Cond.c_eq
 refine dP (λl=>?_) λl=>?_
 .have Y:=wa Y l
  refine wo (h:=aH (λb=>(a _ aD)) (λb=>wl) ?_)
  exact wo (h:=d _ _ (by simp [go_sem,rF,Y]))
 .have Y:=wa Y l
  refine dP (λk=>?_) λk=>?_
  .have Y:=wa Y k
   refine wo (h:=aH (λb=>(a _ aD)) (λb=>wl) ?_)
   exact wo (h:=d _ _ (by simp [go_sem,rF,Y]))
  .have Y:=wa Y k
   refine dP (λj=>?_) λj=>?_
   .have Y:=wa Y j
    refine wo (h:=aH (λb=>(a _ aD)) (λb=>wl) ?_)
    exact wo (h:=d _ _ (by simp [go_sem,rF,Y];rw [aR];simp;omega))
   .have Y:=wa Y j
    refine dP (λi=>?_) λi=>?_
    .have Y:=wa Y i
     refine wo (h:=aH (λb=>(a _ aD)) (λb=>wl) ?_)
     exact wo (h:=d _ _ (by simp [go_sem,rF,Y];rw [aR];simp;omega))
    .have Y:=wa Y i
     refine dP (λg=>?_) λg=>?_
     .have Y:=wa Y g
      exact wo (h:=d _ _ (by simp [go_sem,rF,Y];rw [aR];simp))
     .have Y:=wa Y g
      exact wv (h:=d _ _ (by simp [go_sem,rF,Y]))
theorem FW:∀ c:Cond,c.ok->Pure Tryz.prog 293 [.agg c.c] (.bool (Lm c)):=by
 refine i9 λc ih hc=>?_
 obtain ⟨hs,hk⟩:=(qW c).1 hc
 have hW:=uB c
 refine Tz.pK ⟨λ_=>false,λ_=>[]⟩ Tryz.func293 rfl (λQ hQ=>?_)
 have Y:=@Cond.c_eq
 refine wo (h:=aB ((by have:=L0 c hs;rwa [Cond.c_eq] at this)) wl ?_)
 refine wv (h:=?_)
 repeat first|intro _|refine ⟨eO,?_⟩
 refine wq (λh1=>?_) λh1=>?_
 .exact wv (h:=hQ _ _ (.inl (by simp [go_sem,hW,h1])))
 .refine wv (h:=bD (λi e H=>(e 1=.adr c.c/\e 3=dI i)/\(i<=c.kids.length)/\(((c.kids.take i).any λk=>!Lm k)=false)) (λi=>c.kids.length - i) 0 ⟨wg,wi,(by rfl)⟩ λI0 hI0 i e H hi0=>?_)
  obtain ⟨E0,hi,ha⟩:=hi0
  have Y:=wa Y E0
  refine wv (h:=?_)
  repeat first|intro _|refine ⟨eO,?_⟩
  refine wq (λh4=>?_) λh4=>?_
  .have Y:=wa Y h4
   refine wo (h:=aB ((by have:=ih _ (aC h4) (hk _ (aC h4));rwa [Cond.c_eq] at this)) wl ?_)
   refine wv (h:=?_)
   repeat first|intro _|refine ⟨eO,?_⟩
   refine wq (λh6=>?_) λh6=>?_
   .refine wv (h:=?_)
    have hb':c.kids.all Lm=false:=by rw [bH];intro h;rw [cJ] at h;have:=h _ (aC h4);rw [h6] at this;cases this
    exact hQ _ _ (.inl (by simp only [go_sem,hW,h1,hb',Bool.and_false]))
   .exact wo (h:=wx hI0 (i+1) ⟨wg,wj,(by rw [dU _ _ _ h4,ha];simp [h6])⟩)
  .refine wv (h:=?_)
   have hb:=nX ha h4
   have hb':c.kids.all Lm=true:=by simp at hb ⊢;exact hb
   exact hQ _ _ (.inl (by simp only [go_sem,hW,h1,hb',Bool.and_true]))
theorem HO:∀ c:Cond,c.size<=1000000->Pure Tryz.prog 294 [.agg c.c] (.tup [dI c.size,dI c.dep]):=by
 refine i9 λc ih hc=>?_
 have hse:=v8 c
 have hde:=SF c
 have hle:=z8 c.kids
 refine Tz.pK ⟨λ_=>false,λ_=>[]⟩ Tryz.func294 rfl (λQ hQ=>?_)
 try simp [go_sem,seval,Cond.c_eq]
 obtain ⟨I0,hI0⟩:∃ I0:Nat->dJ->AHeap->Prop,∀ (i:Nat) (e:dJ) (H:AHeap),I0 i e H↔((e 1=.adr c.c)/\(e 4=dI ((1+Cond.sizes (c.kids.take i):Nat):Int))/\(e 5=dI (Cond.deps (c.kids.take i):Nat))/\(e 6=dI i)/\(i<=c.kids.length)):=⟨λi e H=>_,λ_ _ _=>Iff.rfl⟩
 refine oD I0 (λi=>c.kids.length - i) (0) ((hI0 _ _ _).2 ⟨?_,?_,?_,?_,(by first|assumption|omega|(simp [go_sem,Cond.c_eq];done)|(simp_all;done))⟩) ?_
 iterate 4 (first|omega|(simp [go_sem,seval,Cond.c_eq]<;>omega))
 intro i e H hi0
 obtain ⟨q1_0,q4_0,q5_0,q6_0,hi⟩:=(hI0 _ _ _).1 hi0
 have F0:=And.intro q1_0 q6_0
 try simp [go_sem,seval,Cond.c_eq,F0,q4_0,q5_0]
 repeat first|intro _|refine ⟨eO,?_⟩
 refine aP (λh3=>?_) (λh3=>?_)
 .try simp [go_sem] at h3
  have hsm:=BD (aC h3)
  have hdm:=O2 c.kids[i]
  have hts:=aE h3
  have h1s:=FB (c.kids.take i) c.kids[i]
  have h1d:=Js (c.kids.take i) c.kids[i]
  have hst:=Fz c.kids (i+1)
  have hS:Cond.sizes (c.kids.take (i+1))=Cond.sizes (c.kids.take i)+c.kids[i].size:=by rw [hts,h1s]
  have hD:Cond.deps (c.kids.take (i+1))=max (Cond.deps (c.kids.take i)) c.kids[i].dep:=by rw [hts,h1d]
  have hdt:=z8 (c.kids.take i)
  try simp [go_sem,seval,Cond.c_eq,F0,q4_0,q5_0,h3,hS,hD,HW]
  repeat first|intro _|refine ⟨eO,?_⟩
  refine aB ((by have:=ih _ (aC h3) aD;rwa [Cond.c_eq] at this)) ((by first|rfl|(simp [go_sem,<- List.map_take,<- List.map_drop,Cond.c_eq,F0,q4_0,q5_0,h3,hS,hD,HW];done))) ?_
  try simp [go_sem,seval,Cond.c_eq,F0,q4_0,q5_0,h3,hS,hD,HW]
  repeat first|intro _|refine ⟨eO,?_⟩
  refine d7 (i+1) aD ((hI0 _ _ _).2 ⟨?_,?_,?_,?_,(by first|assumption|omega|(simp [go_sem,Cond.c_eq,F0,q4_0,q5_0,h3,hS,hD,HW];done)|(simp_all<;>omega))⟩)<;>first|omega|(simp [go_sem,seval,Cond.c_eq,F0,q4_0,q5_0,h3,hS,hD,HW]<;>omega)
 .try simp [go_sem] at h3
  have hU:c.kids.take i=c.kids:=aG h3
  rw [hU] at q4_0 q5_0
  try simp [go_sem,seval,Cond.c_eq,F0,q4_0,q5_0]
  refine aP (λh7=>?_) (λh7=>?_)
  .try simp [go_sem] at h7
   try simp [go_sem,seval,Cond.c_eq,F0,q4_0,q5_0]
   repeat first|intro _|refine ⟨eO,?_⟩
   exact hQ _ _ (by first|(left;(simp [go_sem,hse,hde,h7]);done)|(right;(simp [go_sem,hse,hde,h7]);done))
  .try simp [go_sem] at h7
   try simp [go_sem,seval,Cond.c_eq,F0,q4_0,q5_0]
   exact hQ _ _ (by first|(left;(simp [go_sem,hse,hde,h7]);done)|(right;(simp [go_sem,hse,hde,h7]);done))
theorem L3 (c:Cond)(e:c.ok)(d:c.size<=1000000):Pure Tryz.prog 216 [.agg c.c] (dI (sA c)):=by
 refine Tz.pK ⟨λ_=>false,λ_=>[]⟩ Tryz.func216 rfl (λQ b=>?_)
 have Y:=@Cond.c_eq
 refine wo (h:=aB ((by have:=FW c e;rwa [Cond.c_eq] at this)) wl ?_)
 refine fA (λa=>?_) λa=>?_
 .exact wv (h:=b _ _ (by simp [go_sem,sA,a]))
 .refine wv (h:=aB ((by have:=HO c d;rwa [Cond.c_eq] at this)) wl ?_)
  refine fA (λf=>?_) λf=>?_
  .exact wv (h:=b _ _ (by simp [go_sem,sA,a];omega))
  .exact wv (h:=b _ _ (by simp [go_sem,sA,a];omega))
theorem Kj (p:Pattern)(v:Int):Pure Tryz.prog 362 [p.d,dI v] (.bool (jR p v)):=by
 refine Tz.pK ⟨λ_=>false,λ_=>[]⟩ Tryz.func362 rfl (λQ hQ=>?_)
 have Y:=trivial
 refine wv (h:=bD (λi e H=>(e 2=.adr p.c/\e 1=dI v/\e 5=dI i)/\(i<=p.slots.length)/\(((p.slots.take i).any λs=>decide (s.term.var=v))=false)) (λi=>p.slots.length - i) 0 ⟨wg,wi,(by rfl)⟩ λI0 hI0 i e H hi0=>?_)
 obtain ⟨E0,hi,ha⟩:=hi0
 have Y:=wa Y E0
 refine wv (h:=?_)
 repeat first|intro _|refine ⟨eO,?_⟩
 refine wq (λh2=>?_) λh2=>?_
 .have Y:=wa Y h2
  refine wv (h:=?_)
  repeat first|intro _|refine ⟨eO,?_⟩
  refine wq (λh4=>?_) λh4=>?_
  .refine wv (h:=?_)
   have hb:jR p v=true:=aX.2 ⟨_,aC h2,by simpa using h4⟩
   exact hQ _ _ (.inl (by simp only [go_sem,hb]))
  .exact wo (h:=wx hI0 (i+1) ⟨wg,wj,(by rw [dU _ _ _ h2,ha];simpa using h4)⟩)
 .refine wv (h:=?_)
  have hb:jR p v=false:=nX ha h2
  exact hQ _ _ (.inl (by simp only [go_sem,hb]))
def tT (t:Types)(o:Int)(q:Pattern):Int:=if q.vars<o then 20 else n5 t q o
theorem L1 (t:Types)(ht:t.ok)(o:Int)(h0:0<=o)(q:Pattern):Pure Tryz.prog 295 [t.d,dI o,q.d] (dI (tT t o q)):=by
 refine Tz.pK ⟨λ_=>false,λ_=>[]⟩ Tryz.func295 rfl (λQ hQ=>?_)
 have Y:=trivial
 refine dP (λh1=>?_) λh1=>?_
 .exact wv (h:=hQ _ _ (by simp [go_sem,tT,h1]))
 .refine wv (h:=aB (tH t ht q) wl ?_)
  refine dP (λh4=>?_) λh4=>?_
  .exact wv (h:=hQ _ _ (by simp [go_sem,tT,n5,h4];omega))
  .have hv:=kQ (.inl h4)
   have hI:tT t o q=n5 t q o:=by unfold tT;rw [if_neg aD]
   refine wv (h:=bD (λv e H=>(e 5=.adr q.c/\e 7=dI 9/\e 8=dI (o+v))/\(∀ u:Int,o<=u->u<o+v->jR q u=true)) (λv=>(q.vars - o).toNat - v) 0 ⟨wg,(by intro u hu hv;omega)⟩ λI0 hI0 v e H hi0=>?_)
   obtain ⟨E0,ho⟩:=hi0
   have Y:=wa Y E0
   refine dP (λh7=>?_) λh7=>?_
   .have Y:=wa Y h7
    refine wo (h:=aB (Kj q _) wl ?_)
    refine fA (λh9=>?_) λh9=>?_
    .exact wv (h:=hQ _ _ (by rw [hI,D8 h4 h0 (v:=o+v) aD h7 (bX h9)];simp [go_sem]))
    .have ho':∀ u:Int,o<=u->u<o+((v+1:Nat):Int)->jR q u=true:=λu hu hv=>by
      by_cases hc:u<o+v
      .exact ho u hu hc
      .rw [(aD:u=o+v)];simpa using h9
     exact wo (h:=wx hI0 (v+1) ⟨wg,(by exact ho')⟩)
   .exact wv (h:=hQ _ _ (by rw [hI,D6 h4 h0 λu hu hv=>ho u hu aD];simp [go_sem]))
theorem Oo (t:Types)(ht:t.ok):∀ (c:Cond) (p:Pattern),0<=p.vars->p.vars<=12->Pure Tryz.prog 217 [t.d,p.d,.agg c.c] (dI (qS t p c)):=by
 refine i9 λc ih p hp0 hp1=>?_
 have hF:=E8 t p c
 refine Tz.pK ⟨λt=>t==7,λ_=>[]⟩ Tryz.func217 rfl (λQ hQ=>?_)
 have Y:=@Cond.c_eq
 refine dP (λh2=>?_) λh2=>?_
 .rw [if_pos h2,if_pos h2] at hF
  refine wv (h:=aB (L1 t ht p.vars hp0 c.pattern) wl ?_)
  refine dP (λh4=>?_) λh4=>?_
  .have hE:jS t p c.map c.pattern=tT t p.vars c.pattern:=by
    unfold jS;unfold tT at h4 ⊢
    split
    .rfl
    .rename_i h';rw [if_neg h'] at h4;rw [if_pos h4]
   exact wv (h:=hQ _ _ (by rw [hF,hE,if_pos aD];simp [go_sem]))
  .have hv0:¬ c.pattern.vars<p.vars/\n5 t c.pattern p.vars=0:=by
    unfold tT at h4
    split at h4
    .omega
    .exact ⟨by assumption,h4⟩
   have hv1:=hv0.1
   have h6:=hv0.2
   refine wv (h:=aB (tK p.graph c.pattern.graph c.map) wl ?_)
   refine dP (λh7=>?_) λh7=>?_
   .exact wv (h:=hQ _ _ (by simp [go_sem,hF,jS,h6,h7];omega))
   .refine wo (h:=aB (Ez p.graph c.pattern.graph c.map) wl ?_)
    refine wv (h:=?_)
    repeat first|intro _|refine ⟨eO,?_⟩
    refine wq (λh9=>?_) λh9=>?_
    .exact wv (h:=hQ _ _ (by simp [go_sem,hF,jS,h6,h7,h9];omega))
    .have hE0:jS t p c.map c.pattern=0:=by simp [jS,h6,h7,h9];omega
     rw [hE0,if_neg aD] at hF
     obtain ⟨w,hw⟩:=cW (c.pattern)
     have hv:=D7 h6
     have hw0:0<=w.vars:=by rw [hw];exact hv.1
     have hw1:w.vars<=12:=by rw [hw];exact hv.2
     have hF':qS t p c=gK (qS t w) c.kids:=by rw [hF,hw]
     refine wv (h:=bD (λi e H=>(e 3=.adr t.c/\e 5=.adr c.c/\e 7=.ptr 0 1 0 0/\e 10=dI i)/\(H.get 0=some ⟨33,5,[w.c],false⟩)/\(0<H.next)/\(i<=c.kids.length)/\(gK (qS t w) (c.kids.drop i)=qS t p c)) (λi=>c.kids.length - i) 0 ⟨wg,(by simp [go_sem,hw]),wn,wi,(by exact hF'.symm)⟩ λI0 hI0 i e H hi0=>?_)
     obtain ⟨E0,g0_0,n0_0,hi,hL⟩:=hi0
     have Y:=wa Y (wa E0 (wa g0_0 (b8 n0_0)))
     refine wv (h:=?_)
     repeat first|intro _|refine ⟨eO,?_⟩
     refine wq (λh13=>?_) λh13=>?_
     .have hst:=hL
      rw [kX _ h13] at hst
      have Y:=wa Y h13
      refine wo (h:=aI ((by have:=ih _ (aC h13) w hw0 hw1;rwa [Cond.c_eq] at this)) wl ?_)
      refine wv (h:=?_)
      repeat first|intro _|refine ⟨eO,?_⟩
      refine wq (λh16=>?_) λh16=>?_
      .rw [if_pos aD] at hst
       exact wv (h:=hQ _ _ (by simp [go_sem,hst]))
      .rw [if_neg aD] at hst
       exact wo (h:=wx hI0 (i+1) ⟨wg,(by simp [go_sem,Y]),wn,wj,(by exact hst)⟩)
     .exact wv (h:=hQ _ _ (by rw [<- hL,l6 _ aD];simp [go_sem]))
 .rw [if_neg h2,if_neg aD,if_neg h2] at hF
  obtain ⟨w,hw⟩:=cW (p)
  have hw0:0<=w.vars:=by rw [hw];exact hp0
  have hw1:w.vars<=12:=by rw [hw];exact hp1
  have hF':qS t p c=gK (qS t w) c.kids:=by rw [hF,hw]
  refine wv (h:=bD (λi e H=>(e 3=.adr t.c/\e 5=.adr c.c/\e 7=.ptr 0 1 0 0/\e 10=dI i)/\(H.get 0=some ⟨33,5,[w.c],false⟩)/\(0<H.next)/\(i<=c.kids.length)/\(gK (qS t w) (c.kids.drop i)=qS t p c)) (λi=>c.kids.length - i) 0 ⟨wg,(by simp [go_sem,hw]),wn,wi,(by exact hF'.symm)⟩ λI0 hI0 i e H hi0=>?_)
  obtain ⟨E0,g0_0,n0_0,hi,hL⟩:=hi0
  have Y:=wa Y (wa E0 (wa g0_0 (b8 n0_0)))
  refine wv (h:=?_)
  repeat first|intro _|refine ⟨eO,?_⟩
  refine wq (λh13=>?_) λh13=>?_
  .have hst:=hL
   rw [kX _ h13] at hst
   have Y:=wa Y h13
   refine wo (h:=aI ((by have:=ih _ (aC h13) w hw0 hw1;rwa [Cond.c_eq] at this)) wl ?_)
   refine wv (h:=?_)
   repeat first|intro _|refine ⟨eO,?_⟩
   refine wq (λh16=>?_) λh16=>?_
   .rw [if_pos aD] at hst
    exact wv (h:=hQ _ _ (by simp [go_sem,hst]))
   .rw [if_neg aD] at hst
    exact wo (h:=wx hI0 (i+1) ⟨wg,(by simp [go_sem,Y]),wn,wj,(by exact hst)⟩)
  .exact wv (h:=hQ _ _ (by rw [<- hL,l6 _ aD];simp [go_sem]))
theorem DS (t:Types)(f:t.ok)(p:Pattern)(c:Cond)(i:c.ok)(g:c.size<=1000000):Pure Tryz.prog 131 [t.d,p.d,.agg c.c] (dI (condF t p c)):=by
 refine Tz.pK ⟨λ_=>false,λ_=>[]⟩ Tryz.func131 rfl (λQ b=>?_)
 have Y:=@Cond.c_eq
 refine wv (h:=aB (tH t f p) wl ?_)
 refine dP (λa=>?_) λa=>?_
 .have Y:=wa Y (wa a @condF.eq_1)
  exact wv (h:=b _ _ wy)
 .have hv:=kQ (.inr a)
  refine wv (h:=aB ((by have:=L3 c i g;rwa [Cond.c_eq] at this)) wl ?_)
  refine dP (λe=>?_) λe=>?_
  .have Y:=wa Y (wa a (wa e @condF.eq_1))
   exact wv (h:=b _ _ wy)
  .refine wv (h:=aB ((by have:=Oo t f c p hv.1 hv.2;rwa [Cond.c_eq] at this)) wl ?_)
   have Y:=wa Y (wa a (wa e @condF.eq_1))
   exact wv (h:=b _ _ wy)
end Go.Abs
end
