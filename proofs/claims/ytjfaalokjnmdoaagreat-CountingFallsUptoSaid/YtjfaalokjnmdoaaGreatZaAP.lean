/- slices.Insert of counts, at every place. · statistic.Of, at  -/
import Derived.Test.YtjfaalokjnmdoaaGreatZaAO
import Derived.Test.YtjfaalokjnmdoaaGreatZaAF
import Derived.Test.YtjfaalokjnmdoaaGreatZaAA
set_option linter.unusedVariables false
set_option linter.unusedSimpArgs false
section
set_option maxRecDepth 100000
set_option maxHeartbeats 4000000
open Go Go.Proofs
namespace Go.Abs
theorem QH (l : List Cnt) (k : Nat) (x : Cnt) (hk : k ≤ l.length) : ((Ae l k x).map Cnt.c).flatten = (l.map Cnt.c).flatten.take (k * 4) ++ x.c ++ (l.map Cnt.c).flatten.drop (k * 4) := by
  have h : ∀ (l : List Cnt) (k : Nat), k ≤ l.length → ((l.take k).map Cnt.c).flatten = (l.map Cnt.c).flatten.take (k * 4) ∧ ((l.drop k).map Cnt.c).flatten = (l.map Cnt.c).flatten.drop (k * 4) := by
    intro l
    induction l with
    | nil => intro k hk; simp
    | cons a l ih =>
      intro k hk
      cases k with
      | zero => simp
      | succ k =>
        obtain ⟨h1, h2⟩ := ih k (by simpa using hk)
        have e : (k + 1) * 4 = k * 4 + 4 := by omega
        rw [e]
        simp only [rG, List.drop_succ_cons, fA, dR, h1, h2, Cnt.c]
        simp
  obtain ⟨h1, h2⟩ := h l k hk
  unfold Ae
  simp only [List.map_append, fA, iQ, dR, h1, h2, List.append_assoc]
theorem Og (l:List Cnt)(hl:l.length≤1000000)(k:Nat)(hk:k≤l.length)(x:Cnt):PJ l k x:=by
 by_cases hge:l.length≤k
 ·obtain rfl:k=l.length:=by omega
  exact Ad l hl x
 have hlt:k<l.length:=by omega
 intro G id Q hg hid hQ
 have hEnt:TM Tryz.prog 205:=⟨_,Tryz.func205,by rfl,by rfl⟩
 refine ⟨hEnt,fun M0 σ w vals hR ha=>?_⟩
 obtain ⟨o,ho,lies⟩:=hR.lies id _ hg
 obtain ⟨ys,hrow,hy1,hrep⟩:=lies.row
 have hlen:=ha.len
 obtain ⟨v0,v1,v2,rfl⟩:∃ v0 v1 v2,vals=[v0,v1,v2]:=by
  match vals,hlen with
  | [a,b,c],_=>exact ⟨a,b,c,rfl⟩
 have r0:=ha.rep 0 v0 _ rfl rfl
 have r1:=ha.rep 1 v1 _ rfl rfl
 have r2:=ha.rep 2 v2 _ rfl rfl
 cases r1
 cases r0
 rename_i hN h1 h
 have hver:=lies.ver
 simp only [bE] at hver
 rcases h o ho with h'|⟨_,rfl⟩
 ·omega
 have hty:o.ty=210:=lies.ty
 have hsz:o.esz=4:=lies.sz
 rw [hsz] at hrow
 simp only [bE] at hrow
 rcases tV r2 with ⟨_,h2⟩|⟨ad,cap,sz,us,rfl,hrep2,hu1,hucell,hec,hem,_⟩
 ·cases h2
 have hul:us.length=1 * 4:=by simpa [Cnt.c] using hrep2.len
 rcases hrow.2 with ⟨_,h0⟩|⟨g,c,cur,hval,hg0,hgh,hnc,hcm,hcs,htake⟩
 ·omega
 have hmut:c7 M0 G σ g:=.inr ⟨id,_,o,hg,rfl,ho,by simp [Ow.block,hval,Value.ownBlock]⟩
 have hne:ad.block≠g:=fun he=>by
  obtain ⟨u,hu⟩:∃ u,us[0]?=some u:=⟨_,aA (by omega)⟩
  exact (hucell 0 u hu).1 (by rw [he];exact hmut)
 have fin:∀ (v':Value) (w':World),w'.ownsRow 0 210 4 v' (l.length+1) (ys.take (k * 4)++us++ys.drop (k * 4))→w.grownBy w' o.block→(∀ b,v'.ownBlock=some b→o.block=some b∨w.heap.size≤b) →
   ∃ v d H' σ',Ending.returned v'=.returned v∧Rel M0 H' σ' w'∧RepV (c7 M0 H' σ') σ' H'.al w' v d∧Stp σ w σ' w'∧Keeps (c7 M0 G σ) σ G.al w (c7 M0 H' σ') σ' H'.al w'∧Q d H':=by
  intro v' w' hown hgr hblk
  have hyl:ys.length=l.length * 4:=hrow.1
  have he1:((Ae l k x).map Cnt.c).length=l.length+1:=by simp [Ae];omega
  have hown':w'.ownsRow 0 210 4 v' ((Ae l k x).map Cnt.c).length (ys.take (k * 4)++us++ys.drop (k * 4)):=by rw [he1];exact hown
  obtain ⟨p1,p2,p3⟩:=Rel.put hR hg rfl ho ⟨210,4,(Ae l k x).map Cnt.c,false⟩ ⟨l.length+1,v',4,210⟩ hgr hblk (.inr (by simp only;omega)) he1.symm rfl rfl
   (fun c hc=>by rw [aU] at hc;obtain ⟨y,_,rfl⟩:=hc;rfl) _ hown'
   (fun u hu=>by
    simp only [bD] at hu
    rcases hu with (hu|hu)|hu
    ·exact hy1 u (cE hu)
    ·exact hu1 u hu
    ·exact hy1 u (dB hu))
   (by
    have hfl:(l.map Cnt.c).flatten.length=ys.length:=hrep.len.symm
    have hx4:x.c.length=4:=rfl
    have hrep2':RepL (c7 M0 G σ) σ G.al w us x.c:=by simpa using hrep2
    rw [QH l k x hk]
    refine ⟨by simp only [aG,aV,c4,hfl,hx4,hul],fun j u d hu hd=>?_⟩
    rw [dK] at hu hd
    simp only [aV,bF,bV,hfl,hx4,hul] at hu hd
    have m1:min (k * 4) ys.length=k * 4:=by omega
    rw [m1] at hu hd
    by_cases a1:j<k * 4
    ·rw [if_pos a1,if_pos a1] at hu hd
     exact hrep.rep j u d hu hd
    ·rw [if_neg a1] at hu hd
     by_cases a2:j<k * 4+4
     ·rw [if_pos (by omega)] at hu hd
      exact hrep2'.rep _ u d hu hd
     ·rw [if_neg (by omega)] at hu hd
      exact hrep.rep _ u d hu hd)
  exact ⟨v',_,_,_,rfl,p1,.own v' id (l.length+1) h1 (by rcases hown.2 with ⟨rfl,_⟩|⟨_,_,_,rfl,_⟩<;>rfl) (fun o' ho'=>by simp at ho';subst ho';exact .inr ⟨rfl,rfl⟩),p2,p3,hQ id _ (by simpa [go_sem] using hid) (by simp [go_sem])⟩
 rw [hval]
 have hcur:cur.toList.length=c * 4:=by simpa using hcs
 rcases b8 c (l.length+1) with hc|hc
 ·-- no room
  have hsl:=Tz.sl135
  obtain ⟨_,i0,z,hi0,hz0,hzs,hzb,_,_,_,_,hzc,_⟩:=mQ hsl
  obtain ⟨GG,hG⟩:∃ GG,GG=grownCap w (l.length+1) c 210:=⟨_,rfl⟩
  obtain ⟨ROW,hROW⟩:∃ ROW:Array Value,ROW=(ys.take (k * 4)).toArray++Builtin.zeroCells z.cells (l.length+1 - k)++Builtin.zeroCells z.cells (GG - (l.length+1)):=⟨_,rfl⟩
  have hyl:ys.length=l.length * 4:=hrow.1
  have hGn:l.length+1≤GG:=by rw [hG];exact grownCap_ge w _ _ _
  have hGm:GG≤maxLen:=by rw [hG];exact grownCap_le_maxLen w _ _ _ (by unfold maxLen;omega)
  have hROWs:ROW.size=GG * 4:=by
   rw [hROW];simp only [Array.size_append,vS,size_zeroCells,hzc,aV,hyl]
   omega
  obtain ⟨R1,hR1⟩:∃ R1:Array Value,R1=(ROW.toList.take (k * 4)++us++ROW.toList.drop (k * 4+us.length)).toArray:=⟨_,rfl⟩
  have hR1s:R1.size=GG * 4:=by
   rw [hR1];simp only [vS,aG,aV,c4,dV,hROWs,hul];omega
  obtain ⟨R2,hR2⟩:∃ R2:Array Value,R2=(R1.toList.take ((k+1) * 4)++ys.drop (k * 4)++R1.toList.drop ((k+1) * 4+(ys.drop (k * 4)).length)).toArray:=⟨_,rfl⟩
  refine (Sa g l.length c k 1 ad cap cur ROW R1 R2 z GG ys us w hlt (by omega) hnc hc (by omega) (by rw [hi0];simp [hz0,hzs,hzb]) hzc hgh hcs htake hul (fun j v hj=>(hucell j v hj).2) hy1 hu1 hG hROW hR1 hR2 hROWs hR1s).mono ?_
  rintro e w' ⟨rfl,rfl⟩
  have htk:ROW.toList.take (k * 4)=ys.take (k * 4):=by
   rw [hROW];simp only [Array.toList_append,List.append_assoc]
   rw [List.take_append_of_le_length (by simp only [aV];omega),List.take_take,Nat.min_self]
  obtain ⟨q1,q2,q3⟩:=R9 (m:=1) (n:=l.length) (G:=GG) (i:=k) (by simpa using hROWs) hyl htk (oC hlt) hGn hul R1.toList R2.toList (by rw [hR1]) (by rw [hR2])
  have hW1n:((w.alloc (.cells ROW 210)).drew).heap[w.heap.size]?=some (.cells ROW 210 (0,0)):=heap_alloc_new w _
  have hb1:=setRow_heap _ w.heap.size ROW R1 210 (0,0) hW1n
  have hfin1:(ys.take (k * 4)++us++ys.drop (k * 4)).length=(l.length+1) * 4:=by simp only [aG,aV,c4,hyl,hul];omega
  have hfin2:=setRow_heap (((w.alloc (.cells ROW 210)).drew.setRow w.heap.size R1).drew) w.heap.size R1 R2 210 (0,0) hb1
  have hfin3:R2.size=GG * 4:=by simpa using q2
  have hfin4:=q3
  have hfin5:w.grownBy ((((w.alloc (.cells ROW 210)).drew.setRow w.heap.size R1).drew).setRow w.heap.size R2) o.block:=⟨rfl,rfl,rfl,by simp,fun q hq _=>by
   rw [setRow_other _ _ _ _ (by omega)]
   show ((w.alloc (.cells ROW 210)).drew.setRow w.heap.size R1).heap[q]?=_
   rw [setRow_other _ _ _ _ (by omega)]
   exact heap_alloc_old w _ hq⟩
  have hfin6:∀ b,(Value.slice (some ⟨w.heap.size,0,none⟩) (l.length+1) GG).ownBlock=some b→o.block=some b∨w.heap.size≤b:=fun b hb=>by
   right;simp only [Value.ownBlock,bH] at hb;omega
  refine fin _ _ ⟨?_,.inr ⟨w.heap.size,GG,R2,rfl,dY _,?_,hGn,hGm,?_,?_⟩⟩ ?_ ?_
  all_goals first|exact hfin1|exact hfin2|exact hfin3|exact hfin4|exact hfin5|exact hfin6
 ·obtain ⟨R1,hR1⟩:∃ R1:Array Value,R1=(cur.toList.take ((k+1) * 4)++ys.drop (k * 4)++cur.toList.drop ((k+1) * 4+(ys.drop (k * 4)).length)).toArray:=⟨_,rfl⟩
  obtain ⟨R2,hR2⟩:∃ R2:Array Value,R2=(R1.toList.take (k * 4)++us++R1.toList.drop (k * 4+us.length)).toArray:=⟨_,rfl⟩
  obtain ⟨q1,q2,q3⟩:=Tl (m:=1) hcur htake (oC hlt) hc hul R1.toList R2.toList (by rw [hR1]) (by rw [hR2])
  refine (QG g l.length c k 1 ad cap cur R1 R2 ys us w hlt (by omega) hc hcm hne hgh hcs htake hul (fun j v hj=>(hucell j v hj).2) hy1 hu1 hR1 hR2 (by simpa using q1)).mono ?_
  rintro e w' ⟨rfl,rfl⟩
  have hb1:=setRow_heap w.drew g cur R1 210 (0,0) hgh
  refine fin _ _ ⟨?_,.inr ⟨g,c,R2,rfl,dY _,setRow_heap _ _ _ _ _ _ hb1,hc,hcm,by simpa using q2,q3⟩⟩ ⟨rfl,rfl,rfl,by simp,fun q _ hq=>?_⟩ ?_
  ·rw [← q3,aV];simp only [dV] at q2 ⊢;omega
  ·have hqg:q≠g:=fun e=>hq (by rw [e];simp [Ow.block,hval,Value.ownBlock])
   rw [setRow_other _ _ _ _ hqg,setRow_other _ _ _ _ hqg]
   rfl
  ·intro b hb
   left
   simp only [Value.ownBlock,bH] at hb
   simp [Ow.block,hval,Value.ownBlock,hb]
def Cnt.tiny (N:Int)(x:Cnt):Prop:=(-1000000≤x.type∧x.type≤1000000)∧(-1000000≤x.from_∧x.from_≤1000000)∧(-1000000≤x.to_∧x.to_≤1000000)∧(1≤x.num∧x.num≤N)
theorem ON {p:Nat→Bool}:∀ (m i j:Nat),i≤j→Sx p m i j≤j
 | 0,i,j,h=>h
 | m+1,i,j,h=>by
  unfold Sx
  split
  ·split
   ·exact ON m _ j (by omega)
   ·exact cN (ON m i _ (by omega)) (by omega)
  ·exact h
theorem PC (l:List Cnt)(x:Cnt):uC l x≤l.length:=ON _ _ _ (dY _)
theorem TE {l:List Cnt}{x:Cnt}{N:Int}(hl:∀ y∈l,y.tiny N)(hx:x.tiny 1)(hN:0≤N):(∀ y∈Hp l x,y.tiny (N+1))∧(Hp l x).length≤l.length+1:=by
 have hup:∀ y:Cnt,y.tiny N→y.tiny (N+1):=fun y ⟨h1,h2,h3,h4,h5⟩=>⟨h1,h2,h3,h4,by omega⟩
 have hx1:x.tiny (N+1):=by obtain ⟨h1,h2,h3,h4,h5⟩:=hx;exact ⟨h1,h2,h3,h4,by omega⟩
 have hK:=PC l x
 have hins:(∀ y∈Ae l (uC l x) x,y.tiny (N+1))∧(Ae l (uC l x) x).length≤l.length+1:=by
  refine ⟨fun y hy=>?_,by simp [Ae];omega⟩
  simp only [Ae,bD,bB] at hy
  rcases hy with hy|rfl|hy
  ·exact hup y (hl y (cE hy))
  ·exact hx1
  ·exact hup y (hl y (dB hy))
 unfold Hp
 split
 ·rename_i y hb hy
  refine ⟨fun u hu=>?_,by simp⟩
  rcases fG hu with h|rfl
  ·exact hup u (hl u h)
  ·obtain ⟨h1,h2,h3,h4,h5⟩:=hl y (aK hy)
   obtain ⟨_,_,_,k4,k5⟩:=hx
   exact ⟨h1,h2,h3,by simp only;omega,by simp only;omega⟩
 ·exact hins
theorem JN {xs:List Cnt}(h:∀ x∈xs,x.tiny 1):∀ i,i≤xs.length→(oO xs i).length≤i∧∀ y∈oO xs i,y.tiny i
 | 0,_=>by simp [oO]
 | i+1,hi=>by
  obtain ⟨h1,h2⟩:=JN h i (by omega)
  rw [yE (by omega)]
  obtain ⟨h3,h4⟩:=TE h2 (h _ (aB (show i<xs.length by omega))) (by omega)
  exact ⟨by omega,fun y hy=>by have:=h3 y hy;simpa using this⟩
theorem MA {xs:List Cnt}(hl:xs.length≤1000)(h:∀ x∈xs,x.tiny 1):CntOk xs where
 sm x hx:=by obtain ⟨h1,h2,h3,h4,h5⟩:=h x hx;exact ⟨h1,h2,h3,h4,by omega⟩
 pre i hi:=by
  obtain ⟨h1,h2⟩:=JN h i hi
  exact ⟨by omega,fun y hy=>by obtain ⟨h1,h2,h3,h4,h5⟩:=h2 y hy;exact ⟨h1,h2,h3,h4,by omega⟩⟩
 ins i hi hb:=by
  obtain ⟨h1,h2⟩:=JN h i (oC hi)
  exact Og _ (by omega) _ (PC _ _) _
def Gc (g:Graph):List Cnt:=g.edges.map fun e=>⟨e.type,gN g e.from_,gN g e.to_,1⟩
theorem TD {t:Types}{g:Graph}(h:dC t g=0):CntOk (m8 g)∧CntOk (Gc g):=by
 obtain ⟨h1,h2,h3,h4⟩:=zV h
 have hle:=bZ h2
 have hin:=eP h2
 have hv:=fF h1
 have hN:=hv.fewN
 have hE:=hv.fewE
 have hgN:∀ n:Int,0≤n→n<g.nodes.length→0≤gN g n∧gN g n<t.nodes.length:=fun n hn0 hn1=>by
  have hf:n.toNat<g.nodes.length:=by omega
  have:gN g n=g.nodes[n.toNat]:=by simp [gN,aA hf]
  rw [this]
  exact h3 _ (aB hf)
 refine ⟨MA (by simp only [m8,bE];omega) fun x hx=>?_,MA (by simp only [Gc,bE];omega) fun x hx=>?_⟩
 ·simp only [m8,aU] at hx
  obtain ⟨n,hn,rfl⟩:=hx
  have:=h3 n hn
  simp only [Cnt.tiny];omega
 ·simp only [Gc,aU] at hx
  obtain ⟨e,he,rfl⟩:=hx
  have a1:=hin.2 e he
  have a2:=h4 e he
  have a3:=hgN e.from_ (by omega) (by omega)
  have a4:=hgN e.to_ (by omega) (by omega)
  unfold iH at a2
  split at a2
  ·cases a2
  ·simp only [Cnt.tiny];omega
theorem Jq (t:Types)(ht:t.ok)(g:Graph)(Q:D→AHeap→Prop)(hQ0:∀ H',dC t g≠0→Q (.tup [.agg [.nil,.nil],dI (dC t g)]) H')(hQ:∀ c c2 H',dC t g=0→(c.cl=true∧c.cell=true∧(∀ H,gQ H c=c))→(c2.cl=true∧c2.cell=true∧(∀ H,gQ H c2=c2))→Q (.tup [.agg [c,c2],dI 0]) H'):ACalls Tryz.prog 54 [t.d,g.d] .emp Q:=by
 refine (aH (cfg:=⟨fun t=>t==4||t==7||t==11||t==1000000,fun _=>[]⟩) Tz.mixed Tryz.func54 rfl rfl (aE rfl) (by kernel_rfl) ?_)
 have Y:=trivial
 refine wv (h:=aC (vH t ht g) wl ?_)
 refine d7 (fun h2=>?_) fun h2=>?_
 ·refine wv (h:=?_)
  exact hQ0 _ (by omega)
 ·have hT:dC t g=0:=by omega
  obtain ⟨ok,ok2⟩:=TD hT
  obtain ⟨_,hg0,hgn,_⟩:=zV hT
  have hle:=bZ hg0
  have hin:=eP hg0
  refine wp (h:=bG (fun i e H=>∃ c:D,(e 2=.adr t.c∧e 3=.adr g.c∧e 4=.ptr 0 1 0 0∧e 7=.ptr 1 1 0 0∧e 20=dLI g.nodes∧e 21=dI g.nodes.length∧e 22=dI i)∧(H.get 0=some ⟨137,2,[[.nil,.nil]],false⟩)∧(0<H.next)∧(H.get 1=some ⟨137,2,[[c,.nil]],false⟩)∧(1<H.next)∧(i≤g.nodes.length)∧(c=.nil∨∃ es,c=.list es)∧(c.cl=true∧Own Tryz.prog 202 [c] 210 4 ((oO (m8 g) i).map Cnt.c))) (fun i=>g.nodes.length - i) 0 ⟨.nil,wg,wn,wn,wn,wn,wi,(by exact .inl rfl),(by exact ⟨rfl,vA⟩)⟩ fun I0 hI0 i e H hi0=>?_)
  obtain ⟨c,E0,g0_0,n0_0,g1_0,n1_0,hi,hcv,hc⟩:=hi0
  have hcl:c.cl=true:=hc.1
  have hr1:∀ H,gQ H c=c:=fun H=>by rcases hcv with rfl|⟨es,rfl⟩<;>rfl
  have hr2:iW c=[]:=by rcases hcv with rfl|⟨es,rfl⟩<;>rfl
  have hr3:c.cell=true:=by rcases hcv with rfl|⟨es,rfl⟩<;>rfl
  have hr4:=hr3
  unfold D.cell at hr4
  have Y:=wa Y (wa E0 (wa g0_0 (wa (cG n0_0) (wa g1_0 (wa (cG n1_0) (wa hcl (wa hr1 (wa hr2 (wa hr3 hr4)))))))))
  refine d7 (fun h6=>?_) fun h6=>?_
  ·have hil:i<(m8 g).length:=by unfold m8;rw [bE];exact h6
   have hx:(m8 g)[i]=⟨g.nodes[i],0,0,1⟩:=by simp [m8]
   have hps:=yE hil
   rw [hx] at hps
   have Y:=wa Y (wa h6 (wa (aA h6) hps))
   refine wp (h:=l5 ((by have hq:=mN c (oO (m8 g) i) (ok.pre i (oC hil)).1 hc.2 hc.1 (ok.pre i (oC hil)).2 ((m8 g)[i]'hil) (ok.sm _ (aB _)) (ok.ins i hil);simp only [hx] at hq;exact hq)) wl ?_)
   exact wp (h:=wx hI0 (i+1) ⟨(.list ((oO (m8 g) (i+1)).map Cnt.c)),wg,wn,wn,wn,wn,wj,(by exact .inr ⟨_,rfl⟩),(by (exact ⟨by simp [go_sem],CA _ (cN (ok.pre (i+1) hil).1 (by decide))⟩))⟩)
  ·refine wp (h:=bG (fun k e H=>∃ c2:D,(e 2=.adr t.c∧e 3=.adr g.c∧e 4=.ptr 0 1 0 0∧e 7=.ptr 1 1 0 0∧e 34=.list (g.edges.map Edge.c)∧e 35=dI g.edges.length∧e 36=dI k)∧(H.get 0=some ⟨137,2,[[.nil,.nil]],false⟩)∧(0<H.next)∧(H.get 1=some ⟨137,2,[[c,c2]],false⟩)∧(1<H.next)∧(k≤g.edges.length)∧(c2=.nil∨∃ es,c2=.list es)∧(c2.cl=true∧Own Tryz.prog 202 [c2] 210 4 ((oO (Gc g) k).map Cnt.c))) (fun k=>g.edges.length - k) 0 ⟨.nil,wg,wn,wn,wn,wn,wi,(by exact .inl rfl),(by exact ⟨rfl,vA⟩)⟩ fun I2 hI2 k e H hi2=>?_)
   obtain ⟨c2,E2,g0_2,n0_2,g1_2,n1_2,hk,hcv2,hc2⟩:=hi2
   have hcl2:c2.cl=true:=hc2.1
   have hs1:∀ H,gQ H c2=c2:=fun H=>by rcases hcv2 with rfl|⟨es,rfl⟩<;>rfl
   have hs2:iW c2=[]:=by rcases hcv2 with rfl|⟨es,rfl⟩<;>rfl
   have hs3:c2.cell=true:=by rcases hcv2 with rfl|⟨es,rfl⟩<;>rfl
   have hs4:=hs3
   unfold D.cell at hs4
   have Y:=wa Y (wa E2 (wa g0_2 (wa (cG n0_2) (wa g1_2 (wa (cG n1_2) (wa hcl2 (wa hs1 (wa hs2 (wa hs3 hs4)))))))))
   refine d7 (fun h11=>?_) fun h11=>?_
   ·have hkl:k<(Gc g).length:=by unfold Gc;rw [bE];exact h11
    have he:=hin.2 _ (aB h11)
    have hf:g.edges[k].from_.toNat<g.nodes.length:=by omega
    have hto:g.edges[k].to_.toNat<g.nodes.length:=by omega
    have hgf:gN g g.edges[k].from_=g.nodes[g.edges[k].from_.toNat]:=by simp [gN,aA hf]
    have hgt:gN g g.edges[k].to_=g.nodes[g.edges[k].to_.toNat]:=by simp [gN,aA hto]
    have hx2:(Gc g)[k]=⟨g.edges[k].type,g.nodes[g.edges[k].from_.toNat],g.nodes[g.edges[k].to_.toNat],1⟩:=by simp [Gc,hgf,hgt]
    have hps2:=yE hkl
    rw [hx2] at hps2
    have Y:=wa Y (wa h11 (wa (aA h11) (wa hps2 (wa (aA hf) (aA hto)))))
    refine wp (h:=aM ((by have hq:=(mN c2 (oO (Gc g) k) (ok2.pre k (oC hkl)).1 hc2.2 hc2.1 (ok2.pre k (oC hkl)).2 ((Gc g)[k]'hkl) (ok2.sm _ (aB _)) (ok2.ins k hkl)).pure;simp only [hx2] at hq;exact hq)) wl ?_)
    exact wp (h:=wx hI2 (k+1) ⟨(.list ((oO (Gc g) (k+1)).map Cnt.c)),wg,wn,wn,wn,wn,wj,(by exact .inr ⟨_,rfl⟩),(by (exact ⟨by simp [go_sem],CA _ (cN (ok2.pre (k+1) hkl).1 (by decide))⟩))⟩)
   ·refine wv (h:=?_)
    exact hQ c c2 _ hT ⟨hcl,hr3,hr1⟩ ⟨hcl2,hs3,hs1⟩
theorem Uj (P:Program)(c:Cfg)(Q:Exit→cY→AHeap→Prop)(e:cY)(H:AHeap)(a b:Code):lT P c (.seq a b) Q e H=lT P c a (pC (lT P c b Q) Q) e H:=Eq.trans (V5 P c Q e H a b) rfl
theorem zL (t:Types)(ht:t.ok)(st:List Stage)(g:Graph):Pure Tryz.prog 14 [t.d,.list (st.map Stage.c),g.d] (.tup [dLI (lP t st g),dI (kD t st g)]):=by
 have hSt:M2 Tryz.prog 54 [t.d,g.d] (fun r=>∃ c c2,c.cell=true∧c2.cell=true∧r=.tup [.agg [c,c2],dI (dC t g)]) :=
  qJ (Jq t ht g _ (fun H' h=>by
   have e:lW H' (.tup [.agg [.nil,.nil],dI (dC t g)])=.tup [.agg [.nil,.nil],dI (dC t g)]:=by simp [go_sem,dI]
   rw [e]
   exact ⟨⟨.nil,.nil,rfl,rfl,rfl⟩,by simp [go_sem,dI]⟩) fun c c2 H' hT ⟨h1,h2,h3⟩ ⟨k1,k2,k3⟩=>by
   have e:lW H' (.tup [.agg [c,c2],dI 0])=.tup [.agg [c,c2],dI 0]:=by simp [go_sem,h3,k3,dI]
   rw [e]
   exact ⟨⟨c,c2,h2,k2,by rw [hT]⟩,by simp [go_sem,h1,k1,dI]⟩)
 refine Tz.pK ⟨fun t=>t==8||t==10||t==12,fun _=>[]⟩ Tryz.func14 rfl (fun Q hQ=>?_)
 have Y:=trivial
 refine wv (h:=?_)
 unfold fB;refine vG hSt (by simp [go_sem]) (fun r hR hrc=>?_);obtain ⟨c,c2,hr3,hr5,rfl⟩:=hR;have hr4:=hr3;unfold D.cell at hr4;have hr6:=hr5;unfold D.cell at hr6
 have Y:=wa Y (wa hr3 (wa hr4 (wa hr5 hr6)))
 refine d7 (fun h2=>?_) fun h2=>?_
 ·have hE:kD t st g=dC t g:=by unfold kD;rw [if_pos h2]
  have hF:lP t st g=[]:=if_neg (by rw [hE];exact h2)
  exact wv (h:=hQ _ _ (by simp [go_sem,hF,hE]))
 ·have hT:dC t g=0:=by omega
  refine eJ (fun h4=>?_) fun h4=>?_
  ·have hE:kD t st g=3:=by unfold kD;rw [if_neg (by omega),if_pos (by omega)]
   exact wv (h:=hQ _ _ (by simp [go_sem,lP,hE]))
  ·have hE:kD t st g=dL (fun s=>jF t s.weights g) st:=by unfold kD;rw [if_neg (by omega),if_neg (by omega)]
   refine wo (h:=bG (fun i e H=>∃ xs:List Int,(e 3=.adr t.c∧e 5=.adr g.c∧e 1=.list (st.map Stage.c)∧e 10=.own 1 xs.length∧e 27=.list (st.map Stage.c)∧e 28=dI st.length∧e 29=dI i)∧(H.get 1=some ⟨3,1,xs.map cI,false⟩)∧(1<H.next)∧(i≤st.length)∧(xs=(st.take i).map (fun s=>mL t s.weights g))∧(dL (fun s=>jF t s.weights g) (st.drop i)=kD t st g)) (fun i=>st.length - i) 0 ⟨([]),wg,wn,wn,wi,(by rfl),(by (exact hE.symm))⟩ fun I0 hI0 i e H hi0=>?_)
   obtain ⟨xs,E0,g1_0,n1_0,hi,hx,hL⟩:=hi0
   have Y:=wa Y (wa E0 (wa g1_0 (cG n1_0)))
   refine d7 (fun h8=>?_) fun h8=>?_
   ·have hst:=hL
    rw [e9 _ h8] at hst
    have hxl:xs.length=i:=by rw [hx];simp;omega
    have Y:=wa Y h8
    refine wo (h:=aC (HF t ht st[i].weights g) wl ?_)
    refine eJ (fun h11=>?_) fun h11=>?_
    ·rw [if_pos (by omega)] at hst
     have hF:lP t st g=[]:=if_neg (by omega)
     exact wv (h:=hQ _ _ (by simp [go_sem,hF,← hst]))
    ·rw [if_neg (by omega)] at hst
     exact wo (h:=wx hI0 (i+1) ⟨(xs++[mL t st[i].weights g]),wg,wn,wn,wj,(by (rw [fJ _ h8,← hx])),(by exact hst)⟩)
   ·have hL0:kD t st g=0:=by rw [← hL,fM _ (by omega)]
    have hX:xs=lP t st g:=by unfold lP;rw [if_pos hL0,hx,gH _ (by omega)]
    exact wv (h:=hQ _ _ (by simp [go_sem,Y,hL0,← hX]))
theorem RS {n:Nat}{x:Int}(h:x∈nX n):0≤x∧x<n:=by
 simp only [nX,aU,aZ] at h
 obtain ⟨k,hk,rfl⟩:=h;omega
theorem Ha (n:Nat)(hn:n≤100000):Own Tryz.prog 184 [dI 0,dI n] 3 1 ((nX n).map cI):=by
 refine Tz.oK ⟨fun t=>t==5,fun _=>[]⟩ Tryz.func184 rfl (fun Q hQ=>?_)
 have Y:=trivial
 refine wv (h:=bG (fun i e H=>(e 0=dI 0∧e 1=dI n∧e 5=.own 0 i∧e 6=dI i)∧(H.get 0=some ⟨3,1,(nX i).map cI,false⟩)∧(0<H.next)∧(i≤n)∧((nX i).length=i)) (fun i=>n - i) 0 ⟨wg,(by rfl),wn,wi,(by (exact i6 _))⟩ fun I0 hI0 i e H hi0=>?_)
 obtain ⟨E0,g0_0,n0_0,hi,hl⟩:=hi0
 have Y:=wa Y (wa E0 (wa g0_0 (wa (cG n0_0) hl)))
 refine d7 (fun h3=>?_) fun h3=>?_
 ·have Y:=wa Y h3
  exact wo (h:=wx hI0 (i+1) ⟨wg,(by (simp [go_sem,Y,B9])),wn,wj,(by (exact i6 _))⟩)
 ·have hie:i=n:=by omega
  subst hie
  refine wv (h:=?_)
  exact hQ _ _ _ (by simp [go_sem,Y,i6]) (by simp [go_sem,Y,i6])
def nB (t:Types)(i:Nat):Bool:=match t.nodes[i]? with|some n=>n.abs|none=>false
def lQ (t:Types):List Int:=((List.range t.nodes.length).filter fun i=>!nB t i).map fun (i:Nat)=>(i:Int)
theorem QT {t:Types}{x:Int}(h:x∈lQ t):0≤x∧x<t.nodes.length:=by
 simp only [lQ,aU,cO,aZ] at h
 obtain ⟨k,⟨hk,_⟩,rfl⟩:=h;omega
theorem EK (t:Types)(hn:t.nodes.length≤100000):Pure Tryz.prog 251 [t.d] (dLI (lQ t)):=by
 refine Tz.pK ⟨fun t=>t==3,fun _=>[]⟩ Tryz.func251 rfl (fun Q hQ=>?_)
 have Y:=trivial
 refine wv (h:=bG (fun i e H=>∃ ys:List Int,(e 1=.adr t.c∧e 3=.own 0 ys.length∧e 4=dI i)∧(H.get 0=some ⟨3,1,ys.map cI,false⟩)∧(0<H.next)∧(i≤t.nodes.length)∧(ys.length≤i)∧(ys=((List.range i).filter fun i=>!nB t i).map (fun (b:Nat)=>(b:Int)))) (fun i=>t.nodes.length - i) 0 ⟨([]),wg,wn,wn,wi,(by simp),(by rfl)⟩ fun I0 hI0 i e H hi0=>?_)
 obtain ⟨ys,E0,g0_0,n0_0,hi,hyl,hy⟩:=hi0
 have Y:=wa Y (wa E0 (wa g0_0 (cG n0_0)))
 refine eJ (fun h3=>?_) fun h3=>?_
 ·have hab:nB t i=t.nodes[i].abs:=by simp [nB,aA h3]
  have Y:=wa Y (wa h3 (wa (aA h3) hab))
  refine eJ (fun h5=>?_) fun h5=>?_
  ·have Y:=wa Y h5
   exact wo (h:=wx hI0 (i+1) ⟨(ys++(if (!nB t i)=true then [(i:Int)] else [])),wg,wn,wn,wj,(by (rw [aG];split<;>simp<;>omega)),(by (rw [bN,← hy]))⟩)
  ·have Y:=wa Y h5
   exact wo (h:=wx hI0 (i+1) ⟨(ys++(if (!nB t i)=true then [(i:Int)] else [])),wg,wn,wn,wj,(by (rw [aG];split<;>simp<;>omega)),(by (rw [bN,← hy]))⟩)
 ·have hY:lQ t=ys:=by rw [hy,show i=t.nodes.length by omega];rfl
  exact wv (h:=hQ _ _ (by simp [go_sem,Y,hY]))
theorem EO (t:Types)(hn:t.nodes.length≤100000):Pure Tryz.prog 101 [t.d] (dLI (lQ t)):=by
 refine Tz.pK ⟨fun t=>t==3,fun _=>[]⟩ Tryz.func101 rfl (fun Q hQ=>?_)
 have Y:=trivial
 refine wv (h:=bG (fun i e H=>∃ ys:List Int,(e 1=.adr t.c∧e 3=.own 0 ys.length∧e 4=dI i)∧(H.get 0=some ⟨3,1,ys.map cI,false⟩)∧(0<H.next)∧(i≤t.nodes.length)∧(ys.length≤i)∧(ys=((List.range i).filter fun i=>!nB t i).map (fun (b:Nat)=>(b:Int)))) (fun i=>t.nodes.length - i) 0 ⟨([]),wg,wn,wn,wi,(by simp),(by rfl)⟩ fun I0 hI0 i e H hi0=>?_)
 obtain ⟨ys,E0,g0_0,n0_0,hi,hyl,hy⟩:=hi0
 have Y:=wa Y (wa E0 (wa g0_0 (cG n0_0)))
 refine eJ (fun h3=>?_) fun h3=>?_
 ·have hab:nB t i=t.nodes[i].abs:=by simp [nB,aA h3]
  have Y:=wa Y (wa h3 (wa (aA h3) hab))
  refine eJ (fun h5=>?_) fun h5=>?_
  ·have Y:=wa Y h5
   exact wo (h:=wx hI0 (i+1) ⟨(ys++(if (!nB t i)=true then [(i:Int)] else [])),wg,wn,wn,wj,(by (rw [aG];split<;>simp<;>omega)),(by (rw [bN,← hy]))⟩)
  ·have Y:=wa Y h5
   exact wo (h:=wx hI0 (i+1) ⟨(ys++(if (!nB t i)=true then [(i:Int)] else [])),wg,wn,wn,wj,(by (rw [aG];split<;>simp<;>omega)),(by (rw [bN,← hy]))⟩)
 ·have hY:lQ t=ys:=by rw [hy,show i=t.nodes.length by omega];rfl
  exact wv (h:=hQ _ _ (by simp [go_sem,Y,hY]))
def Dh (b:List Bool):List Int:=(eF b).map fun (i:Nat)=>(i:Int)
theorem AO (b:List Bool)(hn:b.length≤100000):Pure Tryz.prog 165 [.list (b.map cB)] (dLI (Dh b)):=by
 refine Tz.pK ⟨fun t=>t==3,fun _=>[]⟩ Tryz.func165 rfl (fun Q hQ=>?_)
 have Y:=trivial
 refine wv (h:=bG (fun i e H=>∃ ys:List Int,(e 0=.list (b.map cB)∧e 3=.own 0 ys.length∧e 4=dI i)∧(H.get 0=some ⟨3,1,ys.map cI,false⟩)∧(0<H.next)∧(i≤b.length)∧(ys.length≤i)∧(ys=((List.range i).filter fun i=>b[i]?.getD false).map (fun (b:Nat)=>(b:Int)))) (fun i=>b.length - i) 0 ⟨([]),wg,wn,wn,wi,(by simp),(by rfl)⟩ fun I0 hI0 i e H hi0=>?_)
 obtain ⟨ys,E0,g0_0,n0_0,hi,hyl,hy⟩:=hi0
 have Y:=wa Y (wa E0 (wa g0_0 (cG n0_0)))
 refine eJ (fun h3=>?_) fun h3=>?_
 ·have hgd:b[i]?.getD false=b[i]:=by rw [aA h3];rfl
  have Y:=wa Y (wa h3 (wa (aA h3) hgd))
  refine eJ (fun h5=>?_) fun h5=>?_
  ·have Y:=wa Y h5
   exact wo (h:=wx hI0 (i+1) ⟨(ys++(if b[i]?.getD false=true then [(i:Int)] else [])),wg,wn,wn,wj,(by (rw [aG];split<;>simp<;>omega)),(by (rw [bN,← hy]))⟩)
  ·have Y:=wa Y h5
   exact wo (h:=wx hI0 (i+1) ⟨(ys++(if b[i]?.getD false=true then [(i:Int)] else [])),wg,wn,wn,wj,(by (rw [aG];split<;>simp<;>omega)),(by (rw [bN,← hy]))⟩)
 ·have hY:Dh b=ys:=by rw [hy,show i=b.length by omega];rfl
  exact wv (h:=hQ _ _ (by simp [go_sem,Y,hY]))
theorem zB (g:Graph)(hn:g.nodes.length≤100000)(he:g.edges.length≤100000):Pure Tryz.prog 175 [g.d] g.d:=by
 refine Tz.pK ⟨fun t=>t==2||t==3||t==7,fun r=>match r with|1=>[(0,1),(0,2),(0,4),(1,4),(2,4),(3,4),(0,5),(3,5),(4,5),(0,6),(3,6),(4,6)]|_=>[]⟩ Tryz.func175 rfl (fun Q hQ=>?_)
 have Y:=trivial
 exact wo (h:=hQ _ _ wy)
theorem rT (l:List Int)(hb:∀ x∈l,0≤x∧x<l.length)(hd:∀ a b,a<b→b<l.length→l[a]?≠l[b]?):Pure Tryz.prog 186 [dLI l] (dI 0):=by
 refine Tz.pK ⟨fun _=>false,fun _=>[]⟩ Tryz.func186 rfl (fun Q hQ=>?_)
 have Y:=trivial
 refine wv (h:=bG (fun i e H=>(e 0=dLI l∧e 3=dI i)∧(i≤l.length)) (fun i=>l.length - i) 0 ⟨wg,wi⟩ fun I0 hI0 i e H hi0=>?_)
 obtain ⟨E0,hi⟩:=hi0
 have Y:=wa Y E0
 refine wv (h:=?_)
 repeat first|intro _|refine ⟨d8,?_⟩
 refine wq (fun h2=>?_) fun h2=>?_
 ·have hx:=hb _ (aB h2)
  have Y:=wa Y (wa h2 (aA h2))
  refine wv (h:=?_)
  repeat first|intro _|refine ⟨d8,?_⟩
  refine aJ (fun h4=>?_) (fun h4=>?_)
  ·simp [aA h2] at h4;omega
  ·try simp [go_sem] at h4
   exact wo (h:=wx hI0 (i+1) ⟨wg,wj⟩)
 ·refine wv (h:=bG (fun k e H=>(e 0=dLI l∧e 4=dI k)∧(k≤l.length)) (fun k=>l.length - k) 0 ⟨wg,wi⟩ fun I2 hI2 k e H hi2=>?_)
  obtain ⟨E2,hk⟩:=hi2
  have Y:=wa Y E2
  refine wv (h:=?_)
  repeat first|intro _|refine ⟨d8,?_⟩
  refine wq (fun h7=>?_) fun h7=>?_
  ·have Y:=wa Y (wa h7 (aA h7))
   refine wv (h:=bG (fun m e H=>(e 0=dLI l∧e 4=dI k∧e 5=dI m)∧(m≤k)) (fun m=>k - m) 0 ⟨wg,wi⟩ fun I4 hI4 m e H hi4=>?_)
   obtain ⟨E4,hm⟩:=hi4
   have Y:=wa Y E4
   refine d7 (fun h10=>?_) fun h10=>?_
   ·have hml:m<l.length:=by omega
    have Y:=wa Y (wa h10 (wa (aA hml) hml))
    refine wv (h:=?_)
    repeat first|intro _|refine ⟨d8,?_⟩
    refine aJ (fun h12=>?_) (fun h12=>?_)
    ·exact absurd (show l[k]=l[m] by simpa [aA h7,aA hml] using h12) (fun he=>hd m k h10 h7 (by rw [aA hml,aA h7,he]))
    ·try simp [go_sem] at h12
     exact wo (h:=wx hI4 (m+1) ⟨wg,wj⟩)
   ·exact wo (h:=wx hI2 (k+1) ⟨wg,wj⟩)
  ·have Y:=wa Y (wa h2 h7)
   exact wv (h:=hQ _ _ wy)
def KS (xs:List Int)(i j:Nat):List Int:=(xs.set i (xs[j]?.getD 0)).set j (xs[i]?.getD 0)
theorem KR (xs:List Int)(i j:Nat):(KS xs i j).length=xs.length:=by simp [KS]
abbrev B2:=UInt8 × UInt8
def cP (x:B2):List D:=[.int .u8 (x.1.toNat:Int),.int .u8 (x.2.toNat:Int)]
theorem iZ (x:UInt8):(x.toNat:Int)<256:=by have:=x.toNat_lt;omega
@[go_sem] theorem Sv (l:List B2):D.clLL (l.map cP)=true:=dA _ (fun _=>rfl) l
def tyA:ByteArray:=⟨#[65,66,67,68,69,70]⟩
def tyU:ByteArray:=⟨#[117,118,119,120,121,122]⟩
def tyE:ByteArray:=⟨#[101,102,103,104,105]⟩
def w5 (i:Nat)(x:B2):NodeTy :=
 ⟨tyA.extract i (i+1),(x.1.toNat:Int).tmod ((i:Int)+1) - 1,((x.1.toNat:Int) / 16).tmod 4==3,
  if (x.2.toNat:Int).tmod 4=1 then [⟨tyU.extract i (i+1),-3,3+((x.2.toNat:Int) / 4).tmod 9,[]⟩]
  else if (x.2.toNat:Int).tmod 4=2 then [⟨tyU.extract i (i+1),0,1,[⟨#[111,102,102]⟩,⟨#[111,110]⟩]⟩] else []⟩
def vK (i:Nat)(x:B2):List D :=
 [.str (tyA.extract i (i+1)),dI ((x.1.toNat:Int).tmod ((i:Int)+1) - 1),.bool (((x.1.toNat:Int) / 16).tmod 4==3),
  if (x.2.toNat:Int).tmod 4=1 then .list [[.str (tyU.extract i (i+1)),dI (-3),dI (3+((x.2.toNat:Int) / 4).tmod 9),.nil]]
  else if (x.2.toNat:Int).tmod 4=2 then .list [[.str (tyU.extract i (i+1)),dI 0,dI 1,.list [[.str ⟨#[111,102,102]⟩],[.str ⟨#[111,110]⟩]]]] else .nil]
theorem RW (i:Nat)(x:B2):nH (vK i x)=(w5 i x).c:=by
 unfold vK w5 NodeTy.c
 by_cases h1:(x.2.toNat:Int).tmod 4=1
 ·simp [h1,qL,nH,f6,Attr.c,dI,o8,cS]
 ·by_cases h2:(x.2.toNat:Int).tmod 4=2
  ·simp [h2,qL,nH,f6,Attr.c,dI,o8,cS]
  ·simp [h1,h2,qL,nH,f6,Attr.c,dI,o8,cS]
def mW (ns:List B2)(i:Nat):B2:=ns[i]?.getD (0,0)
def Cc (ns:List B2)(n:Nat):List NodeTy:=(List.range n).map fun i=>w5 i (mW ns i)
def Pn (n:Int)(i:Nat)(x:B2):EdgeTy:=⟨tyE.extract i (i+1),(x.1.toNat:Int).tmod n,(x.2.toNat:Int).tmod n,0,-1,0,-1⟩
def sV (n:Int)(es:List B2)(k:Nat):List EdgeTy:=(List.range k).map fun i=>Pn n i (mW es i)
def nM (ns:List B2):Nat:=max 1 (min ns.length 6)
def nL (ns es:List B2):Types:=⟨Cc ns (nM ns),sV (nM ns) es (min es.length 5)⟩
def sU (ns:List B2)(n:Nat):List (List D):=(List.range n).map fun i=>vK i (mW ns i)
theorem r6 (ns:List B2)(i:Nat):sU ns (i+1)=sU ns i++[vK i (mW ns i)]:=by simp [sU,bL]
theorem qQ (ns:List B2)(i:Nat):(sU ns i).length=i:=by simp [sU]
theorem Qv (ns:List B2)(i:Nat):f6 (sU ns i)=(Cc ns i).map NodeTy.c:=by
 rw [tQ];simp only [sU,Cc,iX]
 exact bR fun j _=>RW j _
theorem AZ {l:List (List D)}(h:∀ c∈l,nH c=c):f6 l=l:=by
 rw [tQ];conv=>rhs;rw [← List.map_id l]
 exact bR h
theorem N3 (l:List EdgeTy):f6 (l.map EdgeTy.c)=l.map EdgeTy.c:=AZ fun c hc=>by
 rw [aU] at hc;obtain ⟨x,_,rfl⟩:=hc;rfl
theorem Oa (ns:List B2)(i:Nat):(Cc ns i).length=i:=by simp [Cc]
theorem LX (n:Int)(es:List B2)(i:Nat):sV n es (i+1)=sV n es i++[Pn n i (mW es i)]:=by simp [sV,bL]
theorem z7 (n:Int)(es:List B2)(i:Nat):(sV n es i).length=i:=by simp [sV]
theorem dJ {a n:Int}(h:0≤a)(hn:0<n):0≤a.tmod n∧a.tmod n<n:=⟨Int.tmod_nonneg _ h,Int.tmod_lt_of_pos _ hn⟩
theorem SZ {a n:Int}(h:0≤a)(hn:0<n):0≤a.tdiv n∧a.tdiv n≤a:=⟨Int.tdiv_nonneg h (by omega),by rw [Int.tdiv_eq_ediv_of_nonneg h];exact Int.ediv_le_self _ h⟩
theorem Oj {n:Int}(h1:0≤n)(h2:n≤255):PK .u8 n:=by
 unfold PK;simp [IntKind.min,IntKind.max,IntKind.signed,IntKind.bits];omega
theorem NX (ns es:List B2):Pure Tryz.prog 42 [.list (ns.map cP),.list (es.map cP)] (nL ns es).d:=by
 refine zZ (by first|rfl|(simp [go_sem];done)) (fun Q hQ=>(aH (cfg:=⟨fun t=>t==4||t==5||t==7||t==8,fun r=>match r with|8=>[(3,17),(4,17),(5,17),(11,17),(12,17)]|20=>[(0,23),(1,23)]|_=>[]⟩) Tz.mixed Tryz.func42 rfl rfl (aE rfl) (by kernel_rfl) ?_))
 have Y:=trivial
 refine wv (h:=uX (Ghosts.step (Ghosts.refl _) 1 0 0 183 4 _ _ (rfl) rfl rfl rfl) (fun i e H=>(e 0=.list (ns.map cP)∧e 1=.list (es.map cP)∧e 4=.ptr 0 1 0 0∧e 5=.ptr 1 1 0 0∧e 6=dI i)∧(H.get 0=some ⟨32,2,[[.nil,.nil]],false⟩)∧(0<H.next)∧(H.get 1=some ⟨32,2,[[.own 2 i,.nil]],false⟩)∧(1<H.next)∧(H.get 2=some ⟨183,4,sU ns i,false⟩)∧(2<H.next)∧(i≤6)∧(i≤1∨i≤ns.length)∧((sU ns i).length=i)) (fun i=>6 - i) 0 ⟨wg,wn,wn,wn,wn,(by rfl),wn,wi,(by omega),(by (exact qQ _ _))⟩ fun I0 hI0 i e H hi0=>?_)
 obtain ⟨E0,g0_0,n0_0,g1_0,n1_0,g2_0,n2_0,hi,hi2,hl⟩:=hi0
 have Y:=wa Y (wa E0 (wa g0_0 (wa (cG n0_0) (wa g1_0 (wa (cG n1_0) (wa g2_0 (wa (cG n2_0) hl)))))))
 refine pH (fun h3=>?_) fun h3=>?_
 ·obtain ⟨x,hx⟩:∃ x,mW ns i=x:=⟨_,rfl⟩
  have hx1:=iZ x.1
  have hx2:=iZ x.2
  have hi5:i<6:=by omega
  have hm1:=dJ (show 0≤(x.1.toNat:Int) by omega) (show 0<(i:Int)+1 by omega)
  have hm2:=dJ (show 0≤(x.2.toNat:Int) / 4 by omega) (show (0:Int)<9 by omega)
  have hu1:=Oj (show 0≤(x.1.toNat:Int) / 16 by omega) (by omega)
  have hu2:=Oj (show 0≤(x.2.toNat:Int) / 4 by omega) (by omega)
  have hsz:(⟨#[65,66,67,68,69,70]⟩:ByteArray).size=6:=rfl
  have hsz2:(⟨#[117,118,119,120,121,122]⟩:ByteArray).size=6:=rfl
  have nx:=N4 H.next
  have Y:=wa Y (wa h3 (wa hsz (wa hsz2 nx)))
  refine pH (fun h6=>?_) fun h6=>?_
  ·have hx0:ns[i]=x:=by rw [← hx];simp [mW,aA h6]
   have Y:=wa Y (wa (aA h6) (wa hx0 @cP.eq_1))
   refine pH (fun h11=>?_) fun h11=>?_
   ·have hmn:vK i (mW ns i)=[.str (tyA.extract i (i+1)),dI ((x.1.toNat:Int).tmod ((i:Int)+1) - 1),.bool (((x.1.toNat:Int) / 16).tmod 4==3),.list [[.str (tyU.extract i (i+1)),dI (-3),dI (3+((x.2.toNat:Int) / 4).tmod 9),.nil]]]:=by rw [hx];simp [vK,h11]
    exact wp (h:=wx hI0 (i+1) ⟨wg,wn,wn,wn,wn,(by (simp [go_sem,Y,r6,hmn,tyA,tyU,NodeTy.c,Attr.c,o8,cS,dI])),wn,wj,(by omega),(by (exact qQ _ _))⟩)
   ·refine d7 (fun h13=>?_) fun h13=>?_
    ·have hmn:vK i (mW ns i)=[.str (tyA.extract i (i+1)),dI ((x.1.toNat:Int).tmod ((i:Int)+1) - 1),.bool (((x.1.toNat:Int) / 16).tmod 4==3),.list [[.str (tyU.extract i (i+1)),dI 0,dI 1,.list [[.str ⟨#[111,102,102]⟩],[.str ⟨#[111,110]⟩]]]]]:=by rw [hx];simp [vK,h13]
     exact wp (h:=wx hI0 (i+1) ⟨wg,wn,wn,wn,wn,(by (simp [go_sem,Y,r6,hmn,tyA,tyU,NodeTy.c,Attr.c,o8,cS,dI])),wn,wj,(by omega),(by (exact qQ _ _))⟩)
    ·have hmn:vK i (mW ns i)=[.str (tyA.extract i (i+1)),dI ((x.1.toNat:Int).tmod ((i:Int)+1) - 1),.bool (((x.1.toNat:Int) / 16).tmod 4==3),.nil]:=by rw [hx];simp [vK,h11,h13]
     exact wp (h:=wx hI0 (i+1) ⟨wg,wn,wn,wn,wn,(by (simp [go_sem,Y,r6,hmn,tyA,tyU,NodeTy.c,Attr.c,o8,cS,dI])),wn,wj,(by omega),(by (exact qQ _ _))⟩)
  ·have hx0:x=(0,0):=by rw [← hx];simp [mW,aX h6]
   subst hx0
   have hmn:vK i (mW ns i)=[.str (tyA.extract i (i+1)),dI (-1),.bool false,.nil]:=by rw [hx];simp [vK]
   exact wp (h:=wx hI0 (i+1) ⟨wg,wn,wn,wn,wn,(by (simp [go_sem,Y,r6,hmn,tyA,tyU,NodeTy.c,Attr.c,o8,cS,dI])),wn,wj,(by omega),(by (exact qQ _ _))⟩)
 ·have hN:i=nM ns:=by unfold nM;omega
  refine wv (h:=uX (Ghosts.step (Ghosts.refl _) 1 0 1 188 7 _ _ (g1_0) rfl rfl rfl) (fun k e H=>∃ j:Nat,(e 0=.list (ns.map cP)∧e 1=.list (es.map cP)∧e 4=.ptr 0 1 0 0∧e 5=.ptr 1 1 0 0∧e 10=dI k)∧(H.get 0=some ⟨32,2,[[.nil,.nil]],false⟩)∧(0<H.next)∧(H.get 1=some ⟨32,2,[[.own 2 i,.own j k]],false⟩)∧(1<H.next)∧(H.get 2=some ⟨183,4,sU ns i,false⟩)∧(2<H.next)∧(H.get j=some ⟨188,7,(sV i es k).map EdgeTy.c,false⟩)∧(j<H.next)∧(k≤5)∧(k≤es.length)∧(j≠0)∧(j≠1)∧(j≠2)∧((sV i es k).length=k)) (fun k=>5 - k) 0 ⟨H.next,wg,wn,wn,wn,wn,wn,wn,(by (simp [go_sem,sV,Y])),wn,wi,wi,(by omega),(by omega),(by omega),(by (exact z7 _ _ _))⟩ fun I3 hI3 k e H hi3=>?_)
  obtain ⟨j,E3,g0_3,n0_3,g1_3,n1_3,g2_3,n2_3,gj_3,nj_3,hk,hk2,j0,j1,j2,hle⟩:=hi3
  have Y:=wa Y (wa E3 (wa g0_3 (wa (cG n0_3) (wa g1_3 (wa (cG n1_3) (wa g2_3 (wa (cG n2_3) (wa gj_3 (wa (cG nj_3) (wa hle (wa j0 (wa j1 (wa j2 (wa j0.symm (wa j1.symm j2.symm)))))))))))))))
  refine pH (fun h17=>?_) fun h17=>?_
  ·obtain ⟨x,hx⟩:∃ x,mW es k=x:=⟨_,rfl⟩
   have hk5:k<es.length∧k<5:=by omega
   have hx0:es[k]'hk5.1=x:=by rw [← hx];simp [mW,aA hk5.1]
   have hi0:0<i:=by rw [hN];unfold nM;omega
   have hx1:=iZ x.1
   have hx2:=iZ x.2
   have hszE:(⟨#[101,102,103,104,105]⟩:ByteArray).size=5:=rfl
   have nx:=N4 H.next
   have Y:=wa Y (wa h17 (wa (aA hk5.1) (wa hx0 (wa @cP.eq_1 (wa hszE nx)))))
   exact wp (h:=wx hI3 (k+1) ⟨j,wg,wn,wn,wn,wn,wn,wn,(by (simp [go_sem,Y,LX,Pn,hx,tyE,EdgeTy.c,dI])),wn,wj,wj,wj,wj,wj,(by (exact z7 _ _ _))⟩)
  ·have hK:k=min es.length 5:=by omega
   refine wv (h:=?_)
   exact hQ _ _ (by simp [go_sem,Y,nL,← hN,← hK,Qv,N3,Types.d,Types.c])
def cU (x:UInt8):List D:=[.int .u8 (x.toNat:Int)]
@[go_sem] theorem OK (l:List UInt8):D.clLL (l.map cU)=true:=dA _ (fun _=>rfl) l
def KW (n:Nat)(l:List UInt8)(i:Nat):Nat:=((i:Int)+((l[i]?.getD 0).toNat:Int).tmod ((n:Int) - i)).toNat
def O7 (n:Nat)(l:List UInt8)(xs:List Int)(i:Nat):List Int:=KS xs i (KW n l i)
def AB (n:Nat)(l:List UInt8):List Int:=(List.range (min n l.length)).foldl (O7 n l) (nX n)
def DA (n:Nat)(xs:List Int):Prop:=xs.length=n∧(∀ x∈xs,0≤x∧x<n)∧∀ a b,a<b→b<xs.length→xs[a]?≠xs[b]?
theorem Er {xs:List Int}{i j:Nat}(hi:i<xs.length)(hj:j<xs.length)(k:Nat):(KS xs i j)[k]?=if k=j then xs[i]? else if k=i then xs[j]? else xs[k]?:=by
 unfold KS
 rw [c6,c6]
 by_cases h1:j=k
 ·subst h1;simp [hj,aA hi]
 ·rw [if_neg h1,if_neg (Ne.symm h1)]
  by_cases h2:i=k
  ·subst h2;simp [hi,aA hj]
  ·rw [if_neg h2,if_neg (Ne.symm h2)]
theorem Ie {n:Nat}{xs:List Int}{i j:Nat}(h:DA n xs)(hi:i<n)(hj:j<n):DA n (KS xs i j):=by
 obtain ⟨h1,h2,h3⟩:=h
 have hi':i<xs.length:=by omega
 have hj':j<xs.length:=by omega
 have hne:∀ a b,a≠b→a<xs.length→b<xs.length→xs[a]?≠xs[b]?:=fun a b hab ha hb=>by
  rcases b8 a b with h|h
  ·exact h3 a b h hb
  ·exact Ne.symm (h3 b a (by omega) ha)
 refine ⟨by rw [KR,h1],fun x hx=>?_,fun a b hab hb=>?_⟩
 ·obtain ⟨k,hk⟩:=List.getElem?_of_mem hx
  rw [Er hi' hj'] at hk
  split at hk
  ·exact h2 x (aK hk)
  ·split at hk
   ·exact h2 x (aK hk)
   ·exact h2 x (aK hk)
 ·rw [KR] at hb
  rw [Er hi' hj',Er hi' hj']
  split
  ·split
   ·omega
   ·split
    ·exact hne i j (by omega) hi' hj'
    ·exact hne i b (by omega) hi' hb
  ·split
   ·split
    ·exact hne j i (by omega) hj' hi'
    ·split
     ·omega
     ·exact hne j b (by omega) hj' hb
   ·split
    ·exact hne a i (by omega) (by omega) hi'
    ·split
     ·exact hne a j (by omega) (by omega) hj'
     ·exact hne a b (by omega) (by omega) hb
theorem Fd {n a:Nat}(h:a<n):(nX n)[a]?=some (a:Int):=by
 simp [nX,aR,rH h]
theorem Ij (n:Nat):DA n (nX n):=⟨i6 n,fun x hx=>RS hx,fun a b hab hb=>by
 rw [i6] at hb
 rw [Fd (by omega),Fd hb]
 simp;omega⟩
theorem Rx {n:Nat}{l:List UInt8}{i:Nat}(hi:i<n):KW n l i<n:=by
 have:=dJ (show 0≤((l[i]?.getD 0).toNat:Int) by omega) (show 0<(n:Int) - i by omega)
 unfold KW;omega
theorem HP (n:Nat)(l:List UInt8):∀ k,k≤n→DA n ((List.range k).foldl (O7 n l) (nX n))
 | 0,_=>Ij n
 | k+1,h=>by
  rw [bL,oX]
  exact Ie (HP n l k (by omega)) (by omega) (Rx (by omega))
theorem Ez (n:Nat)(l:List UInt8):DA n (AB n l):=HP n l _ (by omega)
theorem zA (n:Nat)(hn:n≤100000)(l:List UInt8):Pure Tryz.prog 95 [dI n,.list (l.map cU)] (dLI (AB n l)):=by
 refine Tz.pK ⟨fun t=>t==5,fun _=>[]⟩ Tryz.func95 rfl (fun Q hQ=>?_)
 have Y:=@i6
 refine wv (h:=l5 (Ha n hn) wl ?_)
 refine wv (h:=bG (fun i e H=>∃ xs:List Int,(e 0=dI n∧e 1=.list (l.map cU)∧e 5=.own 0 n∧e 6=dI i)∧(H.get 0=some ⟨3,1,xs.map cI,false⟩)∧(0<H.next)∧(i≤n)∧(i≤l.length)∧(DA n xs)∧(xs=(List.range i).foldl (O7 n l) (nX n))) (fun i=>n - i) 0 ⟨(nX n),wg,(by (simp [go_sem])),wn,wi,wi,(by exact Ij n),(by rfl)⟩ fun I0 hI0 i e H hi0=>?_)
 obtain ⟨xs,E0,g0_0,n0_0,hi,hil,hp,hx⟩:=hi0
 have Y:=wa Y (wa E0 (wa g0_0 (cG n0_0)))
 refine pH (fun h3=>?_) fun h3=>?_
 ·have hx1:=iZ l[i]
  have hxl:=hp.1
  have htm:=dJ (show 0≤(l[i].toNat:Int) by omega) (show 0<(n:Int) - i by omega)
  obtain ⟨j,hj⟩:∃ j:Nat,(i:Int)+(l[i].toNat:Int).tmod ((n:Int) - i)=(j:Int):=⟨((i:Int)+(l[i].toNat:Int).tmod ((n:Int) - i)).toNat,(Int.toNat_of_nonneg (by omega)).symm⟩
  have hjn:j<n:=by omega
  have hJ:KW n l i=j:=by unfold KW;rw [aA h3.2,aD,hj];rfl
  have hxi:i<xs.length:=by omega
  have hxj:j<xs.length:=by omega
  have hsi:xs[i]?.getD 0=xs[i]:=by rw [aA hxi];rfl
  have hsj:xs[j]?.getD 0=xs[j]:=by rw [aA hxj];rfl
  have hne0:(n:Int) - i≠0:=by omega
  have hss:((xs.map cI).set i [.int .i64 xs[j]])[j]?=some [.int .i64 xs[j]]:=by
   rw [c6]
   by_cases hij:i=j
   ·subst hij;simp [hxi]
   ·rw [if_neg hij,aR,aA hxj];rfl
  have Y:=wa Y (wa h3 (wa hss (wa hj (wa hxl (wa (aA h3.2) (wa (aA hxi) (wa (aA hxj) (wa hne0 @cU.eq_1))))))))
  exact wp (h:=wx hI0 (i+1) ⟨(KS xs i j),wg,(by (simp [go_sem,Y,KS,cK,hsi,hsj])),wn,wj,wj,(by exact Ie hp h3.1 hjn),(by (rw [bL,oX,← hx];simp [O7,hJ]))⟩)
 ·have hI:i=min n l.length:=by omega
  have hxl:=hp.1
  have hF:AB n l=xs:=by rw [hx,hI];rfl
  exact wv (h:=hQ _ _ (by simp [go_sem,Y,hF,hxl]))
def GU (p xs:List Int)(k:Nat):List Int:=(List.range k).foldl (fun acc i=>acc.set (p[i]?.getD 0).toNat (xs[i]?.getD 0)) xs
def S3 (p:List Int)(x:Edge):Edge:=⟨x.type,p[x.from_.toNat]?.getD 0,p[x.to_.toNat]?.getD 0⟩
def Jy (p q:List Int)(es:List Edge)(k:Nat):List Edge:=(List.range k).foldl (fun acc i=>acc.set (q[i]?.getD 0).toNat (S3 p (es[i]?.getD ⟨0,0,0⟩))) es
def GV (g:Graph)(p q:List Int):Graph:=if graphF g=0 then ⟨GU p g.nodes g.nodes.length,Jy p q g.edges g.edges.length⟩ else ⟨[],[]⟩
theorem HZ (p xs:List Int)(k:Nat):GU p xs (k+1)=(GU p xs k).set (p[k]?.getD 0).toNat (xs[k]?.getD 0):=by simp [GU,bL]
theorem AG (p xs:List Int):∀ k,(GU p xs k).length=xs.length
 | 0=>rfl
 | k+1=>by rw [HZ,dX,AG p xs k]
theorem H5 (p q:List Int)(es:List Edge)(k:Nat):Jy p q es (k+1)=(Jy p q es k).set (q[k]?.getD 0).toNat (S3 p (es[k]?.getD ⟨0,0,0⟩)):=by simp [Jy,bL]
theorem AH (p q:List Int)(es:List Edge):∀ k,(Jy p q es k).length=es.length
 | 0=>rfl
 | k+1=>by rw [H5,dX,AH p q es k]
theorem lM (g:Graph)(hn:g.nodes.length≤100000)(he:g.edges.length≤100000)(G:AHeap)(Q:D→AHeap→Prop)
  (hQ:∀ a b H',G.next≤a→G.next≤b→a≠b→a<H'.next→b<H'.next→H'.get a=some ⟨3,1,g.nodes.map cI,false⟩→H'.get b=some ⟨101,3,g.edges.map Edge.c,false⟩→(∀ j,j<G.next→H'.get j=G.get j)→G.next≤H'.next→Q (.agg [.own a g.nodes.length,.own b g.edges.length]) H'):ACalls Tryz.prog 175 [g.d] G Q:=by
 refine (aH (cfg:=⟨fun t=>t==2||t==3||t==7,fun r=>match r with|1=>[(0,1),(0,2),(0,4),(1,4),(2,4),(3,4),(0,5),(3,5),(4,5),(0,6),(3,6),(4,6)]|_=>[]⟩) Tz.mixed Tryz.func175 rfl rfl (aE rfl) (by kernel_rfl) ?_)
 have nx:=N4 G.next
 have Y:=nx
 refine wo (h:=?_)
 exact hQ _ _ _ (by first|omega|(simp [go_sem]<;>omega)|(simp [go_sem,nx]<;>omega)) (by first|omega|(simp [go_sem]<;>omega)|(simp [go_sem,nx]<;>omega)) (by first|omega|(simp [go_sem]<;>omega)|(simp [go_sem,nx]<;>omega)) (by first|omega|(simp [go_sem]<;>omega)|(simp [go_sem,nx]<;>omega)) (by first|omega|(simp [go_sem]<;>omega)|(simp [go_sem,nx]<;>omega)) (by simp [go_sem,nx]<;>omega) (by simp [go_sem,nx]<;>omega) (fun j hj=>by simp [go_sem,cG hj]) (by first|omega|(simp [go_sem]<;>omega)|(simp [go_sem,nx]<;>omega))
theorem G9 (g:Graph)(hn:g.nodes.length≤100000)(he:g.edges.length≤100000)(p q:List Int)(hp:DA g.nodes.length p)(hq:DA g.edges.length q):Pure Tryz.prog 96 [g.d,Part.d ⟨p,q⟩] (.tup [(GV g p q).d,dI (graphF g)]):=by
 obtain ⟨hp1,hp2,hp3⟩:=hp
 obtain ⟨hq1,hq2,hq3⟩:=hq
 refine Tz.pK ⟨fun t=>t==4||t==9||t==12,fun _=>[]⟩ Tryz.func96 rfl (fun Q hQ=>?_)
 try simp [go_sem,seval,hp1,hq1]
 refine aC (i5 g) ((by first|rfl|(simp [go_sem,← List.map_take,← List.map_drop,hp1,hq1];done))) ?_
 try simp [go_sem,seval,hp1,hq1]
 refine aJ (fun h2=>?_) (fun h2=>?_)
 ·try simp [go_sem] at h2
  try simp [go_sem,seval,hp1,hq1]
  exact hQ _ _ (by first|(left;(simp [go_sem,GV,h2]);done)|(right;(simp [go_sem,GV,h2]);done))
 ·try simp [go_sem] at h2
  try simp [go_sem,seval,hp1,hq1]
  repeat first|intro _|refine ⟨eI,?_⟩
  refine aC (rT p (by rw [hp1];exact hp2) hp3) ((by first|rfl|(simp [go_sem,← List.map_take,← List.map_drop,hp1,hq1];done))) ?_
  try simp [go_sem,seval,hp1,hq1]
  repeat first|intro _|refine ⟨eI,?_⟩
  refine aC (rT q (by rw [hq1];exact hq2) hq3) ((by first|rfl|(simp [go_sem,← List.map_take,← List.map_drop,hp1,hq1];done))) ?_
  try simp [go_sem,seval,hp1,hq1]
  repeat first|intro _|refine ⟨eI,?_⟩
  unfold fB;refine lM g hn he _ _ (fun a b H1 ha hb hab han hbn hga hgb hfr hnn=>?_)
  have h0n:(0:Nat)<H1.next:=by omega
  have ha0:a≠0:=by simp [go_sem] at ha;omega
  have hb0:b≠0:=by simp [go_sem] at hb;omega
  have hg0:=hfr 0 (by simp [go_sem])
  simp [go_sem] at hg0
  have nx:=N4 H1.next
  have fr1:=And.intro (cG (show a<H1.next by omega)) (And.intro (cG (show b<H1.next by omega)) (cG (show 0<H1.next by omega)))
  have di2:=And.intro (c5 (show 0≠b by omega)) (And.intro (c5 (show 0≠a by omega)) (c5 (show b≠a by omega)))
  try simp [go_sem,seval,hp1,hq1,fr1,di2,hga,hgb,hg0,nx]
  repeat first|intro _|refine ⟨eI,?_⟩
  obtain ⟨I0,hI0⟩:∃ I0:Nat→cY→AHeap→Prop,∀ (i:Nat) (e:cY) (H:AHeap),I0 i e H↔(∃ c:Nat,(e 2=.adr g.c)∧(e 3=.adr [dLI p,dLI q])∧(e 4=.ptr 0 1 0 0)∧(e 9=.ptr c 1 0 0)∧(e 10=dI i)∧(H.get 0=some ⟨37,2,[[.nil,.nil]],false⟩)∧(0<H.next)∧(H.get c=some ⟨37,2,[[.own a g.nodes.length,.own b g.edges.length]],false⟩)∧(c<H.next)∧(H.get a=some ⟨3,1,(GU p g.nodes i).map cI,false⟩)∧(a<H.next)∧(H.get b=some ⟨101,3,g.edges.map Edge.c,false⟩)∧(b<H.next)∧(i≤g.nodes.length)∧(a<c∧b<c)∧((GU p g.nodes i).length=g.nodes.length)):=⟨fun i e H=>_,fun _ _ _=>Iff.rfl⟩
  refine fZ I0 (fun i=>g.nodes.length - i) (0) ((hI0 _ _ _).2 ⟨(H1.next),?_,?_,?_,?_,?_,?_,?_,?_,?_,(by (simp [go_sem,hp1,hq1,fr1,di2,hga,hgb,hg0,nx,GU])),?_,?_,?_,(by first|assumption|omega|(simp [go_sem,hp1,hq1,fr1,di2,hga,hgb,hg0,nx];done)|(simp_all;done)),(by omega),(by (exact AG _ _ _))⟩) ?_
  iterate 12 (first|omega|(simp [go_sem,seval,hp1,hq1,fr1,di2,hga,hgb,hg0,nx]<;>omega))
  intro i e H hi0
  obtain ⟨c,q2_0,q3_0,q4_0,q9_0,q10_0,g0_0,n0_0,gc_0,nc_0,ga_0,na_0,gb_0,nb_0,hi,hc,hrl⟩:=(hI0 _ _ _).1 hi0
  have x0:=cG n0_0
  have xc:=cG nc_0
  have xa:=cG na_0
  have xb:=cG nb_0
  have F0:=And.intro q2_0 (And.intro q3_0 (And.intro q4_0 (And.intro q9_0 (And.intro q10_0 (And.intro g0_0 (And.intro gc_0 (And.intro ga_0 (And.intro gb_0 (And.intro x0 (And.intro xc (And.intro xa xb)))))))))))
  have di3:=And.intro (c5 (show 0≠c by omega)) (And.intro (c5 (show 0≠b by omega)) (And.intro (c5 (show 0≠a by omega)) (And.intro (c5 (show c≠b by omega)) (And.intro (c5 (show c≠a by omega)) (c5 (show b≠a by omega))))))
  try simp [go_sem,seval,hp1,hq1,fr1,di2,hga,hgb,hg0,nx,F0,hrl,di3]
  repeat first|intro _|refine ⟨eI,?_⟩
  refine aJ (fun h14=>?_) (fun h14=>?_)
  ·try simp [go_sem] at h14
   have hip:i<p.length:=by omega
   have hpi:=hp2 _ (aB hip)
   have hpd:p[i]?.getD 0=p[i]:=by rw [aA hip];rfl
   have hxd:g.nodes[i]?.getD 0=g.nodes[i]:=by rw [aA h14];rfl
   have hpl:p[i].toNat<(GU p g.nodes i).length:=by rw [hrl];omega
   try simp [go_sem,seval,hp1,hq1,fr1,di2,hga,hgb,hg0,nx,F0,hrl,di3,h14,aA h14,aA hip,aA hpl,hrl]
   repeat first|intro _|refine ⟨eI,?_⟩
   refine bY (i+1) (by omega) ((hI0 _ _ _).2 ⟨(c),?_,?_,?_,?_,?_,?_,?_,?_,?_,(by (simp [go_sem,hp1,hq1,fr1,di2,hga,hgb,hg0,nx,F0,hrl,di3,h14,aA h14,aA hip,aA hpl,hrl,HZ,cK,hpd,hxd])),?_,?_,?_,(by first|assumption|omega|(simp [go_sem,hp1,hq1,fr1,di2,hga,hgb,hg0,nx,F0,hrl,di3,h14,aA h14,aA hip,aA hpl,hrl,h2];done)|(simp_all<;>omega)),(by omega),(by (exact AG _ _ _))⟩)<;>first|omega|(simp [go_sem,seval,hp1,hq1,fr1,di2,hga,hgb,hg0,nx,F0,hrl,di3,h14,aA h14,aA hip,aA hpl,hrl]<;>omega)
  ·try simp [go_sem] at h14
   have hI:i=g.nodes.length:=by omega
   rw [hI] at hrl
   try simp [go_sem,seval,hp1,hq1,fr1,di2,hga,hgb,hg0,nx,F0,hrl,di3]
   obtain ⟨I2,hI2⟩:∃ I2:Nat→cY→AHeap→Prop,∀ (k:Nat) (e:cY) (H:AHeap),I2 k e H↔((e 2=.adr g.c)∧(e 3=.adr [dLI p,dLI q])∧(e 4=.ptr 0 1 0 0)∧(e 9=.ptr c 1 0 0)∧(e 11=dI k)∧(H.get 0=some ⟨37,2,[[.nil,.nil]],false⟩)∧(0<H.next)∧(H.get c=some ⟨37,2,[[.own a g.nodes.length,.own b g.edges.length]],false⟩)∧(c<H.next)∧(H.get a=some ⟨3,1,(GU p g.nodes g.nodes.length).map cI,false⟩)∧(a<H.next)∧(H.get b=some ⟨101,3,(Jy p q g.edges k).map Edge.c,false⟩)∧(b<H.next)∧(k≤g.edges.length)∧((Jy p q g.edges k).length=g.edges.length)):=⟨fun k e H=>_,fun _ _ _=>Iff.rfl⟩
   refine fZ I2 (fun k=>g.edges.length - k) (0) ((hI2 _ _ _).2 ⟨?_,?_,?_,?_,?_,?_,?_,?_,?_,(by (simp [go_sem,hp1,hq1,fr1,di2,hga,hgb,hg0,nx,F0,hrl,di3,← hI])),?_,(by (simp [go_sem,hp1,hq1,fr1,di2,hga,hgb,hg0,nx,F0,hrl,di3,Jy])),?_,(by first|assumption|omega|(simp [go_sem,hp1,hq1,fr1,di2,hga,hgb,hg0,nx,F0,hrl,di3];done)|(simp_all;done)),(by (exact AH _ _ _ _))⟩) ?_
   iterate 11 (first|omega|(simp [go_sem,seval,hp1,hq1,fr1,di2,hga,hgb,hg0,nx,F0,hrl,di3]<;>omega))
   intro k e H hi2
   obtain ⟨q2_2,q3_2,q4_2,q9_2,q11_2,g0_2,n0_2,gc_2,nc_2,ga_2,na_2,gb_2,nb_2,hk,hel⟩:=(hI2 _ _ _).1 hi2
   have x0:=cG n0_2
   have xc:=cG nc_2
   have xa:=cG na_2
   have xb:=cG nb_2
   have F2:=And.intro q2_2 (And.intro q3_2 (And.intro q4_2 (And.intro q9_2 (And.intro q11_2 (And.intro g0_2 (And.intro gc_2 (And.intro ga_2 (And.intro gb_2 (And.intro x0 (And.intro xc (And.intro xa xb)))))))))))
   have di4:=And.intro (c5 (show 0≠c by omega)) (And.intro (c5 (show 0≠b by omega)) (And.intro (c5 (show 0≠a by omega)) (And.intro (c5 (show c≠b by omega)) (And.intro (c5 (show c≠a by omega)) (c5 (show b≠a by omega))))))
   try simp [go_sem,seval,hp1,hq1,fr1,di2,hga,hgb,hg0,nx,hrl,di3,F2,hel,di4]
   repeat first|intro _|refine ⟨eI,?_⟩
   refine aJ (fun h18=>?_) (fun h18=>?_)
   ·try simp [go_sem] at h18
    have hkq:k<q.length:=by omega
    have hqk:=hq2 _ (aB hkq)
    have hg:=eP h2
    have hE:=hg.2 _ (aB h18)
    have hfp:g.edges[k].from_.toNat<p.length:=by omega
    have htp:g.edges[k].to_.toNat<p.length:=by omega
    have hqd:q[k]?.getD 0=q[k]:=by rw [aA hkq];rfl
    have hxd:g.edges[k]?.getD ⟨0,0,0⟩=g.edges[k]:=by rw [aA h18];rfl
    have hXX:S3 p g.edges[k]=⟨g.edges[k].type,p[g.edges[k].from_.toNat],p[g.edges[k].to_.toNat]⟩:=by unfold S3;rw [aA hfp,aA htp];rfl
    have hql:q[k].toNat<(Jy p q g.edges k).length:=by rw [hel];omega
    have nx:=N4 H.next
    try simp [go_sem,seval,hp1,hq1,fr1,di2,hga,hgb,hg0,nx,hrl,di3,F2,hel,di4,h18,aA h18,aA hkq,aA hql,aA hfp,aA htp,nx,hel]
    repeat first|intro _|refine ⟨eI,?_⟩
    refine bY (k+1) (by omega) ((hI2 _ _ _).2 ⟨?_,?_,?_,?_,?_,?_,?_,?_,?_,(by (simp [go_sem,hp1,hq1,fr1,di2,hga,hgb,hg0,nx,hrl,di3,F2,hel,di4,h18,aA h18,aA hkq,aA hql,aA hfp,aA htp,nx,hel])),?_,(by (simp [go_sem,hp1,hq1,fr1,di2,hga,hgb,hg0,nx,hrl,di3,F2,hel,di4,h18,aA h18,aA hkq,aA hql,aA hfp,aA htp,nx,hel,H5,cK,hqd,hxd,hXX,Edge.c])),?_,(by first|assumption|omega|(simp [go_sem,hp1,hq1,fr1,di2,hga,hgb,hg0,nx,hrl,di3,F2,hel,di4,h18,aA h18,aA hkq,aA hql,aA hfp,aA htp,nx,hel,h2,h14];done)|(simp_all<;>omega)),(by (exact AH _ _ _ _))⟩)<;>first|omega|(simp [go_sem,seval,hp1,hq1,fr1,di2,hga,hgb,hg0,nx,hrl,di3,F2,hel,di4,h18,aA h18,aA hkq,aA hql,aA hfp,aA htp,nx,hel]<;>omega)
   ·try simp [go_sem] at h18
    have hK:k=g.edges.length:=by omega
    rw [hK] at hel
    try simp [go_sem,seval,hp1,hq1,fr1,di2,hga,hgb,hg0,nx,hrl,di3,F2,hel,di4]
    exact hQ _ _ (by first|(left;(simp [go_sem,hp1,hq1,fr1,di2,hga,hgb,hg0,nx,hrl,di3,F2,hel,di4,GV,h2,hK]);done)|(right;(simp [go_sem,hp1,hq1,fr1,di2,hga,hgb,hg0,nx,hrl,di3,F2,hel,di4,GV,h2,hK]);done))
def remF (a b:Int):Int:=(a.tmod b+b).tmod b
theorem Ep (a:Int){b:Int}(hb:0<b) : -b<a.tmod b∧a.tmod b<b:=by
 refine ⟨?_,Int.tmod_lt_of_pos _ hb⟩
 rcases Int.le_total 0 a with h|h
 ·have:=Int.tmod_nonneg b h;omega
 ·have h1:(-a).tmod b = -(a.tmod b):=Int.neg_tmod _ _
  have:=Int.tmod_lt_of_pos (-a) hb
  omega
theorem Jz (a:Int){b:Int}(hb:0<b):0≤remF a b∧remF a b<b:=by
 have:=Ep a hb
 exact dJ (by omega) hb
theorem oZ (a b:Int)(hb:0<b∧b≤1000000):Pure Tryz.prog 339 [dI a,dI b] (dI (remF a b)):=by
 have hb1:=Ep a hb.1
 have hb0:b≠0:=by omega
 refine Tz.pK ⟨fun _=>false,fun _=>[]⟩ Tryz.func339 rfl (fun Q hQ=>?_)
 have Y:=hb0
 have Y:=wa Y @remF.eq_1
 exact wo (h:=hQ _ _ wy)
abbrev T4:=Int8 × Int8 × Int8 × Int8
def cT4 (x:T4):List D:=[.int .i8 x.1.toInt,.int .i8 x.2.1.toInt,.int .i8 x.2.2.1.toInt,.int .i8 x.2.2.2.toInt]
@[go_sem] theorem PE (l:List T4):D.clLL (l.map cT4)=true:=dA _ (fun _=>rfl) l
theorem Ps (x:Int8) : -128≤x.toInt∧x.toInt≤127:=by
 have h1:=x.le_toInt
 have h2:=x.toInt_lt
 omega
def made3 (v:Int)(x:T4):Test:=⟨1+(remF x.1.toInt 4).tdiv 3,⟨remF x.2.1.toInt (v+1) - 1,0⟩,⟨remF x.2.2.1.toInt (v+1) - 1,x.2.2.2.toInt.tmod 12⟩⟩
theorem NY (v:Int)(hv:0≤v∧v≤1000)(x:T4):Pure Tryz.prog 248 [dI v,.agg (cT4 x)] (.agg (made3 v x).c):=by
 have h0:=Ps x.1
 have h1:=Ps x.2.1
 have h2:=Ps x.2.2.1
 have h3:=Ps x.2.2.2
 have r1:=Jz x.1.toInt (show (0:Int)<4 by omega)
 have r2:=Jz x.2.1.toInt (show 0<v+1 by omega)
 have r3:=Jz x.2.2.1.toInt (show 0<v+1 by omega)
 have r4:=Ep x.2.2.2.toInt (show (0:Int)<12 by omega)
 have r5:=SZ r1.1 (show (0:Int)<3 by omega)
 refine Tz.pK ⟨fun t=>t==4,fun _=>[]⟩ Tryz.func248 rfl (fun Q hQ=>?_)
 have Y:=@cT4.eq_1
 refine wo (h:=aC (oZ x.1.toInt 4 (by omega)) wl ?_)
 refine wo (h:=aM (oZ x.2.1.toInt (v+1) (by omega)) wl ?_)
 refine wo (h:=aM (oZ x.2.2.1.toInt (v+1) (by omega)) wl ?_)
 have Y:=wa Y (wa @made3.eq_1 @Test.c.eq_1)
 exact wo (h:=hQ _ _ wy)
def Ba (g:Graph)(nb eb:List Bool)(k:Nat):List Bool:=(List.range k).foldl (fun acc i=>if eb[i]?.getD false=true then (acc.set (g.edges[i]?.getD ⟨0,0,0⟩).from_.toNat true).set (g.edges[i]?.getD ⟨0,0,0⟩).to_.toNat true else acc) nb
theorem Ch (g:Graph)(nb eb:List Bool)(k:Nat):Ba g nb eb (k+1)=if eb[k]?.getD false=true then ((Ba g nb eb k).set (g.edges[k]?.getD ⟨0,0,0⟩).from_.toNat true).set (g.edges[k]?.getD ⟨0,0,0⟩).to_.toNat true else Ba g nb eb k:=by
 simp only [Ba,bL,oX,tD,List.foldl_nil]
theorem qT (g:Graph)(nb eb:List Bool):∀ k,(Ba g nb eb k).length=nb.length
 | 0=>rfl
 | k+1=>by
  rw [Ch];split
  ·rw [dX,dX,qT g nb eb k]
  ·exact qT g nb eb k
def Graph.ends (g:Graph):Prop:=∀ x∈g.edges,(0≤x.from_∧x.from_<g.nodes.length)∧0≤x.to_∧x.to_<g.nodes.length
theorem Lx (g:Graph)(hn:g.nodes.length≤100000)(he:g.edges.length≤100000)(hin:g.ends)(nb eb:List Bool)(hnb:nb.length=g.nodes.length)(heb:eb.length=g.edges.length) :
  Pure Tryz.prog 76 [g.d,.list (nb.map cB),.list (eb.map cB)] (Part.d ⟨Dh (Ba g nb eb g.edges.length),Dh eb⟩):=by
 refine Tz.pK ⟨fun t=>t==6||t==9,fun _=>[]⟩ Tryz.func76 rfl (fun Q hQ=>?_)
 have hcb:(∀ c∈nb.map cB,c.length=1)=True:=eq_true (by intro c hc;rw [aU] at hc;obtain ⟨b,_,rfl⟩:=hc;rfl)
 have Y:=wa hnb heb
 try simp [go_sem,seval,Y,↓hcb]
 repeat first|intro _|refine ⟨eI,?_⟩
 refine bG (fun i e H=>(e 3=.adr g.c∧e 2=.list (eb.map cB)∧e 6=.ptr 0 1 0 0∧e 7=.own 1 g.nodes.length∧e 8=dI i)∧(H.get 0=some ⟨55,2,[[.nil,.nil]],false⟩)∧(0<H.next)∧(H.get 1=some ⟨4,1,(Ba g nb eb i).map cB,false⟩)∧(1<H.next)∧(i≤g.edges.length)∧((Ba g nb eb i).length=g.nodes.length)) (fun i=>g.edges.length - i) 0 ⟨(by and_intros<;>first|omega|(simp [go_sem,seval,Y,↓hcb]<;>omega)),((by first|omega|(simp [go_sem,seval,Y,↓hcb]<;>omega))),((by first|omega|(simp [go_sem,seval,Y,↓hcb]<;>omega))),(by (simp [go_sem,Ba])),((by first|omega|(simp [go_sem,seval,Y,↓hcb]<;>omega))),(by first|assumption|omega|(simp [go_sem,Y,↓hcb];done)|(simp_all;done)),(by (rw [qT];exact hnb))⟩ fun I0 hI0 i e H hi0=>?_
 obtain ⟨E0,g0_0,n0_0,g1_0,n1_0,hi,hl⟩:=hi0
 have Y:=wa Y (wa E0 (wa g0_0 (wa (cG n0_0) (wa g1_0 (wa (cG n1_0) hl)))))
 try simp [go_sem,seval,Y,↓hcb]
 repeat first|intro _|refine ⟨eI,?_⟩
 refine wq (fun h3=>?_) fun h3=>?_
 ·have hib:i<eb.length:=by omega
  have hbd:eb[i]?.getD false=eb[i]:=by rw [aA hib];rfl
  have hx:=hin _ (aB h3)
  have hxd:g.edges[i]?.getD ⟨0,0,0⟩=g.edges[i]:=by rw [aA h3];rfl
  have hf:g.edges[i].from_.toNat<(Ba g nb eb i).length:=by rw [hl];omega
  have ht:g.edges[i].to_.toNat<(Ba g nb eb i).length:=by rw [hl];omega
  obtain ⟨z,hz⟩:∃ z,(((Ba g nb eb i).map cB).set g.edges[i].from_.toNat [D.bool true])[g.edges[i].to_.toNat]?=some [z]:=by
   rw [c6]
   by_cases hft:g.edges[i].from_.toNat=g.edges[i].to_.toNat
   ·rw [if_pos hft,if_pos (by rw [bE];exact hf)];exact ⟨_,rfl⟩
   ·rw [if_neg hft,aR,aA ht];exact ⟨_,rfl⟩
  have Y:=wa Y (wa h3 (wa (aA h3) (wa (aA hib) (wa (aA hf) (wa (aA ht) (wa hxd hz))))))
  try simp [go_sem,seval,Y,↓hcb]
  repeat first|intro _|refine ⟨eI,?_⟩
  refine wq (fun h5=>?_) fun h5=>?_
  ·have Y:=wa Y h5
   try simp [go_sem,seval,Y,↓hcb]
   repeat first|intro _|refine ⟨eI,?_⟩
   exact wx hI0 (i+1) ⟨(by and_intros<;>first|omega|(simp [go_sem,seval,Y,↓hcb]<;>omega)),((by first|omega|(simp [go_sem,seval,Y,↓hcb]<;>omega))),((by first|omega|(simp [go_sem,seval,Y,↓hcb]<;>omega))),(by (simp [go_sem,Y,↓hcb,Ch,hbd])),((by first|omega|(simp [go_sem,seval,Y,↓hcb]<;>omega))),(by first|assumption|omega|(simp [go_sem,Y,↓hcb];done)|(simp_all<;>omega)),(by (rw [qT];exact hnb))⟩
  ·have Y:=wa Y h5
   try simp [go_sem,seval,Y,↓hcb]
   repeat first|intro _|refine ⟨eI,?_⟩
   exact wx hI0 (i+1) ⟨(by and_intros<;>first|omega|(simp [go_sem,seval,Y,↓hcb]<;>omega)),((by first|omega|(simp [go_sem,seval,Y,↓hcb]<;>omega))),((by first|omega|(simp [go_sem,seval,Y,↓hcb]<;>omega))),(by (simp [go_sem,Y,↓hcb,Ch,hbd])),((by first|omega|(simp [go_sem,seval,Y,↓hcb]<;>omega))),(by first|assumption|omega|(simp [go_sem,Y,↓hcb];done)|(simp_all<;>omega)),(by (rw [qT];exact hnb))⟩
 ·have hI:i=g.edges.length:=by omega
  subst hI
  try simp [go_sem,seval,Y,↓hcb]
  refine sF (AO (Ba g nb eb g.edges.length) (by rw [qT];omega)) (by (simp [go_sem,Y,↓hcb])<;>rfl) (by first|rfl|(simp [go_sem,← List.map_take,← List.map_drop,Y,↓hcb];done)) (by (simp [go_sem,Y,↓hcb])<;>rfl) ?_
  try simp [go_sem,seval,Y,↓hcb]
  refine aC (AO eb (by omega)) (by first|rfl|(simp [go_sem,← List.map_take,← List.map_drop,Y,↓hcb];done)) ?_
  try simp [go_sem,seval,Y,↓hcb]
  have Y:=wa Y h3
  exact hQ _ _ (by simp [go_sem,Y,↓hcb]<;>first|omega|(rw [aY];simp<;>omega)|(simp_all<;>omega))
def Sz (k:UInt64)(i:Nat):Bool:=(k.toNat:Int).fdiv (2 ^ (min ((i:Int).tmod 64).toNat 64)) % 2==1
def DW (k:UInt64)(off n:Nat):List Bool:=(List.range n).map fun j=>Sz k (off+j)
def yZ (k:UInt64)(off n i:Nat):List Bool:=(List.range n).map fun j=>decide (j<i)&&Sz k (off+j)
theorem IY (k:UInt64)(off n:Nat):yZ k off n 0=List.replicate n false:=by
 unfold yZ;apply eK;intro j
 rw [aR,mF]
 by_cases h:j<n
 ·rw [rH h,if_pos h];simp
 ·rw [aX (by simpa using h),if_neg h];rfl
theorem xQ (k:UInt64)(off n i:Nat):(yZ k off n i).length=n:=by simp [yZ]
theorem MO (k:UInt64)(off n:Nat):yZ k off n n=DW k off n:=by
 unfold yZ DW
 exact bR fun j hj=>by simp [aZ.1 hj]
theorem MN {k:UInt64}{off n i:Nat}(h:i<n):(yZ k off n i).set i (Sz k (off+i))=yZ k off n (i+1):=by
 apply eK;intro j
 rw [c6,xQ]
 by_cases hj:i=j
 ·subst hj;simp [h,yZ,rH h]
 ·rw [if_neg hj]
  simp only [yZ,aR]
  by_cases hn:j<n
  ·rw [rH hn];simp only [fD]
   rw [show decide (j<i+1)=decide (j<i) by rw [decide_eq_decide];omega]
  ·rw [aX (by simpa using hn)];rfl
def w6 (g:Graph)(k:UInt64):Part:=⟨Dh (Ba g (DW k 0 g.nodes.length) (DW k g.nodes.length g.edges.length) g.edges.length),Dh (DW k g.nodes.length g.edges.length)⟩
theorem NU (g:Graph)(hn:g.nodes.length≤100000)(he:g.edges.length≤100000)(hin:g.ends)(k:UInt64):Pure Tryz.prog 28 [g.d,.int .u64 (k.toNat:Int)] (Part.d (w6 g k)):=by
 refine Tz.pK ⟨fun t=>t==4||t==12||t==16,fun r=>match r with|1=>[(3,4),(3,5),(3,6),(0,7),(1,7),(2,7),(3,7)]|_=>[]⟩ Tryz.func28 rfl (fun Q hQ=>?_)
 try simp [go_sem,seval]
 repeat first|intro _|refine ⟨eI,?_⟩
 obtain ⟨I0,hI0⟩:∃ I0:Nat→cY→AHeap→Prop,∀ (i:Nat) (e:cY) (H:AHeap),I0 i e H↔((e 2=.adr g.c)∧(e 1=.int .u64 (k.toNat:Int))∧(e 4=.ptr 0 1 0 0)∧(e 5=.own 4 g.nodes.length)∧(e 6=.own 8 g.edges.length)∧(e 7=dI i)∧(H.get 0=some ⟨55,2,[[.nil,.nil]],false⟩)∧(0<H.next)∧(H.get 4=some ⟨4,1,(yZ k 0 g.nodes.length i).map cB,false⟩)∧(4<H.next)∧(H.get 8=some ⟨4,1,(List.replicate g.edges.length false).map cB,false⟩)∧(8<H.next)∧(i≤g.nodes.length)∧((yZ k 0 g.nodes.length i).length=g.nodes.length)):=⟨fun i e H=>_,fun _ _ _=>Iff.rfl⟩
 refine fZ I0 (fun i=>g.nodes.length - i) (0) ((hI0 _ _ _).2 ⟨?_,?_,?_,?_,?_,?_,?_,?_,(by (simp [go_sem,IY,cB])),?_,(by (simp [go_sem,cB])),?_,(by first|assumption|omega|(simp [go_sem];done)|(simp_all;done)),(by (exact xQ _ _ _ _))⟩) ?_
 iterate 10 (first|omega|(simp [go_sem,seval]<;>omega))
 intro i e H hi0
 obtain ⟨q2_0,q1_0,q4_0,q5_0,q6_0,q7_0,g0_0,n0_0,g4_0,n4_0,g8_0,n8_0,hi,hl⟩:=(hI0 _ _ _).1 hi0
 have x0:=cG n0_0
 have x4:=cG n4_0
 have x8:=cG n8_0
 have F0:=And.intro q2_0 (And.intro q1_0 (And.intro q4_0 (And.intro q5_0 (And.intro q6_0 (And.intro q7_0 (And.intro g0_0 (And.intro g4_0 (And.intro g8_0 (And.intro x0 (And.intro x4 x8))))))))))
 try simp [go_sem,seval,F0,hl]
 repeat first|intro _|refine ⟨eI,?_⟩
 refine aJ (fun h3=>?_) (fun h3=>?_)
 ·try simp [go_sem] at h3
  have tm:=dJ (show 0≤(i:Int) by omega) (show (0:Int)<64 by omega)
  have hil:i<(yZ k 0 g.nodes.length i).length:=by rw [hl];exact h3
  try simp [go_sem,seval,F0,hl,h3,aA hil,h3]
  repeat first|intro _|refine ⟨eI,?_⟩
  refine bY (i+1) (by omega) ((hI0 _ _ _).2 ⟨?_,?_,?_,?_,?_,?_,?_,?_,(by (simp [go_sem,F0,hl,h3,aA hil,h3,← MN h3,cK,Sz,cB])),?_,(by (simp [go_sem,F0,hl,h3,aA hil,h3])),?_,(by first|assumption|omega|(simp [go_sem,F0,hl,h3,aA hil,h3];done)|(simp_all<;>omega)),(by (exact xQ _ _ _ _))⟩)<;>first|omega|(simp [go_sem,seval,F0,hl,h3,aA hil,h3]<;>omega)
 ·try simp [go_sem] at h3
  have hI:i=g.nodes.length:=by omega
  subst hI
  have hN:=MO k 0 g.nodes.length
  rw [hN] at hl
  try simp [go_sem,seval,F0,hl,hN]
  obtain ⟨I2,hI2⟩:∃ I2:Nat→cY→AHeap→Prop,∀ (j:Nat) (e:cY) (H:AHeap),I2 j e H↔((e 2=.adr g.c)∧(e 1=.int .u64 (k.toNat:Int))∧(e 4=.ptr 0 1 0 0)∧(e 5=.own 4 g.nodes.length)∧(e 6=.own 8 g.edges.length)∧(e 8=dI j)∧(H.get 0=some ⟨55,2,[[.nil,.nil]],false⟩)∧(0<H.next)∧(H.get 4=some ⟨4,1,(DW k 0 g.nodes.length).map cB,false⟩)∧(4<H.next)∧(H.get 8=some ⟨4,1,(yZ k g.nodes.length g.edges.length j).map cB,false⟩)∧(8<H.next)∧(j≤g.edges.length)∧((yZ k g.nodes.length g.edges.length j).length=g.edges.length)):=⟨fun j e H=>_,fun _ _ _=>Iff.rfl⟩
  refine fZ I2 (fun j=>g.edges.length - j) (0) ((hI2 _ _ _).2 ⟨?_,?_,?_,?_,?_,?_,?_,?_,(by (simp [go_sem,F0,hl,hN])),?_,(by (simp [go_sem,F0,hl,hN,IY])),?_,(by first|assumption|omega|(simp [go_sem,F0,hl,hN];done)|(simp_all;done)),(by (exact xQ _ _ _ _))⟩) ?_
  iterate 10 (first|omega|(simp [go_sem,seval,F0,hl,hN]<;>omega))
  intro j e H hi2
  obtain ⟨q2_2,q1_2,q4_2,q5_2,q6_2,q8_2,g0_2,n0_2,g4_2,n4_2,g8_2,n8_2,hj,hm⟩:=(hI2 _ _ _).1 hi2
  have x0:=cG n0_2
  have x4:=cG n4_2
  have x8:=cG n8_2
  have F2:=And.intro q2_2 (And.intro q1_2 (And.intro q4_2 (And.intro q5_2 (And.intro q6_2 (And.intro q8_2 (And.intro g0_2 (And.intro g4_2 (And.intro g8_2 (And.intro x0 (And.intro x4 x8))))))))))
  try simp [go_sem,seval,hl,hN,F2,hm]
  repeat first|intro _|refine ⟨eI,?_⟩
  refine aJ (fun h7=>?_) (fun h7=>?_)
  ·try simp [go_sem] at h7
   have tm:=dJ (show 0≤(g.nodes.length:Int)+(j:Int) by omega) (show (0:Int)<64 by omega)
   have hjl:j<(yZ k g.nodes.length g.edges.length j).length:=by rw [hm];exact h7
   try simp [go_sem,seval,hl,hN,F2,hm,h7,aA hjl,h7]
   repeat first|intro _|refine ⟨eI,?_⟩
   refine bY (j+1) (by omega) ((hI2 _ _ _).2 ⟨?_,?_,?_,?_,?_,?_,?_,?_,(by (simp [go_sem,hl,hN,F2,hm,h7,aA hjl,h7])),?_,(by (simp [go_sem,hl,hN,F2,hm,h7,aA hjl,h7,← MN h7,cK,Sz,cB])),?_,(by first|assumption|omega|(simp [go_sem,hl,hN,F2,hm,h7,aA hjl,h7,h3];done)|(simp_all<;>omega)),(by (exact xQ _ _ _ _))⟩)<;>first|omega|(simp [go_sem,seval,hl,hN,F2,hm,h7,aA hjl,h7]<;>omega)
  ·try simp [go_sem] at h7
   have hJ:j=g.edges.length:=by omega
   subst hJ
   have hE:=MO k g.nodes.length g.edges.length
   rw [hE] at hm
   try simp [go_sem,seval,hl,hN,F2,hm,hE]
   refine sF (Lx g hn he hin (DW k 0 g.nodes.length) (DW k g.nodes.length g.edges.length) (by simp [DW]) (by simp [DW])) (by (simp [go_sem,hl,hN,F2,hm,hE])<;>rfl) ((by first|rfl|(simp [go_sem,← List.map_take,← List.map_drop,hl,hN,F2,hm,hE];done))) (by (simp [go_sem,hl,hN,F2,hm,hE])<;>rfl) ?_
   try simp [go_sem,seval,hl,hN,F2,hm,hE]
   exact hQ _ _ (by first|(left;(simp [go_sem,hl,hN,F2,hm,hE,w6]);done)|(right;(simp [go_sem,hl,hN,F2,hm,hE,w6]);done))
def CK (t:Types)(ns:List Int)(k:Int)(i:Nat):Bool:=mem (t.line (ns[i]?.getD 0).toNat) k
def s4 (t:Types)(ns:List Int)(k:Int):List Int:=((List.range ns.length).filter (CK t ns k)).map fun (i:Nat)=>(i:Int)
theorem C6 (t:Types)(hv:t.valid)(g:Graph)(hn:g.nodes.length≤100000)(hgn:∀ a∈g.nodes,0≤a∧a<t.nodes.length)(k:Int)(hk:0≤k):Own Tryz.prog 338 [t.d,g.d,dI k] 3 1 ((s4 t g.nodes k).map cI):=by
 refine Tz.oK ⟨fun t=>t==7,fun _=>[]⟩ Tryz.func338 rfl (fun Q hQ=>?_)
 have Y:=trivial
 refine wv (h:=bG (fun i e H=>∃ ys:List Int,(e 3=.adr t.c∧e 4=.adr g.c∧e 2=dI k∧e 7=.own 0 ys.length∧e 8=dI i)∧(H.get 0=some ⟨3,1,ys.map cI,false⟩)∧(0<H.next)∧(i≤g.nodes.length)∧(ys.length≤i)∧(ys=((List.range i).filter (CK t g.nodes k)).map (fun (b:Nat)=>(b:Int)))) (fun i=>g.nodes.length - i) 0 ⟨([]),wg,wn,wn,wi,(by simp),(by rfl)⟩ fun I0 hI0 i e H hi0=>?_)
 obtain ⟨ys,E0,g0_0,n0_0,hi,hyl,hy⟩:=hi0
 have Y:=wa Y (wa E0 (wa g0_0 (cG n0_0)))
 refine eJ (fun h3=>?_) fun h3=>?_
 ·have hx:=hgn _ (aB h3)
  have hnn:((g.nodes[i].toNat:Nat):Int)=g.nodes[i]:=by omega
  have hab:CK t g.nodes k i=mem (t.line g.nodes[i].toNat) k:=by simp [CK,aA h3]
  have Y:=wa Y (wa h3 (wa (aA h3) hab))
  refine wo (h:=aM ((by have hb:=pL t hv k hk g.nodes[i].toNat (by omega);rw [hnn] at hb;exact hb)) wl ?_)
  refine eJ (fun h5=>?_) fun h5=>?_
  ·have Y:=wa Y h5
   exact wo (h:=wx hI0 (i+1) ⟨(ys++(if CK t g.nodes k i=true then [(i:Int)] else [])),wg,wn,wn,wj,(by (rw [aG];split<;>simp<;>omega)),(by (rw [bN,← hy]))⟩)
  ·have Y:=wa Y h5
   exact wo (h:=wx hI0 (i+1) ⟨(ys++(if CK t g.nodes k i=true then [(i:Int)] else [])),wg,wn,wn,wj,(by (rw [aG];split<;>simp<;>omega)),(by (rw [bN,← hy]))⟩)
 ·have hY:s4 t g.nodes k=ys:=by rw [hy,show i=g.nodes.length by omega];rfl
  refine wv (h:=?_)
  exact hQ _ _ _ (by simp [go_sem,Y,hY]) (by simp [go_sem,Y,hY])
end Go.Abs
end
