/- Layer 21: patterns. · Layer 21, the reference: patterns. · D -/
import Derived.Test.YtiklfilfhnfagaaGreatZfG
import Derived.Test.YtiklfilfhnfagaaGreatZfA
import Derived.Test.YtiklfilfhnfagaaGreatZfH
import Derived.Test.YtiklfilfhnfagaaGreatZfF
import Derived.Ground.NamesProg
import Derived.Ground.Names2Prog
import Derived.Ground.SlsfProg
import Derived.Shelf.Sort.Plain
import Derived.Shelf.Slices.CompactI
import Derived.Shelf.Slices.In.SortNone
import Derived.Shelf.SlSortCmp.NoneTotal
import Derived.Test.YtiklfilfhnfagaaGreatProg
set_option linter.unusedVariables false
set_option linter.unusedSimpArgs false
section
set_option maxRecDepth 100000
set_option maxHeartbeats 4000000
open Go Go.Proofs
namespace Go.Abs
def cB (b:Bool):List D:=[.bool b]
@[go_sem] theorem Xs (l:List Bool):D.clLL (l.map cB)=true:=cE cB (fun _=>rfl) l
attribute [go_sem] cB
theorem Mo (xs:List Bool)(v:Bool):Pure Tryz.prog 192 [.list (xs.map cB),.bool v] (dI (KF xs v)):=by
 refine Tz.pK ⟨fun _=>false,fun _=>[]⟩ Tryz.func192 rfl (fun Q hQ=>?_)
 have Y:=trivial
 refine wv (h:=?_)
 repeat first|intro _|refine ⟨oW,?_⟩
 refine cD (fun i e H=>(e 0=.list (xs.map cB)∧e 1=.bool v∧e 7=dI xs.length∧e 8=dI i)∧(i≤xs.length)∧(∀ j,j<i→xs[j]?≠some v)) (fun i=>xs.length - i) 0 ⟨wg,wi,(by intro j hj;omega)⟩ fun I0 hI0 i e H hi0=>?_
 obtain ⟨E0,hi,hne⟩:=hi0
 have Y:=wa Y E0
 refine dU (fun h2=>?_) fun h2=>?_
 ·have Y:=wa Y h2
  refine wv (h:=?_)
  repeat first|intro _|refine ⟨oW,?_⟩
  refine wq (fun h4=>?_) fun h4=>?_
  ·exact wv (h:=hQ _ _ (by rw [xE hne (by rw [aA h2,h4])];simp [go_sem]))
  ·refine wv (h:=?_)
   repeat first|intro _|refine ⟨oW,?_⟩
   exact wx hI0 (i+1) ⟨wg,wj,(by (exact Ln hne (by rw [aA h2];simpa using fun h=>h4 h.symm)))⟩
 ·exact wv (h:=hQ _ _ (by rw [Fg fun j hj=>hne j (by omega)];simp [go_sem]))
theorem GC (xs:List Bool)(v:Bool):Pure Tryz.prog 160 [.list (xs.map cB),.bool v] (.bool (mem xs v)):=by
 refine Tz.pK ⟨fun _=>false,fun _=>[]⟩ Tryz.func160 rfl (fun Q hQ=>?_)
 have Y:=trivial
 refine wv (h:=aB (Mo xs v) wl ?_)
 have Y:=wa Y @mem.eq_1
 exact wv (h:=hQ _ _ wy)
def iL (t:Types)(g:Graph):Bool:=(!(g.nodes.any fun n=>decide ((t.nodes.length:Int)≤n)))&&!(g.edges.any fun x=>decide ((t.edges.length:Int)≤x.type))
theorem Ct (t:Types)(a:Int):Pure Tryz.prog 155 [dI a,.adr t.c] (.bool (decide ((t.nodes.length:Int)≤a))):=by
 refine Tz.pK ⟨fun _=>false,fun _=>[]⟩ Tryz.func155 rfl (fun Q hQ=>?_)
 have Y:=trivial
 exact wo (h:=hQ _ _ wy)
theorem Cs (t:Types)(x:Edge):Pure Tryz.prog 156 [.agg x.c,.adr t.c] (.bool (decide ((t.edges.length:Int)≤x.type))):=by
 refine Tz.pK ⟨fun _=>false,fun _=>[]⟩ Tryz.func156 rfl (fun Q hQ=>?_)
 have Y:=trivial
 exact wo (h:=hQ _ _ wy)
def kG (n:Nat)(l:List Slot):List Bool:=(List.range n).map fun (v:Nat)=>l.any fun s=>decide (s.term.var=v)
theorem BA (n:Nat)(l:List Slot):(kG n l).length=n:=by simp [kG]
theorem Oj (n:Nat):kG n []=List.replicate n false:=by
 apply fS (by simp [kG]);intro i h1 h2;simp [kG]
theorem Oi (n:Nat)(l:List Slot)(s:Slot)(h0:0≤s.term.var)(h1:s.term.var<n):kG n (l++[s])=(kG n l).set s.term.var.toNat true:=by
 apply fS (by simp [kG]);intro i h2 h3
 rw [yS]
 simp only [kG,rM,oD,s6,List.any_cons,List.any_nil,s8]
 split
 ·rename_i h;rw [cK];right;simp;omega
 ·rename_i h;rw [show decide (s.term.var=(i:Int))=false by simp;omega,s8]
theorem Ok (n:Nat)(l:List Slot)(s:Slot)(h0:¬ 0≤s.term.var):kG n (l++[s])=kG n l:=by
 apply fS (by simp [kG]);intro i h2 h3
 simp only [kG,rM,oD,s6,List.any_cons,List.any_nil,s8]
 rw [show decide (s.term.var=(i:Int))=false by simp;omega,s8]
theorem LE (n:Nat)(l:List Slot)(s:Slot)(h1:s.term.var<n):kG n (l++[s])=if 0≤s.term.var then (kG n l).set s.term.var.toNat true else kG n l:=by
 split
 ·exact Oi n l s ‹_› h1
 ·exact Ok n l s ‹_›
def kH (t:Types)(p:Pattern)(s:Slot):Int:=if (pV t p s.node s.attr&&inF s.term.var (-1) (p.vars - 1)&&inF s.term.add (-1000000) 1000000)=true then 0 else 6
def dG (t:Types)(p:Pattern):Int :=
 if (cJ t).2≠0 then (cJ t).2
 else if graphF p.graph≠0 then graphF p.graph
 else if iL t p.graph=false then 13
 else if inF p.vars 0 12=false then 6
 else if 10<p.slots.length∨10<p.tests.length then 3
 else if jD (kH t p) p.slots≠0 then 6
 else if oJ p.vars p.tests≠0 then oJ p.vars p.tests
 else if mem (kG p.vars.toNat p.slots) false=true then 9 else 0
theorem c9 {g:Graph}(h:graphF g=0):g.nodes.length≤40∧g.edges.length≤80:=by
 unfold graphF at h
 split at h
 ·cases h
 ·omega
theorem Qh {t:Types}{p:Pattern}{s:Slot}(h:kH t p s=0):s.term.var<p.vars∧-1≤s.term.var:=by
 unfold kH at h
 split at h
 ·rename_i h1;simp [inF] at h1;omega
 ·cases h
theorem mS (t:Types)(ht:t.ok)(p:Pattern):Pure Tryz.prog 122 [t.d,p.d] (dI (dG t p)):=by
 refine Tz.pK ⟨fun t=>t==10||t==11,fun _=>[]⟩ Tryz.func122 rfl (fun Q hQ=>?_)
 have Y:=trivial
 refine wv (h:=aB (kZ t ht) wl ?_)
 refine dU (fun h2=>?_) fun h2=>?_
 ·exact wv (h:=hQ _ _ (by simp [go_sem,dG,h2]))
 ·refine wv (h:=aB (lM p.graph) wl ?_)
  refine dU (fun h5=>?_) fun h5=>?_
  ·exact wv (h:=hQ _ _ (by simp [go_sem,dG,h2,h5]))
  ·have hg:=c9 h5
   refine wo (h:=aB (fO p.graph.nodes 155 [.adr t.c] (fun a=>decide ((t.nodes.length:Int)≤a)) (by simp [go_sem]) (by simp [go_sem]) (fun a _=>Ct t a)) wl ?_)
   refine wo (h:=bD (fun hg=>kB p.graph.edges 156 [.adr t.c] (fun x=>decide ((t.edges.length:Int)≤x.type)) (by simp [go_sem]) (by simp [go_sem]) (fun x _=>Cs t x)) (fun hg=>wl) ?_)
   refine mP (fun h7=>?_) fun h7=>?_
   ·have hT:iL t p.graph=false:=by
     simp [iL]
     intro h'
     rcases h7 with ⟨x,hx,hl⟩|h
     ·exact absurd (h' x hx) (by omega)
     ·exact h
    exact wv (h:=hQ _ _ (by simp [go_sem,dG,h2,h5,hT]))
   ·have hT:iL t p.graph=true:=by simp [iL];exact h7
    refine wo (h:=aB (iP _ _ _) wl ?_)
    refine mP (fun h9=>?_) fun h9=>?_
    ·exact wv (h:=hQ _ _ (by simp [go_sem,dG,h2,h5,hT,h9]))
    ·refine mP (fun h11=>?_) fun h11=>?_
     ·exact wv (h:=hQ _ _ (by simp [go_sem,dG,h2,h5,hT,h9];omega))
     ·have hin:=h9
      simp [inF] at hin
      have hF0:dG t p=if jD (kH t p) p.slots≠0 then 6 else if oJ p.vars p.tests≠0 then oJ p.vars p.tests else if mem (kG p.vars.toNat p.slots) false=true then 9 else 0:=by
       unfold dG
       rw [if_neg (by simp [h2]),if_neg (by simp [h5]),if_neg (by simp [hT]),if_neg (by simp [h9]),if_neg (by omega)]
      refine wo (h:=cD (fun i e H=>(e 2=.adr t.c∧e 3=.adr p.c∧e 8=.own 0 p.vars.toNat∧e 58=.list (p.slots.map Slot.c)∧e 59=dI p.slots.length∧e 60=dI i)∧(H.get 0=some ⟨4,1,(kG p.vars.toNat (p.slots.take i)).map cB,false⟩)∧(0<H.next)∧(i≤p.slots.length)∧(jD (kH t p) (p.slots.drop i)=jD (kH t p) p.slots)) (fun i=>p.slots.length - i) 0 ⟨wg,(by (simp [go_sem,Oj])),wn,wi,(by rfl)⟩ fun I0 hI0 i e H hi0=>?_)
      obtain ⟨E0,g0_0,n0_0,hi,hL⟩:=hi0
      have Y:=wa Y (wa E0 (wa g0_0 (wa (cO n0_0) @BA)))
      refine dU (fun h15=>?_) fun h15=>?_
      ·have hst:=qX (kH t p) h15
       have hts:=aG h15
       have Y:=wa Y h15
       refine wo (h:=aB (FU t ht p (by omega) p.slots[i]) wl ?_)
       refine wo (h:=bD (fun hg=>iP _ _ _) (fun hg=>wl) ?_)
       refine wo (h:=bD (fun hg=>iP _ _ _) (fun hg=>wl) ?_)
       refine wo (h:=aP (fun h18=>?_) (fun h18=>?_))
       ·skip
        have hs6:kH t p p.slots[i]=6:=by unfold kH;rw [if_neg];revert h18;cases pV t p p.slots[i].node p.slots[i].attr<;>cases inF p.slots[i].term.var (-1) (p.vars - 1)<;>cases inF p.slots[i].term.add (-1000000) 1000000<;>simp
        rw [hs6,if_pos (by simp),hL] at hst
        exact wv (h:=hQ _ _ (by simp [go_sem,hF0,hst]))
       ·skip
        have hs0:kH t p p.slots[i]=0:=by unfold kH;rw [if_pos];revert h18;cases pV t p p.slots[i].node p.slots[i].attr<;>cases inF p.slots[i].term.var (-1) (p.vars - 1)<;>cases inF p.slots[i].term.add (-1000000) 1000000<;>simp
        rw [hs0,if_neg (by simp),hL] at hst
        have hlt:=Qh hs0
        have hus:=LE p.vars.toNat (p.slots.take i) p.slots[i] (by omega)
        refine dU (fun h20=>?_) fun h20=>?_
        ·have hfin:kG p.vars.toNat (p.slots.take (i+1))=(kG p.vars.toNat (p.slots.take i)).set p.slots[i].term.var.toNat true:=by rw [hts,hus,if_pos (by omega)]
         have hvl:p.slots[i].term.var.toNat<(kG p.vars.toNat (p.slots.take i)).length:=by rw [BA];omega
         have Y:=wa Y (aA hvl)
         exact wo (h:=wx hI0 (i+1) ⟨wg,(by (simp [go_sem,Y,eF,hfin])),wn,wj,(by (exact hst.symm))⟩)
        ·have hfin:kG p.vars.toNat (p.slots.take (i+1))=kG p.vars.toNat (p.slots.take i):=by rw [hts,hus,if_neg (by omega)]
         exact wo (h:=wx hI0 (i+1) ⟨wg,(by (simp [go_sem,Y,eF,hfin])),wn,wj,(by (exact hst.symm))⟩)
      ·have hU:List.take i p.slots=p.slots:=aK (by omega)
       have hz:jD (kH t p) p.slots=0:=by rw [← hL,tO _ (by omega)]
       rw [hU] at g0_0
       rw [if_neg (by simp [hz])] at hF0
       have Y:=wa E0 (wa g0_0 (wa (cO n0_0) @BA))
       refine wv (h:=aB (Cg p.vars p.tests) wl ?_)
       refine dU (fun h24=>?_) fun h24=>?_
       ·exact wv (h:=hQ _ _ (by rw [hF0,if_pos (by simpa using h24)];simp [go_sem]))
       ·refine wv (h:=iC (GC (kG p.vars.toNat p.slots) false) wr wl rfl ?_)
        refine dU (fun h26=>?_) fun h26=>?_
        ·exact wv (h:=hQ _ _ (by rw [hF0,if_neg (by simpa using h24),if_pos h26];simp [go_sem]))
        ·exact wv (h:=hQ _ _ (by rw [hF0,if_neg (by simpa using h24),if_neg (by simp [h26])];simp [go_sem]))
def Ce (t:Types)(x:Edge):Bool:=decide (0≤x.type)&&decide (x.type<t.edges.length)
def rU (t:Types)(g:Graph):Bool:=(!(g.nodes.any fun a=>!insideF t a))&&!(g.edges.any fun x=>!Ce t x)
theorem gA {g:Graph}(h:graphF g=0):(∀ a∈g.nodes,0≤a∧a≤99)∧∀ x∈g.edges,(0≤x.type∧x.type≤99)∧(0≤x.from_∧x.from_<g.nodes.length)∧(0≤x.to_∧x.to_<g.nodes.length):=by
 unfold graphF at h
 split at h
 ·cases h
 ·split at h
  ·cases h
  ·rename_i h1
   split at h
   ·cases h
   ·rename_i h2
    simp [kQ,CZ] at h1 h2
    refine ⟨h1,fun x hx=>?_⟩
    have:=h2 x hx
    omega
def yD (p:Pattern)(v:Int):Bool:=p.slots.any fun s=>decide (s.term.var=v)
end Go.Abs
end
section
namespace Go.Proofs
open Go.Shelf
def Tryz.laysSort_ren:Go.Shelf.Ren:=⟨fun|189=>135|125=>47|257=>174|128=>83|129=>84|294=>209|295=>210|296=>211|297=>212|298=>213|299=>214|216=>188|300=>215|301=>216|328=>237|329=>118|330=>119|331=>238|332=>239|215=>74|343=>250|n=>n,fun|28=>31|3=>3|46=>89|0=>0|51=>126|53=>129|4=>4|183=>164|182=>163|131=>168|5=>5|9=>9|218=>206|222=>210|228=>263|229=>264|n=>n,fun|n=>n⟩
theorem Tryz.laysSort:Go.Proofs.Lays.n189 Tryz.prog Tryz.laysSort_ren:={
 mixed:=by kernel_rfl
 f125:=Tryz.func47.trans (congrArg some (by kernel_rfl))
 f128:=Tryz.func83.trans (congrArg some (by kernel_rfl))
 f129:=Tryz.func84.trans (congrArg some (by kernel_rfl))
 f189:=Tryz.func135.trans (congrArg some (by kernel_rfl))
 f215:=Tryz.func74.trans (congrArg some (by kernel_rfl))
 f216:=Tryz.func188.trans (congrArg some (by kernel_rfl))
 f257:=Tryz.func174.trans (congrArg some (by kernel_rfl))
 f294:=Tryz.func209.trans (congrArg some (by kernel_rfl))
 f295:=Tryz.func210.trans (congrArg some (by kernel_rfl))
 f296:=Tryz.func211.trans (congrArg some (by kernel_rfl))
 f297:=Tryz.func212.trans (congrArg some (by kernel_rfl))
 f298:=Tryz.func213.trans (congrArg some (by kernel_rfl))
 f299:=Tryz.func214.trans (congrArg some (by kernel_rfl))
 f300:=Tryz.func215.trans (congrArg some (by kernel_rfl))
 f301:=Tryz.func216.trans (congrArg some (by kernel_rfl))
 f328:=Tryz.func237.trans (congrArg some (by kernel_rfl))
 f329:=Tryz.func118.trans (congrArg some (by kernel_rfl))
 f330:=Tryz.func119.trans (congrArg some (by kernel_rfl))
 f331:=Tryz.func238.trans (congrArg some (by kernel_rfl))
 f332:=Tryz.func239.trans (congrArg some (by kernel_rfl))
 f343:=Tryz.func250.trans (congrArg some (by kernel_rfl))
 t0:=Tryz.underlying0
 a0:=Tryz.isAgg0
 z0:=Tryz.sizeOf0
 v0:=Tryz.zeroValue0
 t3:=Tryz.underlying3
 a3:=Tryz.isAgg3
 z3:=Tryz.sizeOf3
 v3:=Tryz.zeroValue3
 t4:=Tryz.underlying4
 a4:=Tryz.isAgg4
 z4:=Tryz.sizeOf4
 v4:=Tryz.zeroValue4
 t5:=Tryz.underlying5
 a5:=Tryz.isAgg5
 z5:=Tryz.sizeOf5
 v5:=Tryz.zeroValue5
 t9:=Tryz.underlying9
 a9:=Tryz.isAgg9
 z9:=Tryz.sizeOf9
 v9:=Tryz.zeroValue9
 t28:=Tryz.underlying31
 a28:=Tryz.isAgg31
 z28:=Tryz.sizeOf31
 v28:=Tryz.zeroValue31
 t46:=Tryz.underlying89
 a46:=Tryz.isAgg89
 z46:=Tryz.sizeOf89
 v46:=Tryz.zeroValue89
 t51:=Tryz.underlying126
 a51:=Tryz.isAgg126
 z51:=Tryz.sizeOf126
 v51:=Tryz.zeroValue126
 t53:=Tryz.underlying129
 a53:=Tryz.isAgg129
 z53:=Tryz.sizeOf129
 v53:=Tryz.zeroValue129
 t131:=Tryz.underlying168
 a131:=Tryz.isAgg168
 z131:=Tryz.sizeOf168
 v131:=Tryz.zeroValue168
 t182:=Tryz.underlying163
 a182:=Tryz.isAgg163
 z182:=Tryz.sizeOf163
 v182:=Tryz.zeroValue163
 t183:=Tryz.underlying164
 a183:=Tryz.isAgg164
 z183:=Tryz.sizeOf164
 v183:=Tryz.zeroValue164
 t218:=Tryz.underlying206
 a218:=Tryz.isAgg206
 z218:=Tryz.sizeOf206
 v218:=Tryz.zeroValue206
 t222:=Tryz.underlying210
 a222:=Tryz.isAgg210
 z222:=Tryz.sizeOf210
 v222:=Tryz.zeroValue210
 t228:=Tryz.underlying263
 a228:=Tryz.isAgg263
 z228:=Tryz.sizeOf263
 v228:=Tryz.zeroValue263
 t229:=Tryz.underlying264
 a229:=Tryz.isAgg264
 z229:=Tryz.sizeOf264
 v229:=Tryz.zeroValue264 }
def Tryz.laysCompact_ren:Go.Shelf.Ren:=⟨fun|20=>223|n=>n,fun|22=>31|3=>3|4=>4|0=>0|n=>n,fun|n=>n⟩
theorem Tryz.laysCompact:Go.Proofs.Lays2.n20 Tryz.prog Tryz.laysCompact_ren:={
 mixed:=by kernel_rfl
 f20:=Tryz.func223.trans (congrArg some (by kernel_rfl))
 t0:=Tryz.underlying0
 a0:=Tryz.isAgg0
 z0:=Tryz.sizeOf0
 v0:=Tryz.zeroValue0
 t3:=Tryz.underlying3
 a3:=Tryz.isAgg3
 z3:=Tryz.sizeOf3
 v3:=Tryz.zeroValue3
 t4:=Tryz.underlying4
 a4:=Tryz.isAgg4
 z4:=Tryz.sizeOf4
 v4:=Tryz.zeroValue4
 t22:=Tryz.underlying31
 a22:=Tryz.isAgg31
 z22:=Tryz.sizeOf31
 v22:=Tryz.zeroValue31
 i3:=by kernel_rfl }
def Tryz.laysSortF_ren:Go.Shelf.Ren:=⟨fun|6=>27|15=>47|14=>46|28=>83|29=>84|20=>75|21=>76|22=>77|23=>78|24=>79|25=>80|26=>81|27=>82|46=>117|47=>118|48=>119|49=>120|50=>121|57=>154|n=>n,fun|22=>26|24=>37|25=>82|3=>3|39=>89|0=>0|53=>126|55=>129|4=>4|46=>164|45=>163|50=>168|5=>5|9=>9|66=>206|70=>210|76=>263|77=>264|n=>n,fun|n=>n⟩
theorem Tryz.laysSortF:Go.Proofs.SlLaysF0.n6 Tryz.prog Tryz.laysSortF_ren:={
 mixed:=by kernel_rfl
 f6:=⟨Tryz.f27.name,by decide,Tryz.func27.trans (congrArg some (by kernel_rfl))⟩
 f14:=⟨Tryz.f46.name,by decide,Tryz.func46.trans (congrArg some (by kernel_rfl))⟩
 f15:=Tryz.func47.trans (congrArg some (by kernel_rfl))
 f20:=⟨Tryz.f75.name,by decide,Tryz.func75.trans (congrArg some (by kernel_rfl))⟩
 f21:=⟨Tryz.f76.name,by decide,Tryz.func76.trans (congrArg some (by kernel_rfl))⟩
 f22:=⟨Tryz.f77.name,by decide,Tryz.func77.trans (congrArg some (by kernel_rfl))⟩
 f23:=⟨Tryz.f78.name,by decide,Tryz.func78.trans (congrArg some (by kernel_rfl))⟩
 f24:=⟨Tryz.f79.name,by decide,Tryz.func79.trans (congrArg some (by kernel_rfl))⟩
 f25:=⟨Tryz.f80.name,by decide,Tryz.func80.trans (congrArg some (by kernel_rfl))⟩
 f26:=⟨Tryz.f81.name,by decide,Tryz.func81.trans (congrArg some (by kernel_rfl))⟩
 f27:=⟨Tryz.f82.name,by decide,Tryz.func82.trans (congrArg some (by kernel_rfl))⟩
 f28:=Tryz.func83.trans (congrArg some (by kernel_rfl))
 f29:=Tryz.func84.trans (congrArg some (by kernel_rfl))
 f46:=⟨Tryz.f117.name,by decide,Tryz.func117.trans (congrArg some (by kernel_rfl))⟩
 f47:=Tryz.func118.trans (congrArg some (by kernel_rfl))
 f48:=Tryz.func119.trans (congrArg some (by kernel_rfl))
 f49:=⟨Tryz.f120.name,by decide,Tryz.func120.trans (congrArg some (by kernel_rfl))⟩
 f50:=⟨Tryz.f121.name,by decide,Tryz.func121.trans (congrArg some (by kernel_rfl))⟩
 f57:=⟨Tryz.f154.name,by decide,Tryz.func154.trans (congrArg some (by kernel_rfl))⟩
 t0:=Tryz.underlying0
 a0:=Tryz.isAgg0
 z0:=Tryz.sizeOf0
 v0:=Tryz.zeroValue0
 t3:=Tryz.underlying3
 a3:=Tryz.isAgg3
 z3:=Tryz.sizeOf3
 v3:=Tryz.zeroValue3
 t4:=Tryz.underlying4
 a4:=Tryz.isAgg4
 z4:=Tryz.sizeOf4
 v4:=Tryz.zeroValue4
 t5:=Tryz.underlying5
 a5:=Tryz.isAgg5
 z5:=Tryz.sizeOf5
 v5:=Tryz.zeroValue5
 t9:=Tryz.underlying9
 a9:=Tryz.isAgg9
 z9:=Tryz.sizeOf9
 v9:=Tryz.zeroValue9
 t22:=Tryz.underlying26
 a22:=Tryz.isAgg26
 z22:=Tryz.sizeOf26
 v22:=Tryz.zeroValue26
 t25:=Tryz.underlying82
 a25:=Tryz.isAgg82
 z25:=Tryz.sizeOf82
 v25:=Tryz.zeroValue82
 t39:=Tryz.underlying89
 a39:=Tryz.isAgg89
 z39:=Tryz.sizeOf89
 v39:=Tryz.zeroValue89
 t45:=Tryz.underlying163
 a45:=Tryz.isAgg163
 z45:=Tryz.sizeOf163
 v45:=Tryz.zeroValue163
 t46:=Tryz.underlying164
 a46:=Tryz.isAgg164
 z46:=Tryz.sizeOf164
 v46:=Tryz.zeroValue164
 t50:=Tryz.underlying168
 a50:=Tryz.isAgg168
 z50:=Tryz.sizeOf168
 v50:=Tryz.zeroValue168
 t53:=Tryz.underlying126
 a53:=Tryz.isAgg126
 z53:=Tryz.sizeOf126
 v53:=Tryz.zeroValue126
 t55:=Tryz.underlying129
 a55:=Tryz.isAgg129
 z55:=Tryz.sizeOf129
 v55:=Tryz.zeroValue129
 t66:=Tryz.underlying206
 a66:=Tryz.isAgg206
 z66:=Tryz.sizeOf206
 v66:=Tryz.zeroValue206
 t70:=Tryz.underlying210
 a70:=Tryz.isAgg210
 z70:=Tryz.sizeOf210
 v70:=Tryz.zeroValue210
 t76:=Tryz.underlying263
 a76:=Tryz.isAgg263
 z76:=Tryz.sizeOf263
 v76:=Tryz.zeroValue263
 t77:=Tryz.underlying264
 a77:=Tryz.isAgg264
 z77:=Tryz.sizeOf264
 v77:=Tryz.zeroValue264 }
end Go.Proofs
end
section
set_option maxRecDepth 4000
open Go Go.Proofs Go.Shelf
namespace Go.Abs
def nO (xs:List Int):List Int:=xs.mergeSort fun x y=>decide (x≤y)
theorem jN (xs:List Int):(nO xs).length=xs.length:=List.length_mergeSort xs
theorem Eb {G:AHeap}{id:Nat}{ty:TypeId}{xs:List Int}{Q:D→AHeap→Prop}(hg:G.get id=some ⟨ty,1,xs.map cI,false⟩)(hl:xs.length≤1000000)
  (hQ:Q (.tup []) (G.put id ⟨ty,1,(nO xs).map cI,false⟩)):ACalls Tryz.prog 135 [.own id xs.length] G Q:=by
 refine Lr ⟨Tryz.f135,Tryz.func135,rfl,rfl⟩ hg (jN xs) (fun w v hrow=>?_) hQ
 rcases hrow.2 with ⟨rfl,h0⟩|⟨g,cap,cur,rfl,hb,hblk,hnc,hcm,hcs,htk⟩
 ·have hx:xs=[]:=aV h0
  subst hx
  exact (Any.slices_Sort_int_none Tryz.laysSort none 0 w).mono fun e w' ⟨he,hw⟩=>by
   subst hw
   exact ⟨he,⟨rfl,rfl,rfl,aL _,fun _ _ _=>rfl⟩,by simpa [Dy,nO] using hrow⟩
 ·have hH:Sort.Holds (Value.int .i64) w g 0 xs.toArray:=holds_of_blockI hblk (by simpa using htk)
  refine (Any.slices_Sort_int Tryz.laysSort g 0 cap xs w hH (kT.1 hblk).1 (by omega)).mono fun e w' ⟨he,n,os,hw⟩=>?_
  subst hw
  refine ⟨he,grownBy_sortedI _,?_⟩
  have:=ownsRow_sortedI (n:=n) (os:=os) (ts:=nO xs) (jN xs) hb hblk hnc hcm (by simpa using hcs)
  unfold Dy
  rw [jN]
  exact this
theorem FD (zs:List Int):(Lib.compact zs).length≤zs.length:=by
 unfold Lib.compact Lib.compactUpTo
 rw [bM]
 exact cQ (fJ _ _) (by simp)
theorem C4 {G:AHeap}{id:Nat}{ty:TypeId}{xs:List Int}{Q:D→AHeap→Prop}(hg:G.get id=some ⟨ty,1,xs.map cI,false⟩)(hl:xs.length≤1000000)
  (hQ:∀ k,Q (.list ((Lib.compact xs).map cI)) (G.put id k)):ACalls Tryz.prog 223 [.own id xs.length] G Q:=by
 have hcl:=FD xs
 have hzl:(Lib.compact xs++List.replicate (xs.length - (Lib.compact xs).length) 0).length=xs.length:=by simp;omega
 refine Jg (zs:=Lib.compact xs++List.replicate (xs.length - (Lib.compact xs).length) 0) (m:=(Lib.compact xs).length) ⟨Tryz.f223,Tryz.func223,rfl,rfl⟩ hg hzl hcl (fun w v hrow=>?_) (by rw [List.take_left];exact hQ _)
 rcases hrow.2 with ⟨rfl,h0⟩|⟨g,cap,cur,rfl,hb,hblk,hnc,hcm,hcs,htk⟩
 ·have hx:xs=[]:=aV h0
  subst hx
  exact (Any.slices_Compact_int_empty Tryz.laysCompact none 0 w).mono fun e w' ⟨he,hw⟩=>by
   subst hw
   exact ⟨⟨_,he,.inl ⟨rfl,rfl⟩⟩,⟨rfl,rfl,rfl,aL _,fun _ _ _=>rfl⟩,by simpa [Dy,Lib.compact,Lib.compactUpTo] using hrow⟩
 ·have hH:Sort.Holds (Value.int .i64) w g 0 xs.toArray:=holds_of_blockI hblk (by simpa using htk)
  refine (Any.slices_Compact_int Tryz.laysCompact g 0 cap xs w hH (by omega) hnc).mono fun e w' ⟨he,q,hw⟩=>?_
  subst hw
  refine ⟨⟨_,he,.inr ⟨_,_,_,rfl,rfl⟩⟩,?_,?_⟩
  ·have:=grownBy_sortedI (w:=w) (g:=g) (n:=q) (os:=#[]) (Lib.compact xs++List.replicate (xs.length - (Lib.compact xs).length) 0).toArray
   rw [Sort.grow_empty] at this
   exact this
  ·have:=ownsRow_sortedI (n:=q) (os:=#[]) (ts:=Lib.compact xs++List.replicate (xs.length - (Lib.compact xs).length) 0) hzl hb hblk hnc hcm (by simpa using hcs)
   rw [Sort.grow_empty] at this
   unfold Dy
   rw [hzl]
   exact this
def imagesN (xs:List Int):Nat:=(Lib.compact (nO xs)).length
theorem vE (xs:List Int)(hl:xs.length≤1000000):Pure Tryz.prog 197 [dLI xs] (dI (imagesN xs)):=by
 have hlen:=jN xs
 refine Tz.pK ⟨fun _=>false,fun _=>[]⟩ Tryz.func197 rfl (fun Q hQ=>?_)
 have Y:=trivial
 refine wv (h:=kC (gM xs hl) wl ?_)
 refine wv (h:=?_)
 unfold dO;refine Eb (ty:=3) (xs:=xs) (by simp [go_sem]) hl ?_
 refine wo (h:=?_)
 unfold dO;rw [show xs.length=(nO xs).length from hlen.symm];refine C4 (ty:=3) (xs:=nO xs) (by simp [go_sem]) (by omega) fun k=>?_
 have Y:=wa Y @imagesN.eq_1
 exact wo (h:=hQ _ _ wy)
end Go.Abs
end
section
set_option maxRecDepth 100000
set_option maxHeartbeats 4000000
open Go Go.Proofs
namespace Go.Abs
theorem Ox (xs:List Int):(nO xs).Pairwise (·≤·):=by
 have:=List.pairwise_mergeSort (le:=fun (x y:Int)=>decide (x≤y)) (fun a b c h1 h2=>by simp at *;omega) (fun a b=>by simp;omega) xs
 exact this.imp fun h=>by simpa using h
theorem CW (xs:List Int):imagesN xs=xs.length↔xs.Nodup:=by
 have hp:(nO xs).Perm xs:=List.mergeSort_perm xs _
 rw [← hp.nodup_iff,← jN xs]
 unfold imagesN Lib.compact Lib.compactUpTo
 rw [bM]
 have hpw:=b6.1 (Ox xs)
 generalize nO xs=s at *
 have key:(List.filter (Lib.keeps s.toArray) (List.range s.length)).length=s.length↔∀ j,j<s.length→Lib.keeps s.toArray j=true:=by
  have:=List.length_filter_eq_length_iff (p:=Lib.keeps s.toArray) (l:=List.range s.length)
  rw [List.length_range] at this
  rw [this];simp
 rw [key]
 have hk:∀ j (hj:j<s.length),Lib.keeps s.toArray j=true↔(j=0∨s[j]≠s[j - 1]'(by omega)):=fun j hj=>by
  simp only [Lib.keeps,decide_eq_true_eq]
  rw [getElem!_pos _ j (by simpa using hj),getElem!_pos _ (j - 1) (by simp;omega)]
  simp
 constructor
 ·intro h
  rw [List.nodup_iff_pairwise_ne,b6]
  intro i j hi hj hij
  rcases (hk j hj).1 (h j hj) with h0|h0
  ·omega
  ·have h1:=hpw (j - 1) j (by omega) hj (by omega)
   by_cases hij':i=j - 1
   ·subst hij';omega
   ·have h2:=hpw i (j - 1) hi (by omega) (by omega)
    omega
 ·intro h j hj
  rw [hk j hj]
  by_cases h0:j=0
  ·exact .inl h0
  ·right
   intro he
   have:=(GP h).1 he
   omega
def cC:Edge:=⟨0,0,0⟩
def nQ (a b:Graph)(m:Part)(i:Nat):Int :=
 if m.nodes[i]?.getD 0<0∨(b.nodes.length:Int)≤m.nodes[i]?.getD 0 then 6
 else if b.nodes[(m.nodes[i]?.getD 0).toNat]?.getD 0≠a.nodes[i]?.getD 0 then 13 else 0
def l9 (a b:Graph)(m:Part)(i:Nat):Int :=
 if m.edges[i]?.getD 0<0∨(b.edges.length:Int)≤m.edges[i]?.getD 0 then 6
 else if (a.edges[i]?.getD cC).type≠(b.edges[(m.edges[i]?.getD 0).toNat]?.getD cC).type then 13
 else if m.nodes[(a.edges[i]?.getD cC).from_.toNat]?.getD 0≠(b.edges[(m.edges[i]?.getD 0).toNat]?.getD cC).from_∨m.nodes[(a.edges[i]?.getD cC).to_.toNat]?.getD 0≠(b.edges[(m.edges[i]?.getD 0).toNat]?.getD cC).to_ then 11 else 0
def fH (a b:Graph)(m:Part):Int :=
 if graphF a≠0 then graphF a
 else if graphF b≠0 then graphF b
 else if m.nodes.length≠a.nodes.length∨m.edges.length≠a.edges.length then 20
 else if bY (nQ a b m) 0 a.nodes.length≠0 then bY (nQ a b m) 0 a.nodes.length
 else bY (l9 a b m) 0 a.edges.length
theorem nP (a b:Graph)(m:Part):Pure Tryz.prog 164 [a.d,b.d,m.d] (dI (fH a b m)):=by
 refine Tz.pK ⟨fun t=>t==13||t==14,fun r=>match r with|22=>[(0,10),(1,10),(3,10),(4,10),(5,10),(6,10),(8,10),(9,10),(0,11),(1,11),(3,11),(4,11),(5,11),(6,11),(8,11),(9,11),(10,11),(5,12),(6,12),(8,12),(9,12)]|_=>[]⟩ Tryz.func164 rfl (fun Q hQ=>?_)
 have Y:=trivial
 refine wv (h:=aB (lM a) wl ?_)
 refine dU (fun h2=>?_) fun h2=>?_
 ·exact wv (h:=hQ _ _ (.inl (by simp [go_sem,fH,h2])))
 ·refine wv (h:=aB (lM b) wl ?_)
  refine dU (fun h5=>?_) fun h5=>?_
  ·exact wv (h:=hQ _ _ (.inl (by simp [go_sem,fH,h2,h5])))
  ·refine mP (fun h7=>?_) fun h7=>?_
   ·exact wv (h:=hQ _ _ (.inl (by simp [go_sem,fH,h2,h5,show m.nodes.length≠a.nodes.length∨m.edges.length≠a.edges.length by omega])))
   ·have hM:fH a b m=(if bY (nQ a b m) 0 a.nodes.length≠0 then bY (nQ a b m) 0 a.nodes.length else bY (l9 a b m) 0 a.edges.length):=by
     unfold fH;rw [if_neg (by simp [h2]),if_neg (by simp [h5]),if_neg (by omega)]
    have hga:=c9 h2
    have hgb:=c9 h5
    have hia:=(gA h2).2
    refine wo (h:=cD (fun i e H=>(e 3=.adr a.c∧e 4=.adr b.c∧e 5=.adr m.c∧e 42=dLI m.nodes∧e 43=dI m.nodes.length∧e 44=dI i)∧(i≤m.nodes.length)∧(bY (nQ a b m) i (a.nodes.length - i)=bY (nQ a b m) 0 a.nodes.length)) (fun i=>m.nodes.length - i) 0 ⟨wg,wi,(by rfl)⟩ fun I0 hI0 i e H hi0=>?_)
    obtain ⟨E0,hi,hF⟩:=hi0
    have Y:=wa Y E0
    refine dU (fun h10=>?_) fun h10=>?_
    ·have hn:i<a.nodes.length:=by omega
     have hst:=j6 (nQ a b m) hn
     rw [hF] at hst
     have hNE:nQ a b m i=(if m.nodes[i]<0∨(b.nodes.length:Int)≤m.nodes[i] then 6 else if b.nodes[m.nodes[i].toNat]?.getD 0≠a.nodes[i] then 13 else 0):=by simp only [nQ,aA h10,aA hn,aF]
     have Y:=wa Y (wa h10 hn)
     refine mP (fun h12=>?_) fun h12=>?_
     ·rw [if_pos (by omega)] at hNE
      rw [hNE,if_pos (by omega)] at hst
      exact wv (h:=hQ _ _ (.inl (by simp [go_sem,hM,hst])))
     ·have hkb:m.nodes[i].toNat<b.nodes.length:=by omega
      rw [if_neg (by omega),aA hkb,aF] at hNE
      have Y:=wa Y (aA hkb)
      refine mP (fun h14=>?_) fun h14=>?_
      ·rw [if_pos h14] at hNE
       rw [hNE,if_pos (by omega)] at hst
       exact wv (h:=hQ _ _ (.inl (by simp [go_sem,hM,hst])))
      ·rw [if_neg (by simpa using h14)] at hNE
       rw [hNE,if_neg (by omega)] at hst
       exact wo (h:=wx hI0 (i+1) ⟨wg,wj,(by exact hst.symm)⟩)
    ·have hN0:bY (nQ a b m) 0 a.nodes.length=0:=by rw [← hF,show a.nodes.length - i=0 by omega];rfl
     rw [hN0,if_neg (by omega)] at hM
     refine wo (h:=cD (fun k e H=>(e 3=.adr a.c∧e 4=.adr b.c∧e 5=.adr m.c∧e 71=dLI m.edges∧e 72=dI m.edges.length∧e 73=dI k)∧(k≤m.edges.length)∧(bY (l9 a b m) k (a.edges.length - k)=fH a b m)) (fun k=>m.edges.length - k) 0 ⟨wg,wi,(by (exact hM.symm))⟩ fun I2 hI2 k e H hi2=>?_)
     obtain ⟨E2,hk,hE⟩:=hi2
     have Y:=wa Y E2
     refine dU (fun h18=>?_) fun h18=>?_
     ·have hn:k<a.edges.length:=by omega
      have hst:=j6 (l9 a b m) hn
      rw [hE] at hst
      have hx:=hia _ (aC hn)
      have hxf:a.edges[k].from_.toNat<m.nodes.length:=by omega
      have hxt:a.edges[k].to_.toNat<m.nodes.length:=by omega
      have hEE:l9 a b m k=(if m.edges[k]<0∨(b.edges.length:Int)≤m.edges[k] then 6 else if a.edges[k].type≠(b.edges[m.edges[k].toNat]?.getD cC).type then 13 else if m.nodes[a.edges[k].from_.toNat]≠(b.edges[m.edges[k].toNat]?.getD cC).from_∨m.nodes[a.edges[k].to_.toNat]≠(b.edges[m.edges[k].toNat]?.getD cC).to_ then 11 else 0):=by
       simp only [l9,aA h18,aA hn,aF,aA hxf,aA hxt]
      have Y:=wa Y (wa h18 (wa hn (wa (aA hxf) (aA hxt))))
      refine mP (fun h20=>?_) fun h20=>?_
      ·rw [if_pos (by omega)] at hEE
       rw [hEE,if_pos (by omega)] at hst
       exact wv (h:=hQ _ _ (.inl (by simp [go_sem,← hst])))
      ·have hkb:m.edges[k].toNat<b.edges.length:=by omega
       rw [if_neg (by omega),aA hkb,aF] at hEE
       have Y:=wa Y (aA hkb)
       refine mP (fun h23=>?_) fun h23=>?_
       ·rw [if_pos h23] at hEE
        rw [hEE,if_pos (by omega)] at hst
        exact wv (h:=hQ _ _ (.inl (by simp [go_sem,← hst])))
       ·rw [if_neg (by simpa using h23)] at hEE
        refine mP (fun h25=>?_) fun h25=>?_
        ·rw [if_pos (by omega)] at hEE
         rw [hEE,if_pos (by omega)] at hst
         exact wv (h:=hQ _ _ (.inl (by simp [go_sem,← hst])))
        ·rw [if_neg (by omega)] at hEE
         rw [hEE,if_neg (by omega)] at hst
         exact wo (h:=wx hI2 (k+1) ⟨wg,wj,(by exact hst.symm)⟩)
     ·exact wv (h:=hQ _ _ (.inl (by rw [← hE,show a.edges.length - k=0 by omega];rfl)))
def KB (a b:Graph)(m:Part):Bool:=decide (fH a b m=0)&&(decide m.nodes.Nodup&&decide m.edges.Nodup)
theorem mW {a b:Graph}{m:Part}(h:fH a b m=0):graphF a=0∧graphF b=0∧m.nodes.length=a.nodes.length∧m.edges.length=a.edges.length:=by
 unfold fH at h
 split at h
 ·rename_i h1;exact absurd h h1
 ·rename_i h1
  split at h
  ·rename_i h2;exact absurd h h2
  ·rename_i h2
   split at h
   ·cases h
   ·omega
theorem Hm (xs:List Int):((imagesN xs:Int)==(xs.length:Int))=decide xs.Nodup:=by
 rw [bF]
 simp only [beq_iff_eq,decide_eq_true_eq]
 rw [← CW]
 omega
theorem qU (a b:Graph)(m:Part)(h1:m.nodes.length≤1000000)(h2:m.edges.length≤1000000):Pure Tryz.prog 165 [a.d,b.d,m.d] (.bool (KB a b m)):=by
 refine Tz.pK ⟨fun _=>false,fun _=>[]⟩ Tryz.func165 rfl (fun Q hQ=>?_)
 have Y:=@Hm
 refine wo (h:=bB (nP a b m) wl ?_)
 refine wo (h:=gW (fun hg=>vE m.nodes h1) (fun hg=>wl) ?_)
 refine wo (h:=gW (fun hg=>vE m.edges h2) (fun hg=>wl) ?_)
 exact wo (h:=hQ _ _ (by simp [go_sem,KB,Hm,Bool.and_assoc]))
def M4 (l:List Int)(n:Int)(i:Nat):Int :=
 if l[i]?.getD 0<0∨n≤l[i]?.getD 0 then 6 else if 0<i∧l[i]?.getD 0≤l[i - 1]?.getD 0 then 12 else 0
def GJ (l:List Int)(n:Int):Int:=bY (M4 l n) 0 l.length
theorem eJ {f:Nat→Int}:∀ (n k:Nat),bY f k n=0→∀ j,k≤j→j<k+n→f j=0
 | 0,k,_=>fun j h1 h2=>by omega
 | n+1,k,h=>fun j h1 h2=>by
  unfold bY at h
  split at h
  ·rename_i hne;exact absurd h hne
  ·rename_i hz
   rcases Nat.eq_or_lt_of_le h1 with h3|h3
   ·subst h3;exact bJ fun hne=>hz hne
   ·exact eJ n (k+1) h j h3 (by omega)
theorem FV {l : List Int} {n : Int} (h : GJ l n = 0) : (∀ x ∈ l, 0 ≤ x ∧ x < n) ∧ l.Pairwise (· < ·) := by
  have hz := eJ _ _ h
  have h1 : ∀ i (hi : i < l.length), (0 ≤ l[i] ∧ l[i] < n) ∧ (∀ h0 : 0 < i, l[i - 1] < l[i]) := fun i hi => by
    have := hz i (by omega) (by omega)
    unfold M4 at this
    rw [aA hi, aF] at this
    split at this
    · cases this
    · rename_i h2
      split at this
      · cases this
      · rename_i h3
        refine ⟨by omega, fun h0 => ?_⟩
        rw [aA (show i - 1 < l.length by omega), aF] at h3
        omega
  refine ⟨fun x hx => ?_, b6.2 fun i j hi hj hij => ?_⟩
  · obtain ⟨i, hi, rfl⟩ := aM hx; exact (h1 i hi).1
  · induction j with
    | zero => omega
    | succ j ih =>
      have h2 := (h1 (j + 1) hj).2 (by omega)
      simp only [Nat.add_sub_cancel] at h2
      rcases bQ i j with h3 | h3
      · have := ih (by omega) h3; omega
      · have : i = j := by omega
        subst this; exact h2
theorem y9 (l:List Int)(n:Int):Pure Tryz.prog 245 [dLI l,dI n] (dI (GJ l n)):=by
 refine Tz.pK ⟨fun _=>false,fun _=>[]⟩ Tryz.func245 rfl (fun Q hQ=>?_)
 have Y:=trivial
 refine wv (h:=?_)
 repeat first|intro _|refine ⟨oW,?_⟩
 refine cD (fun i e H=>(e 0=dLI l∧e 1=dI n∧e 7=dLI l∧e 8=dI l.length∧e 9=dI i)∧(i≤l.length)∧(bY (M4 l n) i (l.length - i)=GJ l n)) (fun i=>l.length - i) 0 ⟨wg,wi,(by rfl)⟩ fun I0 hI0 i e H hi0=>?_
 obtain ⟨E0,hi,hF⟩:=hi0
 have Y:=wa Y E0
 refine wv (h:=?_)
 refine wq (fun h2=>?_) fun h2=>?_
 ·have hst:=j6 (M4 l n) h2
  rw [hF] at hst
  have hA:M4 l n i=(if l[i]<0∨n≤l[i] then 6 else if 0<i∧l[i]≤l[i - 1]?.getD 0 then 12 else 0):=by simp only [M4,aA h2,aF]
  have hi1:i - 1<l.length:=by omega
  rw [aA hi1,aF] at hA
  have htn:((i:Int) - 1).toNat=i - 1:=by omega
  have Y:=wa Y (wa h2 (wa htn (aA hi1)))
  refine wv (h:=?_)
  repeat first|intro _|refine ⟨oW,?_⟩
  refine wq (fun h4=>?_) fun h4=>?_
  ·rw [if_pos (by omega)] at hA
   rw [hA,if_pos (by omega)] at hst
   refine wv (h:=?_)
   exact hQ _ _ (.inl (by simp [go_sem,hst]))
  ·rw [if_neg (by omega)] at hA
   refine wv (h:=?_)
   repeat first|intro _|refine ⟨oW,?_⟩
   refine wq (fun h6=>?_) fun h6=>?_
   ·rw [if_pos (by omega)] at hA
    rw [hA,if_pos (by omega)] at hst
    refine wv (h:=?_)
    exact hQ _ _ (.inl (by simp [go_sem,hst]))
   ·rw [if_neg (by omega)] at hA
    rw [hA,if_neg (by omega)] at hst
    refine wv (h:=?_)
    repeat first|intro _|refine ⟨oW,?_⟩
    exact wx hI0 (i+1) ⟨wg,wj,(by exact hst.symm)⟩
 ·refine wv (h:=?_)
  exact hQ _ _ (.inl (by rw [← hF,show l.length - i=0 by omega];rfl))
theorem pY (a:Int):Pure Tryz.prog 189 [dI a] (.bool false):=by
 refine Tz.pK ⟨fun _=>false,fun _=>[]⟩ Tryz.func189 rfl (fun Q hQ=>?_)
 have Y:=trivial
 exact wv (h:=hQ _ _ wy)
theorem yN (a:Int):Pure Tryz.prog 74 [dI a] (.bool false):=by
 refine Tz.pK ⟨fun _=>false,fun _=>[]⟩ Tryz.func74 rfl (fun Q hQ=>?_)
 have Y:=trivial
 exact wv (h:=hQ _ _ wy)
theorem Rg (a b:Int):Pure Tryz.prog 188 [dI a,dI b] (.bool (decide (a<b))):=by
 refine Tz.pK ⟨fun _=>false,fun _=>[]⟩ Tryz.func188 rfl (fun Q hQ=>?_)
 have Y:=trivial
 refine wo (h:=aB (yN a) wl ?_)
 refine wo (h:=bD (fun hg=>yN b) (fun hg=>wl) ?_)
 exact wo (h:=hQ _ _ wy)
def tJ (l:List Int)(v:Int):Nat:=(l.takeWhile fun y=>decide (y<v)).length
theorem Nw {l:List Int}{v:Int}{n:Nat}(h1:∀ j (hj:j<l.length),j<n→l[j]<v)(h2:n≤l.length)(h3:∀ hn:n<l.length,¬ l[n]<v):tJ l v=n :=
 sL _ l n (fun j x hj hx=>by
  obtain ⟨hjl,rfl⟩:=aI.1 hx
  simpa using h1 j hjl hj) h2 fun x hx=>by
  obtain ⟨hjl,rfl⟩:=aI.1 hx
  simpa using h3 hjl
theorem bU (a b:Nat):((a:Int)+(b:Int)).fdiv 2=(((a+b) / 2:Nat):Int):=by
 rw [Int.fdiv_eq_ediv_of_nonneg _ (by omega)];omega
theorem sK (l:List Int)(v:Int)(hs:l.Pairwise (· < ·))(hl:l.length≤1000000):Pure Tryz.prog 151 [dLI l,dI v] (.tup [dI (tJ l v),.bool (mem l v)]):=by
 have hpw:=b6.1 hs
 refine Tz.pK ⟨fun _=>false,fun _=>[]⟩ Tryz.func151 rfl (fun Q hQ=>?_)
 have Y:=@bU
 refine wo (h:=cD (fun m e H=>∃ i:Nat,∃ j:Nat,(e 0=dLI l∧e 1=dI v∧e 6=dI l.length∧e 7=dI i∧e 8=dI j)∧(i≤j)∧(j≤l.length)∧(j - i≤m)∧(∀ a (h:a<l.length),a<i→l[a]<v)∧(∀ a (h:a<l.length),j≤a→¬ l[a]<v)) (fun m=>m) l.length ⟨0,l.length,wg,(by omega),(by omega),(by omega),(by (intro a h h';omega)),(by (intro a h h';omega))⟩ fun I0 hI0 m e H hi0=>?_)
 obtain ⟨i,j,E0,hj,hjl,hjm,ha,hb⟩:=hi0
 have Y:=wa Y E0
 refine dU (fun h3=>?_) fun h3=>?_
 ·have hk:(i+j) / 2<l.length:=by omega
  have htn:(((i:Int)+(j:Int)) / 2).toNat=(i+j) / 2:=by omega
  have hu:=uR (show 0≤(i:Int)+(j:Int) by omega) (show (i:Int)+(j:Int)≤18446744073709551615 by omega)
  have Y:=wa Y (wa h3 (wa htn (aA hk)))
  refine wo (h:=aB (Rg _ _) wl ?_)
  refine mP (fun h5=>?_) fun h5=>?_
  ·obtain ⟨i',hi'⟩:∃ i':Nat,i'=(i+j) / 2+1:=⟨_,rfl⟩
   obtain ⟨j',hj'⟩:∃ j':Nat,j'=j:=⟨_,rfl⟩
   have ha':∀ a (h:a<l.length),a<i'→l[a]<v:=fun a h h'=>by
    rcases bQ a ((i+j) / 2) with h1|h1
    ·have:=hpw a _ h hk h1;omega
    ·have:a=(i+j) / 2:=by omega
     subst this;exact h5
   have hb':∀ a (h:a<l.length),j'≤a→¬ l[a]<v:=fun a h h'=>hb a h (by omega)
   exact wo (h:=wx hI0 (m - 1) ⟨i',j',wg,(by omega),(by omega),(by omega),(by exact ha'),(by exact hb')⟩)
  ·obtain ⟨i',hi'⟩:∃ i':Nat,i'=i:=⟨_,rfl⟩
   obtain ⟨j',hj'⟩:∃ j':Nat,j'=(i+j) / 2:=⟨_,rfl⟩
   have ha':∀ a (h:a<l.length),a<i'→l[a]<v:=fun a h h'=>ha a h (by omega)
   have hb':∀ a (h:a<l.length),j'≤a→¬ l[a]<v:=fun a h h'=>by
    rcases bQ ((i+j) / 2) a with h1|h1
    ·have:=hpw _ a hk h h1;omega
    ·have:a=(i+j) / 2:=by omega
     subst this;omega
   exact wv (h:=wx hI0 (m - 1) ⟨i',j',wg,(by omega),(by omega),(by omega),(by exact ha'),(by exact hb')⟩)
 ·have hij:j=i:=by omega
  have hp:tJ l v=i:=Nw (fun a h h'=>ha a h h') (by omega) (fun h=>hb i h (by omega))
  have hm:mem l v=(decide (i<l.length)&&(l[i]?.getD 0==v)):=by
   rw [bF,mem_iff]
   constructor
   ·intro h
    obtain ⟨a,h1,h2⟩:=aM h
    have h3:i≤a:=Nat.le_of_not_lt fun h'=>by have:=ha a h1 h';omega
    have h4:a=i:=by
     rcases Nat.eq_or_lt_of_le h3 with h5|h5
     ·exact h5.symm
     ·have:=hpw i a (by omega) h1 h5
      exact absurd (by omega) (hb i (by omega) (by omega))
    subst h4
    simp [h1,h2]
   ·intro h
    simp only [aQ,decide_eq_true_eq,beq_iff_eq] at h
    rw [aA h.1,aF] at h
    rw [← h.2];exact aC h.1
  by_cases hil:i<l.length
  ·have Y:=wa Y (wa (aA hil) hil)
   refine wo (h:=bD (fun hg=>pY _) (fun hg=>wl) ?_)
   refine wo (h:=bD (fun hg=>pY _) (fun hg=>wl) ?_)
   exact wo (h:=hQ _ _ (by rw [hp,hm];simp [go_sem,Y];rw [bF];simp))
  ·have Y:=wa Y hil
   refine wo (h:=bD (fun hg=>pY _) (fun hg=>wl) ?_)
   refine wo (h:=bD (fun hg=>pY _) (fun hg=>wl) ?_)
   exact wo (h:=hQ _ _ (by rw [hp,hm];simp [go_sem,Y]))
theorem Au (l:List Int)(v:Int)(hs:l.Pairwise (· < ·))(hl:l.length≤1000000):Pure Tryz.prog 246 [dLI l,dI v] (.bool (mem l v)):=by
 refine Tz.pK ⟨fun _=>false,fun _=>[]⟩ Tryz.func246 rfl (fun Q hQ=>?_)
 have Y:=trivial
 refine wv (h:=aB (sK l v hs hl) wl ?_)
 exact wv (h:=hQ _ _ wy)
def Fz (g:Graph)(p:Part)(k:Int):Int:=if (mem p.nodes (g.edges[k.toNat]?.getD cC).from_&&mem p.nodes (g.edges[k.toNat]?.getD cC).to_)=true then 0 else 14
def zD (g:Graph)(p:Part):Int :=
 if GJ p.nodes g.nodes.length≠0 then GJ p.nodes g.nodes.length
 else if GJ p.edges g.edges.length≠0 then GJ p.edges g.edges.length
 else jD (Fz g p) p.edges
def subF (g:Graph)(p:Part):Int:=if graphF g≠0 then graphF g else zD g p
theorem Gf (g:Graph)(p:Part)(hl:p.nodes.length≤1000000):Pure Tryz.prog 227 [g.d,p.d] (dI (zD g p)):=by
 refine Tz.pK ⟨fun _=>false,fun _=>[]⟩ Tryz.func227 rfl (fun Q hQ=>?_)
 have Y:=trivial
 refine wv (h:=?_)
 repeat first|intro _|refine ⟨oW,?_⟩
 refine aB (y9 p.nodes _) wl ?_
 refine wv (h:=?_)
 repeat first|intro _|refine ⟨oW,?_⟩
 refine wq (fun h2=>?_) fun h2=>?_
 ·exact wv (h:=hQ _ _ (by simp [go_sem,zD,h2]))
 ·refine wv (h:=?_)
  repeat first|intro _|refine ⟨oW,?_⟩
  refine aB (y9 p.edges _) wl ?_
  refine wv (h:=?_)
  repeat first|intro _|refine ⟨oW,?_⟩
  refine wq (fun h5=>?_) fun h5=>?_
  ·exact wv (h:=hQ _ _ (by simp [go_sem,zD,h2,h5]))
  ·have hP:zD g p=jD (Fz g p) p.edges:=by unfold zD;rw [if_neg (by simp [h2]),if_neg (by simp [h5])]
   have hs:=(FV h2).2
   have hin:=(FV h5).1
   refine wv (h:=?_)
   repeat first|intro _|refine ⟨oW,?_⟩
   refine cD (fun i e H=>(e 2=.adr g.c∧e 3=.adr p.c∧e 28=dLI p.edges∧e 29=dI p.edges.length∧e 30=dI i)∧(i≤p.edges.length)∧(jD (Fz g p) (p.edges.drop i)=zD g p)) (fun i=>p.edges.length - i) 0 ⟨wg,wi,(by (exact hP.symm))⟩ fun I0 hI0 i e H hi0=>?_
   obtain ⟨E0,hi,hF⟩:=hi0
   have Y:=wa Y E0
   refine dU (fun h8=>?_) fun h8=>?_
   ·have hst:=hF
    rw [qX _ h8] at hst
    have hin':=hin _ (aC h8)
    have hk:p.edges[i].toNat<g.edges.length:=by omega
    have hD:Fz g p p.edges[i]=if (mem p.nodes g.edges[p.edges[i].toNat].from_&&mem p.nodes g.edges[p.edges[i].toNat].to_)=true then 0 else 14:=by simp only [Fz,aA hk,aF]
    have Y:=wa Y (wa h8 (aA hk))
    refine wv (h:=?_)
    repeat first|intro _|refine ⟨oW,?_⟩
    refine bB (Au p.nodes _ hs hl) wl ?_
    refine wv (h:=?_)
    repeat first|intro _|refine ⟨oW,?_⟩
    refine gW (fun hg=>Au p.nodes _ hs hl) (fun hg=>wl) ?_
    refine wv (h:=?_)
    repeat first|intro _|refine ⟨oW,?_⟩
    refine wq (fun h10=>?_) fun h10=>?_
    ·rw [if_neg (by rcases h10 with h|h<;>simp [h])] at hD
     rw [hD,if_pos (by omega)] at hst
     exact wv (h:=hQ _ _ (by simp [go_sem,← hst]))
    ·rw [if_pos (by simp [h10])] at hD
     rw [hD,if_neg (by omega)] at hst
     refine wv (h:=?_)
     repeat first|intro _|refine ⟨oW,?_⟩
     exact wx hI0 (i+1) ⟨wg,wj,(by exact hst)⟩
   ·exact wv (h:=hQ _ _ (by rw [← hF,tO _ (by omega)];simp [go_sem]))
theorem wI (g:Graph)(p:Part)(hl:p.nodes.length≤1000000):Pure Tryz.prog 183 [g.d,p.d] (dI (subF g p)):=by
 refine Tz.pK ⟨fun _=>false,fun _=>[]⟩ Tryz.func183 rfl (fun Q hQ=>?_)
 have Y:=trivial
 refine wv (h:=aB (lM g) wl ?_)
 refine dU (fun h2=>?_) fun h2=>?_
 ·have Y:=wa Y (wa h2 @subF.eq_1)
  exact wv (h:=hQ _ _ wy)
 ·refine wv (h:=aB (Gf g p hl) wl ?_)
  have Y:=wa Y (wa h2 @subF.eq_1)
  exact wv (h:=hQ _ _ wy)
def gN (g:Graph)(n:Int):Int:=g.nodes[n.toNat]?.getD 0
def gEd (g:Graph)(p:Part)(k:Int):Edge:=⟨(g.edges[k.toNat]?.getD cC).type,tJ p.nodes (g.edges[k.toNat]?.getD cC).from_,tJ p.nodes (g.edges[k.toNat]?.getD cC).to_⟩
def dN (g:Graph)(p:Part):Graph:=if subF g p=0 then ⟨p.nodes.map (gN g),p.edges.map (gEd g p)⟩ else ⟨[],[]⟩
def Qy (g:Graph)(p:Part):Part:=if subF g p=0 then p else ⟨[],[]⟩
theorem Dz {g:Graph}{p:Part}(h:subF g p=0):graphF g=0∧p.nodes.Pairwise (· < ·)∧(∀ n∈p.nodes,0≤n∧n<g.nodes.length)∧∀ k∈p.edges,0≤k∧k<g.edges.length:=by
 unfold subF zD at h
 split at h
 ·rename_i h1;exact absurd h h1
 ·rename_i h1
  split at h
  ·rename_i h2;exact absurd h h2
  ·rename_i h2
   split at h
   ·rename_i h3;exact absurd h h3
   ·rename_i h3
    have h2':GJ p.nodes g.nodes.length=0:=by omega
    have h3':GJ p.edges g.edges.length=0:=by omega
    exact ⟨by omega,(FV h2').2,(FV h2').1,(FV h3').1⟩
theorem jP {α β:Type}(f:α→β){l:List α}{i:Nat}(h:i<l.length):(l.take (i+1)).map f=(l.take i).map f++[f l[i]]:=by
 rw [aG h,List.map_append];rfl
theorem p7 {α β:Type}(f:α→β){l:List α}{i:Nat}(h:l.length≤i):(l.take i).map f=l.map f:=by
 rw [aK h]
theorem BJ (g:Graph)(p:Part)(hl:p.nodes.length≤1000000)(hle:p.edges.length≤1000000):Pure Tryz.prog 163 [g.d,p.d] (.tup [(dN g p).d,(Qy g p).d,dI (subF g p)]):=by
 refine Tz.pK ⟨fun t=>t==4||t==5||t==8||t==13,fun r=>match r with|8=>[(0,7),(1,7)]|_=>[]⟩ Tryz.func163 rfl (fun Q hQ=>?_)
 have Y:=trivial
 refine wv (h:=aB (wI g p hl) wl ?_)
 refine dU (fun h2=>?_) fun h2=>?_
 ·exact wv (h:=hQ _ _ (by simp [go_sem,dN,Qy,h2]))
 ·obtain ⟨hg,hs,hin,hie⟩:=Dz h2
  refine wo (h:=sP (Ghosts.step (Ghosts.refl _) 2 0 0 3 1 _ _ (rfl) rfl rfl rfl) (fun i e H=>∃ xs:List Int,(e 2=.adr g.c∧e 3=.adr p.c∧e 4=.ptr 0 1 0 0∧e 5=.ptr 1 1 0 0∧e 8=.ptr 2 1 0 0∧e 23=dLI p.nodes∧e 24=dI p.nodes.length∧e 25=dI i)∧(H.get 0=some ⟨47,2,[[.nil,.nil]],false⟩)∧(0<H.next)∧(H.get 1=some ⟨33,2,[[.nil,.nil]],false⟩)∧(1<H.next)∧(H.get 2=some ⟨47,2,[[.own 3 xs.length,.nil]],false⟩)∧(2<H.next)∧(H.get 3=some ⟨3,1,xs.map cI,false⟩)∧(3<H.next)∧(i≤p.nodes.length)∧(xs=(p.nodes.take i).map (gN g))) (fun i=>p.nodes.length - i) 0 ⟨([]),wg,wn,wn,wn,wn,wn,wn,wn,wn,wi,(by rfl)⟩ fun I0 hI0 i e H hi0=>?_)
  obtain ⟨xs,E0,g0_0,n0_0,g1_0,n1_0,g2_0,n2_0,g3_0,n3_0,hi,hx⟩:=hi0
  have Y:=wa Y (wa E0 (wa g0_0 (wa (cO n0_0) (wa g1_0 (wa (cO n1_0) (wa g2_0 (wa (cO n2_0) (wa g3_0 (cO n3_0)))))))))
  refine dU (fun h6=>?_) fun h6=>?_
  ·have hin':=hin _ (aC h6)
   have hk:p.nodes[i].toNat<g.nodes.length:=by omega
   have hxl:xs.length=i:=by rw [hx];simp;omega
   have Y:=wa Y (wa h6 (wa (aA hk) @gN.eq_1))
   exact wo (h:=wx hI0 (i+1) ⟨(xs++[gN g p.nodes[i]]),wg,wn,wn,wn,wn,wn,wn,wn,wn,wj,(by (rw [jP _ h6,← hx]))⟩)
  ·have hX:xs=p.nodes.map (gN g):=by rw [hx,p7 _ (by omega)]
   refine wo (h:=sP (Ghosts.step (Ghosts.refl _) 2 0 1 103 3 _ _ (g2_0) rfl rfl rfl) (fun k e H=>∃ j:Nat,∃ ys:List Edge,(e 2=.adr g.c∧e 3=.adr p.c∧e 4=.ptr 0 1 0 0∧e 5=.ptr 1 1 0 0∧e 8=.ptr 2 1 0 0∧e 41=dLI p.edges∧e 42=dI p.edges.length∧e 43=dI k)∧(H.get 0=some ⟨47,2,[[.nil,.nil]],false⟩)∧(0<H.next)∧(H.get 1=some ⟨33,2,[[.nil,.nil]],false⟩)∧(1<H.next)∧(H.get 2=some ⟨47,2,[[.own 3 xs.length,.own j ys.length]],false⟩)∧(2<H.next)∧(H.get 3=some ⟨3,1,xs.map cI,false⟩)∧(3<H.next)∧(H.get j=some ⟨103,3,ys.map Edge.c,false⟩)∧(j<H.next)∧(k≤p.edges.length)∧(ys=(p.edges.take k).map (gEd g p))∧(j≠0)∧(j≠1)∧(j≠2)∧(j≠3)) (fun k=>p.edges.length - k) 0 ⟨H.next,([]),wg,wn,wn,wn,wn,wn,wn,wn,wn,wn,wn,wi,(by rfl),(by omega),(by omega),(by omega),(by omega)⟩ fun I2 hI2 k e H hi2=>?_)
   obtain ⟨j,ys,E2,g0_2,n0_2,g1_2,n1_2,g2_2,n2_2,g3_2,n3_2,gj_2,nj_2,hk,hy,j0,j1,j2,j3⟩:=hi2
   have Y:=wa Y (wa E2 (wa g0_2 (wa (cO n0_2) (wa g1_2 (wa (cO n1_2) (wa g2_2 (wa (cO n2_2) (wa g3_2 (wa (cO n3_2) (wa gj_2 (wa (cO nj_2) (wa j0 (wa j1 (wa j2 (wa j3 (wa j0.symm (wa j1.symm (wa j2.symm j3.symm))))))))))))))))))
   refine dU (fun h11=>?_) fun h11=>?_
   ·have hie':=hie _ (aC h11)
    have hke:p.edges[k].toNat<g.edges.length:=by omega
    have hyl:ys.length=k:=by rw [hy];simp;omega
    have Y:=wa Y (wa h11 (wa (aA hke) @gEd.eq_1))
    refine wo (h:=aB (sK p.nodes _ hs hl) wl ?_)
    refine wo (h:=aB (sK p.nodes _ hs hl) wl ?_)
    exact wo (h:=wx hI2 (k+1) ⟨j,(ys++[gEd g p p.edges[k]]),wg,wn,wn,wn,wn,wn,wn,wn,wn,wn,wn,wj,(by (rw [jP _ h11,← hy])),wj,wj,wj,wj⟩)
   ·have hY:ys=p.edges.map (gEd g p):=by rw [hy,p7 _ (by omega)]
    refine wv (h:=bB ((gM p.nodes hl).pure) wl ?_)
    refine wv (h:=bB ((gM p.edges hle).pure) wl ?_)
    exact wv (h:=hQ _ _ (by simp [go_sem,Y,dN,Qy,h2,hX,hY]))
mutual
theorem xZ {p:Cond→Prop}(h:∀ c:Cond,(∀ k∈c.kids,p k)→p c):∀ c:Cond,p c
 | .mk k l m q=>h _ (HZ h l)
theorem HZ {p:Cond→Prop}(h:∀ c:Cond,(∀ k∈c.kids,p k)→p c):∀ l:List Cond,∀ k∈l,p k
 | []=>fun k hk=>absurd hk (by simp)
 | c :: l=>fun k hk=>by
  rcases aO.1 hk with h1|h1
  ·rw [h1];exact xZ h c
  ·exact HZ h l k h1
end
def bareB (c:Cond):Bool:=decide ((c.map.nodes.length:Int)+c.map.edges.length+c.pattern.graph.nodes.length+c.pattern.graph.edges.length+c.pattern.slots.length+c.pattern.tests.length=0)&&decide (c.pattern.vars=0)
structure Cond.short (c:Cond):Prop where
 m1:c.map.nodes.length≤1000000
 m2:c.map.edges.length≤1000000
 p1:c.pattern.graph.nodes.length≤1000000
 p2:c.pattern.graph.edges.length≤1000000
 p3:c.pattern.slots.length≤1000000
 p4:c.pattern.tests.length≤1000000
theorem FC (c:Cond)(hc:c.short):Pure Tryz.prog 231 [.agg c.c] (.bool (bareB c)):=by
 obtain ⟨h1,h2,h3,h4,h5,h6⟩:=hc
 refine Tz.pK ⟨fun t=>t==3,fun _=>[]⟩ Tryz.func231 rfl (fun Q hQ=>?_)
 have Y:=@Cond.c_eq
 have Y:=wa Y @bareB.eq_1
 exact wo (h:=hQ _ _ wy)
theorem Fe (xs:List Cond)(g:FuncId)(caps:List D)(p:Cond→Bool)(hc:D.clL caps=true)(hg:∀ x∈xs,Pure Tryz.prog g (.agg x.c :: caps) (.bool (p x))) :
  Pure Tryz.prog 248 [.list (xs.map Cond.c),.fn g caps] (dI (xF xs p)):=by
 refine aU (aH (cfg:=⟨fun _=>false,fun _=>[]⟩) Tz.mixed Tryz.func248 rfl rfl (aD rfl) (by kernel_rfl) ?_)
 simp [go_sem,seval,dI,dLI]
 intro hlen
 refine f9 (ι:=Nat) (fun i e H=>H=.emp∧i≤xs.length∧e 0=.list (xs.map Cond.c)∧e 1=.fn g caps∧e 7=dI xs.length∧e 8=dI i∧(∀ j x,j<i→xs[j]?=some x→p x=false)) (fun i=>xs.length - i) 0 (by simp [go_sem,seval,dI,dLI]) ?_
 intro i e H ⟨hH,hi,h0,h1,h7,h8,hn⟩
 subst hH
 simp [go_sem,seval,h0,h1,h7,h8,dI,dLI]
 refine gB (fun hlt=>?_) (fun hge=>?_)
 ·have hgx:=hg xs[i] (aC hlt)
  simp [go_sem,seval,h0,h1,h7,h8,dI,dLI,hlt,Cond.c_eq] at hgx ⊢
  refine aB hgx (by simp [go_sem,hc]) ?_
  simp [go_sem,seval,h0,h1,h7,h8,dI,dLI]
  refine aP (fun h=>?_) (fun h=>?_)
  ·simp [go_sem,seval,h0,h1,h7,h8,dI,dLI]
   rw [lX hn hlt h]
  ·simp [go_sem,seval,h0,h1,h7,h8,dI,dLI]
   refine ⟨eO (by omega) (by omega),i+1,by omega,by omega,by omega,fun j x hj hx=>?_⟩
   rcases bQ j i with hj'|hj'
   ·exact hn j x hj' hx
   ·have:j=i:=by omega
    subst this
    rw [aA hlt] at hx
    cases hx;exact h
 ·simp [go_sem,seval,h0,h1,h7,h8,dI,dLI]
  rw [lY fun j x hj=>hn j x (by omega)]
theorem Bc (xs:List Cond)(g:FuncId)(caps:List D)(p:Cond→Bool)(hc:D.clL caps=true)(hl:D.cl (.list (xs.map Cond.c))=true)(hg:∀ x∈xs,Pure Tryz.prog g (.agg x.c :: caps) (.bool (p x))) :
  Pure Tryz.prog 232 [.list (xs.map Cond.c),.fn g caps] (.bool (xs.any p)):=by
 refine aU (aH (cfg:=⟨fun _=>false,fun _=>[]⟩) Tz.mixed Tryz.func232 rfl rfl (aD rfl) (by kernel_rfl) ?_)
 simp [go_sem,seval]
 refine aB (Fe xs g caps p hc hg) (by simp only [D.clL,hl,gL];simp [D.cl,hc]) ?_
 simp [go_sem,seval,dI,pC]
def AV (c:Cond):Bool :=
 if c.kind=1 then decide ((c.kids.length:Int)=0)&&bareB c
 else if c.kind=2 then decide ((c.kids.length:Int)=1)&&bareB c
 else if c.kind=3∨c.kind=4 then decide (1≤(c.kids.length:Int))&&bareB c
 else decide (c.kind=5)&&decide ((c.kids.length:Int)=1)
mutual
def Og:Cond→Bool
 | .mk k l m p=>AV (.mk k l m p)&&RT l
def RT:List Cond→Bool
 | []=>true
 | c :: l=>Og c&&RT l
end
theorem RS (l:List Cond):RT l=l.all Og:=by
 induction l with
 | nil=>rfl
 | cons a l ih=>simp [RT,ih]
theorem uF (c:Cond):Og c=(AV c&&c.kids.all Og):=by cases c;simp [Og,RS,Cond.kids]
mutual
def Cond.ok:Cond→Prop
 | .mk k l m p=>(Cond.mk k l m p).short∧Cond.oks l
def Cond.oks:List Cond→Prop
 | []=>True
 | c :: l=>c.ok∧Cond.oks l
end
theorem Jn (l:List Cond):Cond.oks l↔∀ c∈l,c.ok:=by
 induction l with
 | nil=>simp [Cond.oks]
 | cons a l ih=>simp [Cond.oks,ih]
theorem Lu (c:Cond):c.ok↔c.short∧∀ k∈c.kids,k.ok:=by cases c;simp [Cond.ok,Jn,Cond.kids]
theorem Zy (c:Cond)(h:Pure Tryz.prog 198 [.agg c.c] (.bool (Og c))):Pure Tryz.prog 233 [.agg c.c] (.bool (!Og c)):=by
 refine Tz.pK ⟨fun _=>false,fun _=>[]⟩ Tryz.func233 rfl (fun Q hQ=>?_)
 have Y:=@Cond.c_eq
 refine wo (h:=aB ((by simpa [Cond.c_eq,go_sem] using h)) wl ?_)
 exact wo (h:=hQ _ _ wy)
theorem xL:∀ c:Cond,c.ok→Pure Tryz.prog 198 [.agg c.c] (.bool (Og c)):=by
 refine xZ fun c ih hc=>?_
 obtain ⟨hs,hk⟩:=(Lu c).1 hc
 have hkids:=Bc c.kids 233 [] (fun k=>!Og k) rfl (by simp [go_sem]) (fun k hm=>Zy k (ih k hm (hk k hm)))
 have hbare:∀ k':Int,k'=c.kind→Pure Tryz.prog 231 [.agg [dI k',.list (c.kids.map Cond.c),dLI c.map.nodes,dLI c.map.edges,dLI c.pattern.graph.nodes,.list (c.pattern.graph.edges.map Edge.c),.list (c.pattern.slots.map Slot.c),dI c.pattern.vars,.list (c.pattern.tests.map Test.c)]] (.bool (bareB c)):=by
  intro k' hk'
  have:=FC c hs
  rwa [Cond.c_eq,← hk'] at this
 have hall:(!(c.kids.any fun k=>!Og k))=c.kids.all Og:=by simp [List.not_any_eq_all_not]
 refine Tz.pK ⟨fun _=>false,fun _=>[]⟩ Tryz.func198 rfl (fun Q hQ=>?_)
 have Y:=@Cond.c_eq
 refine mP (fun h4=>?_) fun h4=>?_
 ·have Y:=wa Y h4
  refine wo (h:=bD (fun hg=>(hbare _ (by omega))) (fun hg=>wl) ?_)
  refine wo (h:=bD (fun hg=>hkids) (fun hg=>wl) ?_)
  exact wo (h:=hQ _ _ (by simp [go_sem,uF,← hall,AV,Y]))
 ·have Y:=wa Y h4
  refine dU (fun h6=>?_) fun h6=>?_
  ·have Y:=wa Y h6
   refine wo (h:=bD (fun hg=>(hbare _ (by omega))) (fun hg=>wl) ?_)
   refine wo (h:=bD (fun hg=>hkids) (fun hg=>wl) ?_)
   exact wo (h:=hQ _ _ (by simp [go_sem,uF,← hall,AV,Y]))
  ·have Y:=wa Y h6
   refine dU (fun h8=>?_) fun h8=>?_
   ·have Y:=wa Y h8
    refine wo (h:=bD (fun hg=>(hbare _ (by omega))) (fun hg=>wl) ?_)
    refine wo (h:=bD (fun hg=>hkids) (fun hg=>wl) ?_)
    exact wo (h:=hQ _ _ (by simp [go_sem,uF,← hall,AV,Y]))
   ·have Y:=wa Y h8
    refine dU (fun h9=>?_) fun h9=>?_
    ·have Y:=wa Y h9
     refine wo (h:=bD (fun hg=>(hbare _ (by omega))) (fun hg=>wl) ?_)
     refine wo (h:=bD (fun hg=>hkids) (fun hg=>wl) ?_)
     exact wo (h:=hQ _ _ (by simp [go_sem,uF,← hall,AV,Y]))
    ·have Y:=wa Y h9
     refine dU (fun h11=>?_) fun h11=>?_
     ·have Y:=wa Y h11
      refine wo (h:=bD (fun hg=>hkids) (fun hg=>wl) ?_)
      exact wo (h:=hQ _ _ (by simp [go_sem,uF,← hall,AV,Y]))
     ·have Y:=wa Y h11
      refine wo (h:=bD (fun hg=>hkids) (fun hg=>wl) ?_)
      exact wo (h:=hQ _ _ (by simp [go_sem,uF,← hall,AV,Y]))
mutual
def Cond.size:Cond→Nat
 | .mk _ l _ _=>1+Cond.sizes l
def Cond.sizes:List Cond→Nat
 | []=>0
 | c :: l=>c.size+Cond.sizes l
end
mutual
def Cond.dep:Cond→Nat
 | .mk k l _ _=>Cond.deps l+(if k=5 then 1 else 0)
def Cond.deps:List Cond→Nat
 | []=>0
 | c :: l=>max c.dep (Cond.deps l)
end
theorem LW (l:List Cond)(c:Cond):Cond.sizes (l++[c])=Cond.sizes l+c.size:=by
 induction l with
 | nil=>simp [Cond.sizes]
 | cons a l ih=>simp [Cond.sizes,ih];omega
theorem Pz (l:List Cond)(c:Cond):Cond.deps (l++[c])=max (Cond.deps l) c.dep:=by
 induction l with
 | nil=>simp [Cond.deps]
 | cons a l ih=>simp only [eY,Cond.deps,ih];omega
theorem AA (c:Cond):c.size=1+Cond.sizes c.kids:=by cases c;simp [Cond.size,Cond.kids]
theorem UQ (c:Cond):c.dep=Cond.deps c.kids+(if c.kind=5 then 1 else 0):=by cases c;rw [Cond.dep];rfl
@[go_sem] theorem Vf:Cond.sizes []=0:=by simp [Cond.sizes]
@[go_sem] theorem Xo:Cond.deps []=0:=by simp [Cond.deps]
theorem Eg {l:List Cond}{c:Cond}(h:c∈l):c.size≤Cond.sizes l:=by
 induction l with
 | nil=>cases h
 | cons a l ih =>
  rcases aO.1 h with h1|h1
  ·subst h1;simp only [Cond.sizes];omega
  ·have:=ih h1;simp only [Cond.sizes];omega
theorem LV (l:List Cond)(i:Nat):Cond.sizes (l.take i)≤Cond.sizes l:=by
 induction l generalizing i with
 | nil=>simp
 | cons a l ih=>cases i with
  | zero=>simp [Cond.sizes]
  | succ i=>have:=ih i;simp only [nG,Cond.sizes];omega
mutual
theorem Ra:∀ c:Cond,c.dep≤c.size
 | .mk k l m p=>by have:=DJ l;simp only [Cond.dep,Cond.size];split<;>omega
theorem DJ:∀ l:List Cond,Cond.deps l≤Cond.sizes l
 | []=>by simp [Cond.deps]
 | c :: l=>by have:=Ra c;have:=DJ l;simp only [Cond.deps,Cond.sizes];omega
end
theorem QJ (a b:Nat):(if (a:Int)<(b:Int) then (b:Int) else (a:Int))=((max a b:Nat):Int):=by split<;>omega
theorem Bf:∀ c:Cond,c.size≤1000000→Pure Tryz.prog 199 [.agg c.c] (.tup [dI c.size,dI c.dep]):=by
 refine xZ fun c ih hc=>?_
 have hse:=AA c
 have hde:=UQ c
 have hle:=DJ c.kids
 refine Tz.pK ⟨fun t=>t==7,fun _=>[]⟩ Tryz.func199 rfl (fun Q hQ=>?_)
 try simp [go_sem,seval,Cond.c_eq]
 repeat first|intro _|refine ⟨oW,?_⟩
 obtain ⟨I0,hI0⟩:∃ I0:Nat→c7→AHeap→Prop,∀ (i:Nat) (e:c7) (H:AHeap),I0 i e H↔((e 1=.adr c.c)∧(e 11=.list (c.kids.map Cond.c))∧(e 12=dI c.kids.length)∧(e 4=dI ((1+Cond.sizes (c.kids.take i):Nat):Int))∧(e 5=dI (Cond.deps (c.kids.take i):Nat))∧(e 13=dI i)∧(i≤c.kids.length)):=⟨fun i e H=>_,fun _ _ _=>Iff.rfl⟩
 refine qV I0 (fun i=>c.kids.length - i) (0) ((hI0 _ _ _).2 ⟨?_,?_,?_,?_,?_,?_,(by first|assumption|omega|(simp [go_sem,Cond.c_eq];done)|(simp_all;done))⟩) ?_
 iterate 6 (first|omega|(simp [go_sem,seval,Cond.c_eq]<;>omega))
 intro i e H hi0
 obtain ⟨q1_0,q11_0,q12_0,q4_0,q5_0,q13_0,hi⟩:=(hI0 _ _ _).1 hi0
 have F0:=And.intro q1_0 (And.intro q11_0 (And.intro q12_0 q13_0))
 try simp [go_sem,seval,Cond.c_eq,F0,q4_0,q5_0]
 refine aP (fun h3=>?_) (fun h3=>?_)
 ·try simp [go_sem] at h3
  have hsm:=Eg (aC h3)
  have hdm:=Ra c.kids[i]
  have hts:=aG h3
  have h1s:=LW (c.kids.take i) c.kids[i]
  have h1d:=Pz (c.kids.take i) c.kids[i]
  have hst:=LV c.kids (i+1)
  have hS:Cond.sizes (c.kids.take (i+1))=Cond.sizes (c.kids.take i)+c.kids[i].size:=by rw [hts,h1s]
  have hD:Cond.deps (c.kids.take (i+1))=max (Cond.deps (c.kids.take i)) c.kids[i].dep:=by rw [hts,h1d]
  have hdt:=DJ (c.kids.take i)
  try simp [go_sem,seval,Cond.c_eq,F0,q4_0,q5_0,h3,hS,hD,QJ]
  repeat first|intro _|refine ⟨oW,?_⟩
  refine aB ((by have:=ih _ (aC h3) (by omega);rwa [Cond.c_eq] at this)) ((by first|rfl|(simp [go_sem,← List.map_take,← List.map_drop,Cond.c_eq,F0,q4_0,q5_0,h3,hS,hD,QJ];done))) ?_
  try simp [go_sem,seval,Cond.c_eq,F0,q4_0,q5_0,h3,hS,hD,QJ]
  repeat first|intro _|refine ⟨oW,?_⟩
  refine fN (i+1) (by omega) ((hI0 _ _ _).2 ⟨?_,?_,?_,?_,?_,?_,(by first|assumption|omega|(simp [go_sem,Cond.c_eq,F0,q4_0,q5_0,h3,hS,hD,QJ];done)|(simp_all<;>omega))⟩)<;>first|omega|(simp [go_sem,seval,Cond.c_eq,F0,q4_0,q5_0,h3,hS,hD,QJ]<;>omega)
 ·try simp [go_sem] at h3
  have hU:c.kids.take i=c.kids:=aK h3
  rw [hU] at q4_0 q5_0
  try simp [go_sem,seval,Cond.c_eq,F0,q4_0,q5_0]
  refine aP (fun h8=>?_) (fun h8=>?_)
  ·try simp [go_sem] at h8
   try simp [go_sem,seval,Cond.c_eq,F0,q4_0,q5_0]
   repeat first|intro _|refine ⟨oW,?_⟩
   exact hQ _ _ (by first|(left;(simp [go_sem,hse,hde,h8]);done)|(right;(simp [go_sem,hse,hde,h8]);done))
  ·try simp [go_sem] at h8
   try simp [go_sem,seval,Cond.c_eq,F0,q4_0,q5_0]
   exact hQ _ _ (by first|(left;(simp [go_sem,hse,hde,h8]);done)|(right;(simp [go_sem,hse,hde,h8]);done))
def zR (c:Cond):Int:=if Og c=false then 1 else if 12<c.size∨3<c.dep then 3 else 0
theorem Dp (c:Cond)(hc:c.ok)(hs:c.size≤1000000):Pure Tryz.prog 169 [.agg c.c] (dI (zR c)):=by
 refine Tz.pK ⟨fun _=>false,fun _=>[]⟩ Tryz.func169 rfl (fun Q hQ=>?_)
 have Y:=@Cond.c_eq
 refine wo (h:=aB ((by have:=xL c hc;rwa [Cond.c_eq] at this)) wl ?_)
 refine mP (fun h1=>?_) fun h1=>?_
 ·exact wv (h:=hQ _ _ (by simp [go_sem,zR,h1]))
 ·refine wv (h:=aB ((by have:=Bf c hs;rwa [Cond.c_eq] at this)) wl ?_)
  refine mP (fun h4=>?_) fun h4=>?_
  ·exact wv (h:=hQ _ _ (by simp [go_sem,zR,h1];omega))
  ·exact wv (h:=hQ _ _ (by simp [go_sem,zR,h1];omega))
def q7 (t:Types)(q:Pattern)(outer:Int):Int :=
 if dG t q≠9 then dG t q
 else if ((List.range q.vars.toNat).all fun (v:Nat)=>decide ((v:Int)<outer)||yD q v)=true then 0 else 9
theorem Ky {t:Types}{q:Pattern}{outer:Int}(h:dG t q=9)(h0:0≤outer)(ho:∀ v:Int,outer≤v→v<q.vars→yD q v=true):q7 t q outer=0:=by
 unfold q7
 rw [if_neg (by omega),if_pos]
 rw [dJ]
 intro v hv
 simp at hv ⊢
 by_cases hlt:(v:Int)<outer
 ·exact .inl hlt
 ·exact .inr (ho v (by omega) (by omega))
theorem KA {t:Types}{q:Pattern}{outer:Int}(h:dG t q=9)(h0:0≤outer){v:Int}(h1:outer≤v)(h2:v<q.vars)(h3:yD q v=false):q7 t q outer=9:=by
 unfold q7
 rw [if_neg (by omega),if_neg]
 intro ha
 rw [dJ] at ha
 have:=ha v.toNat (by simp;omega)
 simp at this
 rw [show max v 0=v by omega,h3] at this
 simp at this;omega
theorem HD {f:Nat→Int}{m:Int}(h0:(0:Int)≠m)(h:∀ j,f j≠m):∀ n k,bY f k n≠m
 | 0,k=>h0
 | n+1,k=>by unfold bY;split;exact h k;exact HD h0 h n (k+1)
theorem Ab {f:Nat→Int}{nm:Nat→ByteArray}{last:ByteArray × Int}{m:Int}(h0:last.2≠m)(h:∀ j,f j≠m):∀ n k,(gI f nm last k n).2≠m
 | 0,k=>h0
 | n+1,k=>by unfold gI;split;exact h k;exact Ab h0 h n (k+1)
theorem He:∀ (r l:List ByteArray),qT l r≠9
 | [],l=>by simp [qT]
 | s :: r,l=>by
  unfold qT
  split
  ·decide
  ·split
   ·decide
   ·exact He r _
theorem O9 (l:List ByteArray):wX l≠9:=by unfold wX;split;decide;exact He l []
theorem GI (x:Attr)(l:List Attr):cZ x l≠9:=by
 have:=O9 x.names
 unfold cZ
 repeat' split
 all_goals first|assumption|decide
theorem QI (t:Types)(i:Nat):iT t i≠9:=by
 unfold iT
 split
 ·decide
 ·repeat' split
  all_goals first|decide|skip
  refine HD (by decide) (fun j=>?_) _ _
  split
  ·exact GI _ _
  ·decide
theorem Q6 (t:Types)(i:Nat):kK t i≠9:=by
 unfold kK
 split
 ·decide
 ·repeat' split
  all_goals decide
theorem GS (t:Types):(cJ t).2≠9:=by
 unfold cJ
 split
 ·decide
 ·split
  ·decide
  ·exact Ab (Ab (by decide) (Q6 t) _ _) (QI t) _ _
theorem Af (s:Slot)(v:Int):Pure Tryz.prog 234 [.agg s.c,.adr [dI v]] (.bool (decide (s.term.var=v))):=by
 refine Tz.pK ⟨fun _=>false,fun _=>[]⟩ Tryz.func234 rfl (fun Q hQ=>?_)
 have Y:=trivial
 exact wv (h:=hQ _ _ wy)
theorem Fa (xs:List Slot)(g:FuncId)(caps:List D)(p:Slot→Bool)(hc:D.clL caps=true)(hg:∀ x∈xs,Pure Tryz.prog g (.agg x.c :: caps) (.bool (p x))) :
  Pure Tryz.prog 230 [.list (xs.map Slot.c),.fn g caps] (dI (xF xs p)):=by
 refine aU (aH (cfg:=⟨fun _=>false,fun _=>[]⟩) Tz.mixed Tryz.func230 rfl rfl (aD rfl) (by kernel_rfl) ?_)
 simp [go_sem,seval,dI,dLI]
 intro hlen
 refine f9 (ι:=Nat) (fun i e H=>H=.emp∧i≤xs.length∧e 0=.list (xs.map Slot.c)∧e 1=.fn g caps∧e 7=dI xs.length∧e 8=dI i∧(∀ j x,j<i→xs[j]?=some x→p x=false)) (fun i=>xs.length - i) 0 (by simp [go_sem,seval,dI,dLI]) ?_
 intro i e H ⟨hH,hi,h0,h1,h7,h8,hn⟩
 subst hH
 simp [go_sem,seval,h0,h1,h7,h8,dI,dLI]
 refine gB (fun hlt=>?_) (fun hge=>?_)
 ·have hgx:=hg xs[i] (aC hlt)
  simp [go_sem,seval,h0,h1,h7,h8,dI,dLI,hlt,Slot.c] at hgx ⊢
  refine aB hgx (by simp [go_sem,hc]) ?_
  simp [go_sem,seval,h0,h1,h7,h8,dI,dLI]
  refine aP (fun h=>?_) (fun h=>?_)
  ·simp [go_sem,seval,h0,h1,h7,h8,dI,dLI]
   rw [lX hn hlt h]
  ·simp [go_sem,seval,h0,h1,h7,h8,dI,dLI]
   refine ⟨eO (by omega) (by omega),i+1,by omega,by omega,by omega,fun j x hj hx=>?_⟩
   rcases bQ j i with hj'|hj'
   ·exact hn j x hj' hx
   ·have:j=i:=by omega
    subst this
    rw [aA hlt] at hx
    cases hx;exact h
 ·simp [go_sem,seval,h0,h1,h7,h8,dI,dLI]
  rw [lY fun j x hj=>hn j x (by omega)]
theorem sI (xs:List Slot)(g:FuncId)(caps:List D)(p:Slot→Bool)(hc:D.clL caps=true)(hl:D.cl (.list (xs.map Slot.c))=true)(hg:∀ x∈xs,Pure Tryz.prog g (.agg x.c :: caps) (.bool (p x))) :
  Pure Tryz.prog 195 [.list (xs.map Slot.c),.fn g caps] (.bool (xs.any p)):=by
 refine aU (aH (cfg:=⟨fun _=>false,fun _=>[]⟩) Tz.mixed Tryz.func195 rfl rfl (aD rfl) (by kernel_rfl) ?_)
 simp [go_sem,seval]
 refine aB (Fa xs g caps p hc hg) (by simp only [D.clL,hl,gL];simp [D.cl,hc]) ?_
 simp [go_sem,seval,dI,pC]
theorem mM {t : Types} {q : Pattern} (h : dG t q = 9 ∨ dG t q = 0) : 0 ≤ q.vars ∧ q.vars ≤ 12 := by
  have hne := GS t
  unfold dG at h
  by_cases h1 : (cJ t).2 = 0
  · rw [if_neg (by omega)] at h
    by_cases h2 : graphF q.graph = 0
    · rw [if_neg (by omega)] at h
      split at h
      · omega
      · split at h
        · omega
        · rename_i h3; simp [inF] at h3; omega
    · rw [if_pos h2] at h
      have h3 : graphF q.graph ≠ 9 := by unfold graphF; repeat' split
                                         all_goals decide
      omega
  · rw [if_pos h1] at h
    omega
theorem Be (t:Types)(ht:t.ok)(q:Pattern)(outer:Int)(h0:0≤outer):Pure Tryz.prog 200 [t.d,q.d,dI outer] (dI (q7 t q outer)):=by
 refine Tz.pK ⟨fun t=>t==8,fun _=>[]⟩ Tryz.func200 rfl (fun Q hQ=>?_)
 have Y:=trivial
 refine wv (h:=aB (mS t ht q) wl ?_)
 refine dU (fun h2=>?_) fun h2=>?_
 ·exact wv (h:=hQ _ _ (by simp [go_sem,q7,h2]))
 ·have hv:=mM (.inl h2)
  refine wv (h:=cD (fun v e H=>∃ id:Nat,(e 4=.adr q.c∧e 7=dI 9∧e 8=.ptr id 1 0 0)∧(H.get id=some ⟨3,1,[[dI (outer+v)]],false⟩)∧(id<H.next)∧(∀ u:Int,outer≤u→u<outer+v→yD q u=true)) (fun v=>(q.vars - outer).toNat - v) 0 ⟨0,wg,wn,wn,(by (intro u hu hv;omega))⟩ fun I0 hI0 v e H hi0=>?_)
  obtain ⟨id,E0,gid_0,nid_0,ho⟩:=hi0
  have Y:=wa Y (wa E0 (wa gid_0 (cO nid_0)))
  refine dU (fun h5=>?_) fun h5=>?_
  ·have hOv:(q.slots.any fun s=>decide (s.term.var=outer+v))=yD q (outer+v):=rfl
   have Y:=wa Y (wa h5 hOv)
   refine wo (h:=lO ((sI q.slots 234 [.adr [dI (outer+v)]] (fun s=>decide (s.term.var=outer+v)) (by simp [go_sem]) (by simp [go_sem]) (fun s _=>Af s (outer+v)))) wr wl rfl ?_)
   refine mP (fun h7=>?_) fun h7=>?_
   ·exact wv (h:=hQ _ _ (by rw [KA h2 h0 (v:=outer+v) (by omega) h5 (by simpa using h7)];simp [go_sem]))
   ·have ho':∀ u:Int,outer≤u→u<outer+((v+1:Nat):Int)→yD q u=true:=fun u hu hv=>by
     by_cases hc:u<outer+v
     ·exact ho u hu hc
     ·rw [show u=outer+v by omega];simpa using h7
    exact wo (h:=wx hI0 (v+1) ⟨H.next,wg,wn,wn,(by exact ho')⟩)
  ·exact wv (h:=hQ _ _ (by rw [Ky h2 h0 fun u hu hv=>ho u hu (by omega)];simp [go_sem]))
end Go.Abs
end
