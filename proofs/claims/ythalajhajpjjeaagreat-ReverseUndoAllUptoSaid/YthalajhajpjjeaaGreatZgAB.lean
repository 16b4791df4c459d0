/- The abstraction layer, part E: operations that write or make -/
import Derived.Test.YthalajhajpjjeaaGreatZgAA
import Derived.Lib.AppendZerosOnto
set_option linter.unusedVariables false
set_option linter.unusedSimpArgs false
section
namespace Go.Abs
section
variable {P:Program} {M0:Nat→Prop} {H:AHeap} {σ:Nat→Option Ow} {w:World}
theorem Gc (o:Ow)(a:Nat)(h:σ a=some o):(λi=>if i=a then some o else σ i)=σ:=by grind
theorem Ea {n:Nat}:∀ (es:List (List D)) (i:Nat) (c c':List D),(∀ c∈es,c.length=n)->es[i]?=some c->c'.length=n ->
  (es.set i c').flatten=es.flatten.take (i * n)++c'++es.flatten.drop (i * n+n)
 | [],i,c,c',_,h,_=>by simp at h
 | e :: es,0,c,c',hl,h,hc'=>by
  have he:=hl e bW
  simp [he]
 | e :: es,i+1,c,c',hl,h,hc'=>by
  have he:=hl e bW
  simp at h
  have ih:=Ea es i c c' (λc hc=>hl c (by simp [hc])) h hc'
  simp only [DE,eU,ih]
  have e1:(i+1) * n=e.length+i * n:=by rw [Nat.add_mul,he];omega
  rw [e1,Ag,List.drop_append]
  simp only [List.append_assoc]
  rw [show List.take (e.length+i * n) e=e by rw [aG];omega,(aD:e.length+i * n - e.length=i * n),
   show List.drop (e.length+i * n+n) e=[] by rw [gY];omega,(aD:e.length+i * n+n - e.length=i * n+n)]
  simp
theorem iZ {α:Type}(a b c:List α)(j:Nat):(a++b++c)[j]?=if j<a.length then a[j]? else if j<a.length+b.length then b[j - a.length]? else c[j - a.length - b.length]?:=by grind
theorem Ac {M:Nat->Prop}{N:Nat->Prop}{v:Value}{d:D}(h:RepV M σ N w v d)(f:d.cells.all D.cell=true) :
    RepL M σ N w v.cells.toList d.cells/\∀ u∈v.cells.toList,u.oneCell'=true:=by
  cases d with
  | agg ds =>
    cases h
    rename_i g a e c
    exact ⟨⟨by simpa [Value.cells,D.cells] using e,λj u x hu hx=>c j u x (by simpa [Value.cells] using hu) (by simpa [D.cells] using hx)⟩,by simpa [Value.cells] using a⟩
  | _ =>
    first
    | (simp [D.cells,D.cell] at f;done)
    | (have a:=h.oneCell rfl
       have b:v.cells=#[v]:=by cases v<;>first|rfl|(simp [Value.oneCell'] at a)
       rw [b]
       refine ⟨⟨by simp [D.cells],λj u x hu hx=>?_⟩,by simpa using a⟩
       cases j with
       | zero=>simp [D.cells] at hu hx;subst hu;subst hx;exact h
       | succ j=>simp at hu)
theorem Jy {M:Nat->Prop}{N:Nat->Prop}{v:Value}{d:D}(h:RepV M σ N w v d)(a:d.cells.all D.cell=true):v.cells.size=d.cells.length:=by
 have:=(Ac h a).1.len;simpa using this
def OpU (P:Program)(x:Sem Unit)(M0:Nat->Prop)(H:AHeap)(σ:Nat->Option Ow)(w:World)(H':AHeap):Prop :=
 ∃ w' σ',x.run P w=.ok () w'/\Rel M0 H' σ' w'/\Stp σ w σ' w'/\Keeps (dA M0 H σ) σ H.al w (dA M0 H' σ') σ' H'.al w'
theorem LF {t:TypeId}{va vv:Value}{x v:D}(hR:Rel M0 H σ w)(hx:RepV (dA M0 H σ) σ H.al w va x)(hv:RepV (dA M0 H σ) σ H.al w vv v)(hc:(mC P t x v H).cond) :
  OpU P (Instr.storeAt t va vv) M0 H σ w (mC P t x v H).heap:=by
 unfold mC at *
 cases x<;>try (simp [AOut.bad] at hc;done)
 rename_i id ver i off
 cases hk:H.get id with
 | none=>simp [hk,AOut.bad] at hc
 | some k =>
  cases hci:k.es[i]? with
  | none=>simp [hk,hci,AOut.bad] at hc
  | some c =>
   simp only [hk,hci] at hc ⊢
   obtain ⟨hfz,hver,hsz,hinfo,hcell,hoff⟩:=hc
   obtain ⟨ti,hti⟩:=kZ.1 hinfo
   obtain ⟨o,ho,l⟩:=hR.lies id k hk
   obtain ⟨xs,hrow,hx1,hrep⟩:=l.row
   have hlt:i<k.es.length:=(aM.1 hci).1
   have hclen:c.length=o.esz:=l.esz c (aK hci)
   cases hx
   rename_i hN h1 h
   rcases h o ho with h'|⟨hv',b,hb,rfl⟩
   .have:=l.ver;omega
   .obtain ⟨hrv,hu1⟩:=Ac hv hcell
    have hvl:=Jy hv hcell
    have hxl:xs.length=k.es.length * o.esz:=hrep.len.trans (lU k.es l.esz)
    have hbound:i * o.esz+o.esz<=xs.length:=by
     rw [hxl]
     have:(i+1) * o.esz<=k.es.length * o.esz:=fD _ hlt
     rw [Nat.add_mul] at this;omega
    rcases hrow.2 with ⟨hnil,_⟩|⟨g,cap,cur,hval,hb0,hg,hnc,hcm,hcs,htake⟩
    .simp [Ow.block,hnil,Value.ownBlock] at hb
    .have hgb:g=b:=by simpa [Ow.block,hval,Value.ownBlock] using hb
     subst hgb
     have hcur:k.es.length * o.esz<=cur.size:=by rw [hcs];exact fD _ hnc
     have hst:=run_storeCells_at (P:=P) g (i * o.esz+off) k.ty vv.cells.toList 0 cur w hg (by simp;omega) hu1
     simp only [tA] at hst
     have hsize:vv.cells.size=ti.size:=by rw [hvl,hsz];simp [Program.cellsOf,hti]
     refine ⟨w.setRow g (cur.toList.take (i * o.esz+off)++vv.cells.toList++cur.toList.drop (i * o.esz+off+vv.cells.toList.length)).toArray,σ,?_,?_⟩
     .simp [Instr.storeAt,Instr.sureAddr,storeVar,sizeOf,typeInfo,hti,hsize]
      simpa [hsize] using hst
     .have hlc:(r9 c off v.cells).length=o.esz:=by simp [r9];omega
      have hp:=Rel.put hR hk hfz ho { k with es:=k.es.set i (r9 c off v.cells) } o (w':=w.setRow g (cur.toList.take (i * o.esz+off)++vv.cells.toList++cur.toList.drop (i * o.esz+off+vv.cells.toList.length)).toArray)
       ⟨rfl,rfl,rfl,by simp,λq _ hq=>setRow_other w g q _ (λe=>hq (by rw [e,hb]))⟩ (λb' hb'=>.inl hb') (.inl rfl) (bX l.ver) l.ty l.sz
       (λd hd=>by
        rcases mW hd with h'|h'
        .exact l.esz d h'
        .rw [h',hlc])
       (xs.take (i * o.esz+off)++vv.cells.toList++xs.drop (i * o.esz+off+vv.cells.toList.length))
       ⟨by simp [hxl];omega,.inr ⟨g,cap,_,by simpa using hval,hb0,setRow_heap w g cur _ k.ty _ hg,by simpa using hnc,hcm,by simp;omega,by
        have hcl:vv.cells.toList.length=vv.cells.size:=bW
        simp only [g7]
        rw [<- htake]
        apply gL
        intro j
        simp only [b5,iZ,c5,cD,fP]
        by_cases hj:j<k.es.length * o.esz
        .rw [if_pos hj]
         have m1:min (i * o.esz+off) cur.size=i * o.esz+off:=aD
         have m2:min (i * o.esz+off) (min (k.es.length * o.esz) cur.size)=i * o.esz+off:=aD
         rw [m1,m2]
         split
         .first|rfl|rw [if_pos hj]
         .split
          .rfl
          .first|rfl|rw [if_pos aD]
        .rw [if_neg hj]
         have m2:min (i * o.esz+off) (min (k.es.length * o.esz) cur.size)=i * o.esz+off:=aD
         rw [m2,if_neg aD,if_neg aD,if_neg aD]⟩⟩
       (λu hu=>by
        simp only [aW] at hu
        rcases hu with (hu|hu)|hu
        .exact hx1 u (dB hu)
        .exact hu1 u hu
        .exact hx1 u (fE hu))
       ⟨by rw [lU _ (λd hd=>by
          rcases mW hd with h'|h'
          .exact l.esz d h'
          .rw [h',hlc])];simp [hxl];omega,λj u d hu hd=>by
        simp only at hd
        rw [Ea k.es i c _ l.esz hci hlc] at hd
        have hfl:k.es.flatten.length=xs.length:=hrep.len.symm
        simp only [iZ,c5,b5,cD,hfl,hlc,fP] at hu hd
        have m1:min (i * o.esz+off) xs.length=i * o.esz+off:=aD
        have m2:min (i * o.esz) xs.length=i * o.esz:=aD
        rw [m1] at hu
        rw [m2] at hd
        split at hd
        .rename_i hj1
         rw [if_pos aD,if_pos aD] at hu
         try rw [if_pos hj1] at hd
         exact hrep.rep j u d hu hd
        .rename_i hj1
         split at hd
         .rename_i hj2
          simp only [r9,iZ,c5,b5,cD] at hd
          have m3:min off c.length=off:=aD
          rw [m3] at hd
          split at hd
          .rename_i hj3
           rw [if_pos aD,if_pos aD] at hu
           try rw [if_pos hj3] at hd
           refine hrep.rep j u d hu ?_
           have:=mP k.es i c l.esz hci (j - i * o.esz) aD
           rw [(aD:i * o.esz+(j - i * o.esz)=j)] at this
           rw [this,hd]
          .rename_i hj3
           split at hd
           .rename_i hj4
            rw [if_neg aD,if_pos aD] at hu
            refine hrv.rep (j - (i * o.esz+off)) u d hu ?_
            rw [<- hd];congr 1;omega
           .rename_i hj4
            rw [if_neg aD,if_neg aD] at hu
            have e1:i * o.esz+off+vv.cells.size+(j - (i * o.esz+off) - vv.cells.size)=j:=aD
            rw [e1] at hu
            refine hrep.rep j u d hu ?_
            have:=mP k.es i c l.esz hci (j - i * o.esz) aD
            rw [(aD:i * o.esz+(j - i * o.esz)=j)] at this
            rw [this,<- hd];congr 1;omega
         .rename_i hj2
          rw [if_neg aD,if_neg aD] at hu
          have e1:i * o.esz+off+vv.cells.size+(j - (i * o.esz+off) - vv.cells.size)=j:=aD
          rw [e1] at hu
          refine hrep.rep j u d hu ?_
          rw [<- hd];congr 1;omega⟩
      simp only [Gc o id ho] at hp
      exact hp
end
end Go.Abs
end
section
namespace Go.Abs
section
variable {P:Program} {M0:Nat→Prop} {H:AHeap} {σ:Nat→Option Ow} {w:World}
theorem rI {t:TypeId}{s:SlI}(h:sl P t=some s) :
  P.underlying t=some (.slice s.e)/\∃ i z,P.info? s.e=some i/\i.zero=some z/\i.size=s.sz/\i.bytes=s.by_/\0<s.sz/\s.by_<=4096/\s.z=z.cells.toList.map p7/\s.z.length=s.sz/\z.cells.size=s.sz/\s.z.all D.cell=true:=by
 unfold sl at h
 split at h
 .rename_i e f
  split at h
  .rename_i i g
   split at h
   .rename_i j
    obtain ⟨l,k,c,b⟩:=j
    cases h
    cases a:i.zero with
    | none=>simp [xT,a] at c;omega
    | some z =>
     refine ⟨f,i,z,g,a,rfl,rfl,l,k,by simp [xT,a],c,?_,b⟩
     simpa [xT,a] using c
   .cases h
  .cases h
 .cases h
theorem G0 {M:Nat->Prop}{N:Nat->Prop}(v:Value):RepV M σ N w v (p7 v):=by
 unfold p7
 split
 .exact .int _ _
 .exact .bool _
 .exact .str _
 .exact .nil
 .exact .nilp
 .exact .nilf
 .exact .junk _
theorem O3 {v:Value}(h:(p7 v).cell=true):v.oneCell'=true:=by
 cases v<;>first|rfl|(simp [p7,D.cell] at h)
theorem Fg {M:Nat->Prop}{N:Nat->Prop}(zs:List Value)(h:(zs.map p7).all D.cell=true):RepL M σ N w zs (zs.map p7)/\∀ u∈zs,u.oneCell'=true:=by
 refine ⟨⟨by simp,λj u d hu hd=>?_⟩,λu hu=>?_⟩
 .rw [aN,hu] at hd
  simp at hd;subst hd
  exact G0 u
 .simp only [List.all_map,cJ,Function.comp] at h
  exact O3 (h u hu)
theorem sJ {M:Nat->Prop}{N:Nat->Prop}{v:Value}{es:List (List D)}(h:RepV M σ N w v (.list es)) :
  (v=.slice none 0 0/\es=[])\/∃ ad cap sz xs,v=.slice (some ad) es.length cap/\RepL M σ N w xs es.flatten/\(∀ u∈xs,u.oneCell'=true) /\
   (∀ j u,xs[j]?=some u->¬ M ad.block/\w.cell? (ad.add j)=some u)/\es.length<=cap/\cap<=maxLen/\∀ c∈es,c.length=sz:=by
 generalize e:D.list es=d at h
 cases h with
 | listN=>cases e;exact .inl ⟨rfl,rfl⟩
 | list ad cap sz xs es k g b i l a f=>cases e;exact .inr ⟨ad,cap,sz,xs,rfl,⟨i,f⟩,l,a,k,g,b⟩
 | _=>cases e
theorem M8 {v:Value}{x:D}{es:List (List D)}(y:Rel M0 H σ w)(i:RepV (dA M0 H σ) σ H.al w v x)(a:pC H x=some es) :
  (v=.slice none 0 0/\es=[])\/∃ ad cap xs,v=.slice (some ad) es.length cap/\RepL (dA M0 H σ) σ H.al w xs es.flatten/\(∀ u∈xs,u.oneCell'=true) /\
   (∀ j u,xs[j]?=some u->w.cell? (ad.add j)=some u)/\es.length<=cap/\cap<=maxLen:=by
 cases x<;>simp only [pC] at a<;>try (cases a;done)
 case nil=>cases a;cases i;exact .inl ⟨rfl,rfl⟩
 case ne =>
  cases a;cases i;rename_i ad cap t
  exact .inr ⟨ad,cap,[],rfl,⟨rfl,λj u d hu=>by simp at hu⟩,by simp,λj u hu=>by simp at hu,dY _,t⟩
 case list es' =>
  cases a
  rcases sJ i with h|⟨ad,cap,C,xs,z,M,L,K,J,I,_⟩
  .exact .inl h
  grind
 case own id n =>
  cases q:H.get id with
  | none=>simp [q] at a
  | some k =>
   simp only [q] at a
   split at a
   .rename_i F
    cases a
    obtain ⟨o,s,l⟩:=y.lies id k q
    obtain ⟨xs,c,m,e⟩:=l.row
    cases i
    rename_i G z h
    rcases h o s with N|⟨_,rfl⟩
    .have:=l.ver;omega
    .rcases c.2 with ⟨f,A⟩|⟨g,cap,B,b,_,_,p,r,_⟩
     .exact .inl ⟨f,bP A⟩
     .exact .inr ⟨⟨g,0,none⟩,cap,xs,b,e,m,c.cells (g:=g) (by simp [b,Value.ownBlock]),p,r⟩
   .cases a
theorem KY {nid:Nat}(hn:¬ H.al nid){t t' ty:TypeId}{va vb:Value}{x y:D}(hR:Rel M0 H σ w)(hx:RepV (dA M0 H σ) σ H.al w va x)(hy:RepV (dA M0 H σ) σ H.al w vb y)
  (he0:(pC H y).isSome=true) (hc:(kH P nid t t' x y H).cond):(kH P nid t t' x y H).fact/\OpS P (Builtin.append_ #[t,t'] ty #[va,vb]) M0 H σ w (kH P nid t t' x y H).val (kH P nid t t' x y H).heap:=by
 unfold kH at *
 cases hs:sl P t with
 | none=>simp [hs,AOut.bad] at hc
 | some s =>
  cases he:pC H y with
  | none=>rw [he] at he0;cases he0
  | some ys =>
   simp only [hs,he] at hc ⊢
   obtain ⟨hu,i,z,hi,hz,hisz,hiby,hsz,hby,hsz',hszl,hzs,hzc⟩:=rI hs
   have hfit:∀ m:Nat,m<=4294967296->m<=maxLen/\m * s.by_<=140737488355328:=λm hm=>by
    refine ⟨by simp only [maxLen];omega,?_⟩
    have:=j4 hm hby
    omega
   have main:∀ (v:Value) (n:Nat) (xs:List Value),w.ownsRow 0 s.e s.sz v n xs->n+ys.length<=4294967296->(∀ c∈ys,c.length=s.sz)->ys.flatten.all D.cell=true ->
     ∃ v' w' news,(Builtin.append_ #[t,t] ty #[v,vb]).run P w=.ok v' w'/\w'.ownsRow 0 s.e s.sz v' (n+ys.length) (xs++news)/\w.grownBy w' v.ownBlock /\
      RepL (dA M0 H σ) σ H.al w news ys.flatten/\(∀ u∈news,u.oneCell'=true)/\(ys.length=0->v'=v)/\(∀ b,v'.ownBlock=some b->v.ownBlock=some b\/w.heap.size<=b):=by
    intro v n xs hown hle hlen hcell
    rcases M8 hR hy he with ⟨rfl,hnil⟩|⟨ad,cap,news,rfl,hrep,h1,hcl,hec,hem⟩
    .subst hnil
     exact ⟨v,w,[],run_append_owned_none w 0 t ty s.e i s.sz hu hi v n xs hown,by simpa using hown,⟨rfl,rfl,rfl,bC _,λ_ _ _=>rfl⟩,⟨rfl,λj u d hu=>by simp at hu⟩,by simp,λ_=>rfl,λb hb=>.inl hb⟩
    .have hnl:news.length=ys.length * s.sz:=hrep.len.trans (lU ys hlen)
     by_cases h0:ys.length=0
     .have hn0:news=[]:=bP (by rw [hnl,h0];simp)
      subst hn0
      have hrun:(Builtin.append_ #[t,t] ty #[v,.slice (some ad) ys.length cap]).run P w=.ok v w:=by
       rw [h0]
       rcases hown.2 with ⟨rfl,rfl⟩|⟨g,cap',cur,rfl,_,_,hnc,_⟩
       .simp [Builtin.append_,run_underlying hu,sizeOf,typeInfo,hi,Builtin.lenOf,Builtin.firstCells,loadCells,loadCellsFrom]
       .simp [Builtin.append_,run_underlying hu,sizeOf,typeInfo,hi,Builtin.lenOf,Builtin.firstCells,loadCells,loadCellsFrom,hnc,storeCells]
      exact ⟨v,w,[],hrun,by simpa [h0] using hown,⟨rfl,rfl,rfl,bC _,λ_ _ _=>rfl⟩,hrep,by simp,λ_=>rfl,λb hb=>.inl hb⟩
     .obtain ⟨hm1,hm2⟩:=hfit _ hle
      obtain ⟨v',w',hrun,hown',hg,_⟩:=run_append_own (P:=P) w 0 t ty s.e i z s.sz s.by_ hu hi hz hisz hiby hzs hsz v n xs hown ad ys.length cap news hnl hcl h1 hm1 hm2 (dY _)
      refine ⟨v',w',news,hrun,hown',hg,hrep,h1,λh=>absurd h h0,λb hb=>?_⟩
      rcases b6 b w.heap.size with hlt|hge
      .left
       rcases hown.2 with ⟨hnil,hn⟩|⟨g,cap',cur,hv,_,hgk,hnc,hcm,hcs,htake⟩
       .subst hnil;subst hn
        have hx0:xs=[]:=bP (bX hown.1)
        subst hx0
        have hr:=run_append_nil (P:=P) w t ty s.e i z hu hi hz ad ys.length cap news (by rw [hnl,hisz]) hcl aD (by simp only [maxLen] at hm1;omega) (by rw [hiby];have:=hm2;simp only [eM] at this;omega)
        rw [hr] at hrun
        cases hrun
        simp [Value.ownBlock] at hb
        omega
       .subst hv
        by_cases hroom:n+ys.length<=cap'
        .have hfit':n * i.size+news.length<=cur.size:=by rw [hnl,hcs,hisz,<- Nat.add_mul];exact fD _ hroom
         have hr:=run_append_room (P:=P) w t ty s.e i hu hi g n cap' cur hgk ad ys.length cap news (by rw [hnl,hisz]) hcl h1 hroom hfit'
         rw [hr] at hrun
         cases hrun
         exact hb
        .have holds:∀ j u,xs[j]?=some u->w.cell? ((⟨g,0,none⟩:Addr).add j)=some u:=hown.cells (g:=g) rfl
         have hr:=run_append_grow (P:=P) w t ty s.e i z hu hi hz ⟨g,0,none⟩ n cap' xs (by rw [hown.1,hisz]) holds ad ys.length cap news (by rw [hnl,hisz]) hcl aD (by simp only [maxLen] at hm1;omega) (growslice_fits aD (by rw [hiby];exact hm2))
         rw [hr] at hrun
         cases hrun
         simp [Value.ownBlock] at hb
         omega
      .exact .inr hge
   cases x<;>try (simp [AOut.bad] at hc;done)
   case nil =>
    obtain ⟨rfl,hle,hlen,hcell⟩:=hc
    cases hx
    obtain ⟨v',w',news,hrun,hown',hg,hrep,h1,_,hblk⟩:=main _ 0 [] (World.ownsRow_nil w 0 s.e s.sz) aD hlen hcell
    have hp:=Rel.push hR nid hn (w':=w') hg.os hg.tape hg.output hg.size (λb hb=>hg.block b hb (by simp [Value.ownBlock])) ⟨s.e,s.sz,ys,false⟩ ⟨ys.length,v',s.sz,s.e⟩
     (λb hb=>by
      rcases hblk b hb with h|h
      .simp [Value.ownBlock] at h
      .exact h) rfl rfl rfl hlen news (bX hown') h1 hrep
    refine ⟨trivial,v',w',_,hrun,hp.1,.own v' nid ys.length (.inl rfl) ?_ λo ho=>?_,hp.2.1,hp.2.2⟩
    .rcases hown'.2 with ⟨rfl,_⟩|⟨g,c,cu,rfl,_⟩<;>rfl
    .simp at ho;subst ho;exact .inr ⟨rfl,rfl⟩
   case own id n =>
    cases hk:H.get id with
    | none=>simp [hk,AOut.bad] at hc
    | some k =>
     simp only [hk] at hc ⊢
     obtain ⟨rfl,hfz,hty,hnn0,hle,hkl,hlen,hcell⟩:=hc
     obtain ⟨o,ho,l⟩:=hR.lies id k hk
     obtain ⟨xs,hrow,hx1,hrepx⟩:=l.row
     cases hx
     rename_i h1' hN h
     rcases h o ho with h'|⟨_,rfl⟩
     .have:=l.ver;omega
     .have hesz:o.esz=s.sz:=l.sz.trans hkl
      have hrow':w.ownsRow 0 s.e s.sz o.val k.es.length xs:=by rw [<- hty,<- hesz];exact hrow
      obtain ⟨v',w',news,hrun,hown',hg,hrep,h1,hsame,hblk⟩:=main o.val k.es.length xs hrow' aD hlen hcell
      have hp:=Rel.put hR (w':=w') hk hfz ho { k with es:=k.es++ys } ⟨k.es.length+ys.length,v',s.sz,s.e⟩ hg hblk
       (by
        by_cases h0:ys.length=0
        .left
         have:=l.ver;have hs':=hsame h0
         obtain ⟨ov,oval,oe,ot⟩:=o
         simp only at this hs' hesz ⊢
         have ht:=l.ty
         simp only at ht
         subst this;subst hs';subst hesz
         rw [ht,hty];simp [h0]
        .right;have:=l.ver;simp only;omega)
       bW (by simp [hty]) (by simp [hkl])
       (λc hc=>by
        rcases aW.1 hc with h'|h'
        .simpa [<- hesz] using l.esz c h'
        .exact hlen c h')
       (xs++news) (by simpa [hty] using hown') (λu hu=>by
        rcases aW.1 hu with h'|h'
        .exact hx1 u h'
        .exact h1 u h')
       ⟨by simp only [aL,lZ,hrepx.len,hrep.len],λj u d hu hd=>by
        simp only [lZ] at hd
        by_cases hj:j<xs.length
        .rw [aS hj] at hu
         rw [aS (by rw [<- hrepx.len];exact hj)] at hd
         exact hrepx.rep j u d hu hd
        .rw [aZ aD] at hu
         rw [aZ (by rw [<- hrepx.len];omega),<- hrepx.len] at hd
         exact hrep.rep _ u d hu hd⟩
      have hnn:n=k.es.length:=hnn0.symm
      subst hnn
      refine ⟨trivial,v',w',_,hrun,hp.1,.own v' id _ hN ?_ λo' ho'=>?_,hp.2.1,hp.2.2⟩
      .rcases hown'.2 with ⟨rfl,_⟩|⟨g,c,cu,rfl,_⟩<;>rfl
      .simp at ho';subst ho';exact .inr ⟨rfl,rfl⟩
end
end Go.Abs
end
section
namespace Go.Abs
section
variable {P:Program} {M0:Nat→Prop} {H:AHeap} {σ:Nat→Option Ow} {w:World}
theorem mE (z:List D)(n:Nat):((List.replicate n z).flatten).length=n * z.length:=by simp_all
theorem xK (z:List D)(n j:Nat)(d:0<z.length)(b:j<n * z.length):((List.replicate n z).flatten)[j]?=z[j % z.length]?:=by
 have a:=mP (n:=z.length) (List.replicate n z) (j / z.length) z (λc hc=>by rw [k7 hc])
  (by rw [uV,if_pos (Nat.div_lt_of_lt_mul (by rw [Nat.mul_comm];exact b))]) (j % z.length) (Nat.mod_lt _ d)
 rw [show j / z.length * z.length+j % z.length=j by rw [Nat.mul_comm];exact Nat.div_add_mod _ _] at a
 exact a
theorem qJ {M:Nat->Prop}{N:Nat->Prop}(z:Value)(n:Nat)(e:0<z.cells.size)(h:(z.cells.toList.map p7).all D.cell=true) :
  RepL M σ N w (madeCells z.cells (n * z.cells.size)).toList (List.replicate n (z.cells.toList.map p7)).flatten/\∀ u∈(madeCells z.cells (n * z.cells.size)).toList,u.oneCell'=true:=by
 obtain ⟨g,i⟩:=Fg (M:=M) (σ:=σ) (N:=N) (w:=w) z.cells.toList h
 have a:∀ j u,(madeCells z.cells (n * z.cells.size)).toList[j]?=some u->j<n * z.cells.size/\z.cells.toList[j % z.cells.size]?=some u:=by
  intro j u b
  have c:j<n * z.cells.size:=by
   have:=(aM.1 b).1
   simpa [size_madeCells] using this
  refine ⟨c,?_⟩
  have k:j % z.cells.size<z.cells.size:=Nat.mod_lt _ e
  simp [madeCells,c] at b
  grind
 refine ⟨⟨by rw [mE];simp [size_madeCells],λj u d b hd=>?_⟩,λu b=>?_⟩
 .obtain ⟨c,f⟩:=a j u b
  rw [xK _ n j (bX e) (bX c)] at hd
  exact g.rep _ u d f (bX hd)
 .obtain ⟨j,c⟩:=List.mem_iff_getElem?.1 b
  exact i u (aK (a j u c).2)
theorem OI {nid:Nat}(S:¬ H.al nid){t:TypeId}{F G:Value}{l c:D}(W:Rel M0 H σ w)(T:RepV (dA M0 H σ) σ H.al w F l)(B:RepV (dA M0 H σ) σ H.al w G c)
  (r:(CK P nid t l c H).cond):(CK P nid t l c H).fact/\OpS P (Instr.makeSlice t F G) M0 H σ w (CK P nid t l c H).val (CK P nid t l c H).heap:=by
 unfold CK at *
 split at r
 .rename_i s _ n _ m O
  obtain ⟨rfl,A,R⟩:=r
  cases T;cases B
  obtain ⟨K,i,z,V,J,j,p,L,C,a,f,v,x⟩:=rI O
  obtain ⟨k,rfl⟩:=eW A
  have U:k<=4294967296:=aD
  have u:i.bytes * k<=281474976710656:=by
   rw [p]
   have:=j4 C U
   omega
  obtain ⟨w',g,h,q⟩:=run_make_full (P:=P) w 0 t s.e i z s.sz K V J j _ _ k u (by simp only [maxLen];omega) (dY _)
  obtain ⟨Q,X⟩:=qJ (M:=dA M0 H σ) (σ:=σ) (N:=H.al) (w:=w) z k aD (by rw [<- a];exact x)
  have y:=Rel.push W nid S (w':=w') q.os q.tape q.output q.size (λb u=>q.block b u bW) ⟨s.e,s.sz,List.replicate k s.z,false⟩ ⟨k,.slice (some ⟨w.heap.size,0,none⟩) k k,s.sz,s.e⟩
   (λb u=>by simp [Ow.block,Value.ownBlock] at u;omega) bW rfl rfl (λc r=>by rw [k7 r,f])
   _ (by simpa [v] using h) X (by simpa [a] using Q)
  refine ⟨trivial,_,w',_,g,y.1,.own _ nid k (.inl rfl) rfl λo ho=>?_,y.2.1,y.2.2⟩
  grind
 .exact r.elim
theorem yE {t K ty e:TypeId}{i:TypeInfo}{z:Value}{kq kn:IntKind}(N:P.underlying t=some (.slice e))(C:P.underlying K=some (.int kn))(Z:P.info? e=some i)(hz:i.zero=some z)
  (M:z.cells.size=i.size) (O:0<i.size) (v:Value) (n:Nat) (xs:List Value) (c:w.ownsRow 0 e i.size v n xs) (m:Nat) (T:∀ u∈(madeCells z.cells (m * z.cells.size)).toList,u.oneCell'=true) (hm:n+m<=4294967296) (a9:n+m<=maxLen) (G:(n+m) * i.bytes<=140737488355328) :
  ∃ v' w',(Builtin.append_ #[t,K] ty #[v,.int kq m]).run P w=.ok v' w'/\w'.ownsRow 0 e i.size v' (n+m) (xs++(madeCells z.cells (m * z.cells.size)).toList)/\w.grownBy w' v.ownBlock /\
   (m=0->v'=v)/\(∀ b,v'.ownBlock=some b->v.ownBlock=some b\/w.heap.size<=b):=by
 have X:∀ k,madeCells z.cells (k * z.cells.size)=Builtin.zeroCells z.cells k:=λk=>rfl
 have D:(madeCells z.cells (m * z.cells.size)).toList.length=m * i.size:=by simp [size_madeCells,M]
 obtain ⟨a,j⟩:∃ x,x=(madeCells z.cells (m * z.cells.size)).toList:=⟨_,rfl⟩
 rw [<- j] at D ⊢
 have s:(xs++a).length=(n+m) * i.size:=by rw [aL,c.1,D,Nat.add_mul]
 have hw:IntKind.i64.wrap (m:Int)=m:=by rw [IntKind.wrap_i64];omega
 have V:¬ ((m:Int)<0):=aD
 have Y:m * i.bytes<=281474976710656:=by have:=fD i.bytes (aD:m<=n+m);omega
 have a1:¬ (281474976710656<(m:Int) * (i.bytes:Int)):=by rw [<- Int.natCast_mul];omega
 have PZ:∀ (o:Nat),o<n+m->∀ (L:Option Nat),
   (w.drew.alloc (.cells (xs.toArray++Builtin.zeroCells z.cells m++Builtin.zeroCells z.cells (grownCap w (n+m) o e - (n+m))) e)).ownsRow 0 e i.size
    (.slice (some ⟨w.heap.size,0,none⟩) (n+m) (grownCap w (n+m) o e)) (n+m) (xs++a) /\
   w.grownBy (w.drew.alloc (.cells (xs.toArray++Builtin.zeroCells z.cells m++Builtin.zeroCells z.cells (grownCap w (n+m) o e - (n+m))) e)) L:=by
  intro o ho L
  have a6:=grownCap_ge w (n+m) o e
  have J:grownCap w (n+m) o e<=maxLen:=grownCap_le_maxLen w (n+m) o e a9
  have a2:Builtin.zeroCells z.cells m=a.toArray:=by rw [j,<- X]
  rw [a2]
  refine ⟨⟨s,.inr ⟨w.heap.size,_,_,rfl,dY _,heap_alloc_new w.drew _,a6,J,?_,?_⟩⟩,⟨rfl,rfl,rfl,by simp,λk hk _=>heap_alloc_old w.drew _ hk⟩⟩
  .simp only [Array.size_append,nK,size_zeroCells,M,c.1,D,<- Nat.add_mul]
   congr 1
   omega
  .simp only [Array.toList_append,List.append_assoc]
   rw [<- List.append_assoc,<- s]
   exact List.take_left
 by_cases E:m=0
 .subst E
  have a5:a=[]:=bP (by rw [D];simp)
  subst a5
  have R:(Builtin.append_ #[t,K] ty #[v,.int kq (0:Nat)]).run P w=.ok v w:=by
   rcases c.2 with ⟨rfl,rfl⟩|⟨g,b0,A,rfl,_,_,W,_⟩
   .simp [Builtin.append_,run_underlying N,run_underlying C,sizeOf,typeInfo,Z,asInt,asIntOf,IntKind.wrap_i64]
   .simp [Builtin.append_,run_underlying N,run_underlying C,sizeOf,typeInfo,Z,asInt,asIntOf,IntKind.wrap_i64,W,storeCells]
  exact ⟨v,w,R,by simpa using c,⟨rfl,rfl,rfl,bC _,λ_ _ _=>rfl⟩,λ_=>rfl,λb hb=>.inl hb⟩
 .rcases c.2 with ⟨rfl,rfl⟩|⟨g,l,A,rfl,a8,hg,W,J,a7,I⟩
  .have hx:xs=[]:=bP (bX c.1)
   subst hx
   have S:=Lib.run_append_nil_zeros (P:=P) w t K ty e i z kq kn N C Z hz m aD O aD Y
   have y:=PZ 0 aD (Value.ownBlock (.slice none 0 0))
   simp only [eM,cZ,Array.empty_append] at y ⊢
   exact ⟨_,_,S,y.1,y.2,λh=>absurd h E,λb hb=>.inr (by simp [Value.ownBlock] at hb;omega)⟩
  .by_cases q:n+m<=l
   .have a0:n * i.size+a.length<=A.size:=by rw [D,a7,<- Nat.add_mul];exact fD _ q
    have Q:=run_storeCells_at P g (n * i.size) e a 0 A w hg (bX a0) (λu hu=>by
     rw [j] at hu
     exact T u hu)
    have a3:(Builtin.zeroCells z.cells m).toList=a:=by rw [j,X]
    have a4:¬ (m * i.size=0):=Nat.mul_ne_zero E aD
    simp only [tA] at Q
    have S:(Builtin.append_ #[t,K] ty #[.slice (some ⟨g,0,none⟩) n l,.int kq m]).run P w=.ok (.slice (some ⟨g,0,none⟩) (n+m) l) (w.setRow g (A.toList.take (n * i.size)++a++A.toList.drop (n * i.size+a.length)).toArray):=by
     simp [Builtin.append_,run_underlying N,run_underlying C,sizeOf,typeInfo,zeroValue,Z,hz,asInt,asIntOf,hw,V,a4,a1,q,Addr.add_lit,a3,Q]
    refine ⟨_,_,S,⟨s,.inr ⟨g,l,_,rfl,a8,setRow_heap w g A _ e _ hg,q,J,?_,?_⟩⟩,⟨rfl,rfl,rfl,by simp,λk _ hk=>setRow_other w g k _ (λe=>hk (by simp [Value.ownBlock,e]))⟩,λh=>absurd h E,λb hb=>.inl hb⟩
    .simp only [nK,aL,c5,gG,fP]
     omega
    .rw [I,<- s]
     exact List.take_left
   .have U:(Builtin.firstCells i.size n (.slice (some ⟨g,0,none⟩) n l)).run P w.drew=.ok xs.toArray w.drew :=
     run_firstCells_some (P:=P) w.drew i.size n ⟨g,0,none⟩ n l xs c.1 (c.cells (g:=g) rfl)
    have S:=Lib.run_append_grow_zeros (P:=P) w t K ty e i z kq kn N C Z hz (some ⟨g,0,none⟩) n l xs U m aD O aD aD Y (growslice_fits aD G)
    have y:=PZ l aD (Value.ownBlock (.slice (some ⟨g,0,none⟩) n l))
    exact ⟨_,_,S,y.1,y.2,λh=>absurd h E,λb hb=>.inr (by simp [Value.ownBlock] at hb;omega)⟩
theorem Ij {t E ty:TypeId}{s:SlI}{va vb:Value}{x y:D}(hs:sl P t=some s)(hR:Rel M0 H σ w)(hx:RepV (dA M0 H σ) σ H.al w va x)(hy:RepV (dA M0 H σ) σ H.al w vb y)
  (q:(pJ P s E x y H).cond):(pJ P s E x y H).fact/\OpS P (Builtin.append_ #[t,E] ty #[va,vb]) M0 H σ w (pJ P s E x y H).val (pJ P s E x y H).heap:=by
 unfold pJ at *
 obtain ⟨v,i,z,hi,hz,V,a7,R,a8,f,A,Q,a1⟩:=rI hs
 cases y<;>try (simp [AOut.bad] at q;done)
 rename_i kq m
 cases x<;>try (simp [AOut.bad] at q;done)
 rename_i id n
 cases K:A5 P E with
 | none=>simp [K,AOut.bad] at q
 | some kn =>
  simp only [K] at q ⊢
  cases Y:H.get id with
  | none=>simp [Y,AOut.bad] at q
  | some k =>
   simp only [Y] at q ⊢
   obtain ⟨a4,a5,r,U,I,J⟩:=q
   obtain ⟨m,rfl⟩:=eW a4
   simp only [Int.toNat_natCast] at I ⊢
   have a3:P.underlying E=some (.int kn):=by
    unfold A5 at K
    grind
   obtain ⟨o,ho,l⟩:=hR.lies id k Y
   obtain ⟨X,B,a2,a⟩:=l.row
   cases hx
   rename_i a9 hN h
   cases hy
   rcases h o ho with C|⟨_,rfl⟩
   .have:=l.ver;omega
   .have b:o.esz=s.sz:=l.sz.trans J
    rw [<- V] at R A Q b J
    have G:w.ownsRow 0 s.e i.size o.val k.es.length X:=by rw [<- r];rw [b] at B;exact B
    have hb:(n+m) * i.bytes<=140737488355328:=by
     have:=j4 I (aD:i.bytes<=4096)
     omega
    obtain ⟨hr,h1⟩:=qJ (M:=dA M0 H σ) (σ:=σ) (N:=H.al) (w:=w) z m aD (by rw [<- f];exact a1)
    subst U
    obtain ⟨Z,w',T,p,hg,F,W⟩:=yE (P:=P) (ty:=ty) (kq:=kq) v a3 hi hz Q R o.val k.es.length X G m h1 I (by simp only [maxLen];omega) hb
    have a0:∀ c∈List.replicate m s.z,c.length=i.size:=λc q=>by rw [k7 q,A]
    have hp:=Rel.put hR (w':=w') Y a5 ho { k with es:=k.es++List.replicate m s.z } ⟨k.es.length+m,Z,i.size,s.e⟩ hg W
     (by
      by_cases h0:m=0
      .left
       have:=l.ver;have S:=F h0
       obtain ⟨ov,a6,oe,ot⟩:=o
       simp only at this S b ⊢
       have ht:=l.ty
       simp only at ht
       subst this;subst S;subst b
       rw [ht,r];simp [h0]
      .right;have:=l.ver;simp only;omega)
     bW (by simp [r]) (by simp [J])
     (λc q=>by
      rcases aW.1 q with C|C
      .simpa [<- b] using l.esz c C
      .exact a0 c C)
     (X++(madeCells z.cells (m * z.cells.size)).toList) (by simpa [r] using p) (λu v=>by
      rcases aW.1 v with C|C
      .exact a2 u C
      .exact h1 u C)
     ⟨by simp only [aL,lZ,a.len];rw [hr.len,f],λj u d v hd=>by
      simp only [lZ] at hd
      by_cases hj:j<X.length
      .rw [aS hj] at v
       rw [aS (by rw [<- a.len];exact hj)] at hd
       exact a.rep j u d v hd
      .rw [aZ aD] at v
       rw [aZ (by rw [<- a.len];omega),<- a.len,f] at hd
       exact hr.rep _ u d v hd⟩
    refine ⟨trivial,Z,w',_,T,hp.1,.own Z id _ hN ?_ λo' ho'=>?_,hp.2.1,hp.2.2⟩
    .rcases p.2 with ⟨rfl,_⟩|⟨g,c,cu,rfl,_⟩<;>rfl
    .simp at ho';subst ho';exact .inr ⟨rfl,rfl⟩
theorem Ii {nid:Nat}(l:¬ H.al nid){t a ty:TypeId}{h g:Value}{x y:D}(k:Rel M0 H σ w)(j:RepV (dA M0 H σ) σ H.al w h x)(i:RepV (dA M0 H σ) σ H.al w g y)
  (d:(kH P nid t a x y H).cond):(kH P nid t a x y H).fact/\OpS P (Builtin.append_ #[t,a] ty #[h,g]) M0 H σ w (kH P nid t a x y H).val (kH P nid t a x y H).heap:=by
 cases f:pC H y with
 | some n=>exact KY l k j i (by rw [f];rfl) d
 | none =>
  cases e:sl P t with
  | none=>unfold kH at d;simp [e,f,AOut.bad] at d
  | some s =>
   have m:kH P nid t a x y H=pJ P s a x y H:=by unfold kH;simp only [e,f]
   rw [m] at d ⊢
   exact Ij e k j i d
theorem Ha (w:World)(cs:Array Value)(t:TypeId)(j:Nat):(w.alloc (.cells cs t)).cell? ⟨w.heap.size,j,none⟩=cs[j]?:=by simp_all
theorem MC {M0:Nat->Prop}{nid:Nat}(hn:¬ H.al nid)(hR:Rel M0 H σ w)(m:Bool)(t:TypeId)(cs:Array Value)(ds:List D)(hrep:RepL (dA M0 H σ) σ H.al w cs.toList ds)(h1:∀ u∈cs.toList,u.oneCell'=true) :
  let d:D:=if m then .ptr nid 1 0 0 else .adr ds
  let H':=if m then H.push nid ⟨t,ds.length,[ds],false⟩ else H
  ∃ σ',Rel M0 H' σ' (w.alloc (.cells cs t))/\RepV (dA M0 H' σ') σ' H'.al (w.alloc (.cells cs t)) (.pointer (some ⟨w.heap.size,0,none⟩)) d/\Stp σ w σ' (w.alloc (.cells cs t)) /\
   Keeps (dA M0 H σ) σ H.al w (dA M0 H' σ') σ' H'.al (w.alloc (.cells cs t)):=by
 have hold:∀ b,b<w.heap.size->(w.alloc (.cells cs t)).heap[b]?=w.heap[b]?:=λ_ hb=>heap_alloc_old _ _ hb
 have hl:cs.size=ds.length:=by simpa using hrep.len
 cases m with
 | false =>
  obtain ⟨hR',hS,hK⟩:=Rel.grow hR (w':=w.alloc (.cells cs t)) rfl rfl rfl bW hold
  refine ⟨σ,hR',.adr _ cs.toList ds hrep.len h1 (λj u hu=>⟨?_,?_⟩) λj u d hu hd=>(hrep.rep j u d hu hd).keep hK,hS,hK⟩
  .rintro (hm|⟨i,k,o,_,_,ho,hb⟩)
   .exact absurd (hR.m0 _ hm) (oJ _)
   .exact absurd (hR.lt i o _ ho hb).1 (oJ _)
  .rw [jE,eM,Ha];simpa using hu
 | true =>
  simp only [if_true]
  have hp:=Rel.push hR nid hn (w':=w.alloc (.cells cs t)) rfl rfl rfl bW hold ⟨t,ds.length,[ds],false⟩ ⟨1,.slice (some ⟨w.heap.size,0,none⟩) 1 1,ds.length,t⟩
   (λb hb=>by simp [Ow.block,Value.ownBlock] at hb;omega) rfl rfl rfl bW cs.toList
   (World.ownsRow_lit w cs 1 (dY _) (by simp [maxLen]) (by simp [hl])) h1 (bX hrep)
  refine ⟨_,hp.1,.ptr _ nid 1 0 0 (.inl rfl) rfl λo ho=>?_,hp.2.1,hp.2.2⟩
  simp at ho;subst ho
  exact .inr ⟨rfl,_,rfl,by simp⟩
theorem Rq {nid:Nat}(o:¬ H.al nid){m:Bool}{t:TypeId}{d:Value}{x:D}(p:Rel M0 H σ w)(l:RepV (dA M0 H σ) σ H.al w d x)(g:(Lc P nid m t x H).cond) :
  (Lc P nid m t x H).fact/\OpS P (Instr.box t d) M0 H σ w (Lc P nid m t x H).val (Lc P nid m t x H).heap:=by
 have c:x.cells.all D.cell=true:=by unfold Lc at g;cases m<;>exact g
 obtain ⟨n,q⟩:=Ac l c
 obtain ⟨σ',k,j,i,h⟩:=MC o p m t d.cells x.cells n q
 have b:(Instr.box t d).run P w=.ok (.pointer (some ⟨w.heap.size,0,none⟩)) (w.alloc (.cells d.cells t)):=by
  simp [Instr.box,newVar,newRow]
 cases m with
 | false=>exact ⟨trivial,_,_,σ',b,k,j,i,h⟩
 | true=>exact ⟨trivial,_,_,σ',b,k,j,i,h⟩
theorem Ps {t:TypeId}{z:List D}(h:zd P t=some z):∃ de i v,P.underlying t=some de/\P.info? t=some i/\i.zero=some v/\z=v.cells.toList.map p7/\z.length=i.size/\0<i.size/\z.all D.cell=true:=by
 unfold zd at h
 split at h
 .rename_i de i d e
  split at h
  .rename_i a
   cases h
   cases b:i.zero with
   | none=>simp [xT,b] at a;omega
   | some v=>exact ⟨de,i,v,d,e,b,by simp [xT,b],a.1,a.2.1,a.2.2⟩
  .cases h
 .cases h
theorem NJ {nid:Nat}(q:¬ H.al nid){m:Bool}{t:TypeId}(u:Rel M0 H σ w)(s:(wW P nid m t H).cond) :
  (wW P nid m t H).fact/\OpS P (Instr.alloc t true (.tuple #[])) M0 H σ w (wW P nid m t H).val (wW P nid m t H).heap:=by
 unfold wW at *
 cases h:zd P t with
 | none=>simp [h,AOut.bad] at s
 | some z =>
  obtain ⟨C,i,v,y,r,o,rfl,A,B,d⟩:=Ps h
  obtain ⟨p,x⟩:=Fg (M:=dA M0 H σ) (σ:=σ) (N:=H.al) (w:=w) v.cells.toList d
  obtain ⟨σ',n,l,k,j⟩:=MC q u m t v.cells _ p x
  have b:(Instr.alloc t true (.tuple #[])).run P w=.ok (.pointer (some ⟨w.heap.size,0,none⟩)) (w.alloc (.cells v.cells t)):=by
   simp [Instr.alloc,zeroValue,typeInfo,r,o,newVar,newRow]
  cases m with
  | false=>exact ⟨trivial,_,_,σ',b,n,l,k,j⟩
  | true=>exact ⟨trivial,_,_,σ',b,n,l,k,j⟩
theorem M4 (cs:List Value):∀ (b d:Nat) (zs:Array Value),b+d+cs.length<=zs.size ->
  ((cs.zipIdx d).foldl (λa (p:Value × Nat)=>a.setIfInBounds (b+p.2) p.1) zs).toList=zs.toList.take (b+d)++cs++zs.toList.drop (b+d+cs.length):=by
 induction cs with
 | nil=>intro b d zs h;simp
 | cons c cs ih =>
  intro b d zs h
  simp only [List.zipIdx_cons,List.foldl_cons]
  have i:b+d+(cs.length+1)<=zs.size:=by simpa using h
  rw [ih b (d+1) _ (by simp;omega)]
  apply gL
  intro q
  simp only [Array.toList_setIfInBounds,iZ,c5,g7,fP,b5,cD,dZ,fH]
  have e:min (b+(d+1)) zs.size=b+(d+1):=aD
  grind
theorem Bc {M:Nat->Prop}{N:Nat->Prop}(places:Nat->Option (Nat × Nat)):∀ (pv:List (Nat × Value)) (pd:List (Nat × D)) (zs:Array Value) (ds out:List D),
  pv.map (·.1)=pd.map (·.1)->(∀ (j:Nat) (v:Value) (d:D),(pv.map (·.2))[j]?=some v->(pd.map (·.2))[j]?=some d->RepV M σ N w v d)->(∀ p∈pd,p.2.cells.all D.cell=true) ->
  RepL M σ N w zs.toList ds->(∀ u∈zs.toList,u.oneCell'=true)->AM places ds pd=some out ->
  ∃ cs,Instr.fill places zs pv=some cs/\RepL M σ N w cs.toList out/\(∀ u∈cs.toList,u.oneCell'=true)/\out.length=ds.length
 | [],pd,zs,ds,out,hk,hr,hcl,hz,h1,hf=>by
  cases pd with
  | cons p pd=>simp at hk
  | nil=>simp [AM] at hf;subst hf;exact ⟨zs,rfl,hz,h1,rfl⟩
 | (i,v) :: pv,pd,zs,ds,out,hk,hr,hcl,hz,h1,hf=>by
  cases pd with
  | nil=>simp at hk
  | cons p pd =>
   obtain ⟨i',d⟩:=p
   simp at hk
   obtain ⟨rfl,hk⟩:=hk
   unfold AM at hf
   unfold Instr.fill
   cases hp:places i with
   | none=>simp [hp] at hf
   | some q =>
    obtain ⟨off,size⟩:=q
    simp only [hp] at hf ⊢
    split at hf
    .rename_i hc
     obtain ⟨hc1,hc2⟩:=hc
     have hvd:=hr 0 v d rfl rfl
     obtain ⟨hrv,hv1⟩:=Ac hvd (hcl (i,d) bW)
     have hvl:v.cells.size=d.cells.length:=Jy hvd (hcl (i,d) bW)
     have hzl:zs.size=ds.length:=by simpa using hz.len
     have hcond:(v.cells.size≠size||off+v.cells.size > zs.size)=false:=by simp;omega
     have hs:=M4 v.cells.toList off 0 zs (by simp;omega)
     simp only [tA] at hs
     have hfold:v.cells.zipIdx.foldl (λcs (x:Value × Nat)=>cs.setIfInBounds (off+x.2) x.1) zs=(v.cells.toList.zipIdx 0).foldl (λcs (x:Value × Nat)=>cs.setIfInBounds (off+x.2) x.1) zs:=by
      rw [<- Array.foldl_toList,Array.toList_zipIdx]
     obtain ⟨cs,hfill,hrep,h1',hlen⟩:=Bc places pv pd (v.cells.zipIdx.foldl (λcs (x:Value × Nat)=>cs.setIfInBounds (off+x.2) x.1) zs) (r9 ds off d.cells) out hk
      (λj u x hu hx=>hr (j+1) u x hu hx) (λp hp=>hcl p (by simp [hp]))
      (by
       rw [hfold,hs]
       have hvl':v.cells.toList.length=d.cells.length:=by simpa using hvl
       refine ⟨by simp [r9];omega,λj u x hu hx=>?_⟩
       simp only [r9,iZ,c5,b5,cD,fP,hvl',hzl] at hu hx
       split at hx
       .rename_i hj
        rw [if_pos hj] at hu
        split at hx
        .rename_i hj';rw [if_pos hj'] at hu;exact hz.rep j u x hu hx
        .cases hx
       .rename_i hj
        rw [if_neg hj] at hu
        split at hx
        .rename_i hj';rw [if_pos hj'] at hu;exact hrv.rep _ u x hu hx
        .rename_i hj';rw [if_neg hj'] at hu;exact hz.rep _ u x hu hx)
      (by
       rw [hfold,hs]
       intro u hu
       simp only [aW] at hu
       rcases hu with (hu|hu)|hu
       .exact h1 u (dB hu)
       .exact hv1 u hu
       .exact h1 u (fE hu)) hf
     refine ⟨cs,?_,hrep,h1',by rw [hlen];simp [r9];omega⟩
     simp only [hcond,eX,if_false]
     exact hfill
    .cases hf
end
end Go.Abs
end
section
namespace Go.Abs
section
variable {P:Program} {M0:Nat→Prop} {H:AHeap} {σ:Nat→Option Ow} {w:World}
structure Parts (M:Nat->Prop) (σ:Nat->Option Ow) (N:Nat->Prop) (w:World) (pv:List (Nat × Value)) (pd:List (Nat × D)):Prop where
 keys:pv.map (·.1)=pd.map (·.1)
 rep:∀ (j:Nat) (v:Value) (d:D),(pv.map (·.2))[j]?=some v->(pd.map (·.2))[j]?=some d->RepV M σ N w v d
theorem NB {t:TypeId}{m:List (Nat × Value)}{d:List (Nat × D)}(C:Rel M0 H σ w)(s:Parts (dA M0 H σ) σ H.al w m d)
  (j:(sZ P t d H).cond):(sZ P t d H).fact/\OpS P (Instr.build t m.toArray) M0 H σ w (sZ P t d H).val (sZ P t d H).heap:=by
 unfold sZ at *
 cases n:zd P t with
 | none=>simp [n,AOut.bad] at j
 | some z =>
  cases h:bk P t with
  | none=>simp [n,h,AOut.bad] at j
  | some b =>
   simp only [n,h] at j ⊢
   cases p:AM b.place z d with
   | none=>simp [p,AOut.bad] at j
   | some out =>
    simp only [p] at j ⊢
    refine ⟨trivial,?_⟩
    obtain ⟨F,i,v,r,B,y,rfl,J,L,g⟩:=Ps n
    obtain ⟨A,E⟩:=Fg (M:=dA M0 H σ) (σ:=σ) (N:=H.al) (w:=w) v.cells.toList g
    obtain ⟨u,f,c,q,_⟩:=Bc _ m d v.cells _ out s.keys s.rep (bX j) A E p
    refine .pure C (run_build w t m.toArray u ?_) (.agg u.toList out c.len q c.rep)
    unfold Program.built
    unfold bk at h
    rw [r] at h
    cases F<;>simp at h
    case array n' e =>
     obtain ⟨G,o,rfl⟩:=h
     simp only [B,r,y,o]
     exact f
    case struct fs =>
     obtain ⟨l,I,rfl⟩:=h
     have K:(BK.st l).place=λx=>l[x]?:=rfl
     simp_all
theorem sQ (sz:Nat):∀ (n:Nat) (l:List D),(q7 sz n l).length=n
 | 0,_=>rfl
 | n+1,l=>by simp [q7,sQ sz n]
theorem Ee (sz:Nat):∀ (n:Nat) (l:List D),l.length=n * sz->(q7 sz n l).flatten=l
 | 0,l,h=>by simp at h;subst h;rfl
 | n+1,l,h=>by
  simp only [q7,eU]
  rw [Ee sz n _ (by rw [gG,h,Nat.add_mul];omega),List.take_append_drop]
theorem Ds (sz:Nat):∀ (n:Nat) (l:List D),l.length=n * sz->∀ c∈q7 sz n l,c.length=sz
 | 0,l,h,c,hc=>by cases hc
 | n+1,l,h,c,hc=>by
  simp only [q7,aU] at hc
  rw [Nat.add_mul] at h
  rcases hc with rfl|hc
  .rw [c5];omega
  .exact Ds sz n _ (by rw [gG];omega) c hc
theorem Dt {nid:Nat}(S:¬ H.al nid){m:Bool}{t:TypeId}{n:Nat}{Y:List (Nat × Value)}{y:List (Nat × D)}(hR:Rel M0 H σ w)(hp:Parts (dA M0 H σ) σ H.al w Y y)
  (V:(iR P nid m t n y H).cond):(iR P nid m t n y H).fact/\OpS P (Instr.buildSlice t n Y.toArray) M0 H σ w (iR P nid m t n y H).val (iR P nid m t n y H).heap:=by
 unfold iR at *
 cases hs:sl P t with
 | none=>simp [hs,AOut.bad] at V
 | some s =>
  simp only [hs] at V ⊢
  cases hf:AM (λi=>some (i * s.sz,s.sz)) (List.replicate n s.z).flatten y with
  | none=>simp [hf,AOut.bad] at V
  | some out =>
   simp only [hf] at V ⊢
   obtain ⟨O,i,z,hi,hz,E,a4,a5,a6,A,R,Q,a0⟩:=rI hs
   have K:n<=1000/\s.sz<=1000/\(y.all λp=>p.2.cells.all D.cell)=true:=by cases m<;>exact V
   obtain ⟨hn,a1,a2⟩:=K
   obtain ⟨hr,h1⟩:=qJ (M:=dA M0 H σ) (σ:=σ) (N:=H.al) (w:=w) z n aD (by rw [<- A];exact a0)
   rw [<- A] at hr
   obtain ⟨v,a,g,X,T⟩:=Bc (λi=>some (i * s.sz,s.sz)) Y y (madeCells z.cells (n * z.cells.size)) _ out hp.keys hp.rep (bX a2) hr h1 hf
   have I:out.length=n * s.sz:=by rw [T,mE,R]
   have U:v.size=n * s.sz:=by have:=g.len;simp at this;omega
   have Z:¬ n * s.sz > 2 ^ 24:=by
    have:=j4 hn a1
    omega
   have B:(Instr.buildSlice t n Y.toArray).run P w=.ok (.slice (some ⟨w.heap.size,0,none⟩) n n) (w.alloc (.cells v s.e)):=by
    by_cases h0:n * s.sz=0
    .have c:(Array.range (n * s.sz)).map (λx=>(#[]:Array Value)[x % (#[]:Array Value).size]!)=madeCells z.cells (n * z.cells.size):=by
      rw [Q];simp [madeCells,h0,Array.range_zero']
     rw [<- c] at a
     simp [Instr.buildSlice,run_underlying O,sizeOf,typeInfo,hi,E,h0] at a ⊢
     simp [a,newRow]
    .have c:(Array.range (n * s.sz)).map (λx=>z.cells[x % z.cells.size]!)=madeCells z.cells (n * z.cells.size):=by
      simp [madeCells,Q]
     rw [<- c] at a
     have q:¬ 16777216<n * s.sz:=aD
     simp [Instr.buildSlice,run_underlying O,sizeOf,typeInfo,hi,E,h0,q,zeroValue,hz,a,newRow]
   have J:=Ee s.sz n out I
   have C:∀ b,b<w.heap.size->(w.alloc (.cells v s.e)).heap[b]?=w.heap[b]?:=λ_ W=>heap_alloc_old _ _ W
   cases m with
   | false =>
    simp only [eX,if_false]
    obtain ⟨a3,hS,hK⟩:=Rel.grow hR (w':=w.alloc (.cells v s.e)) rfl rfl rfl bW C
    refine ⟨trivial,_,_,σ,B,a3,?_,hS,hK⟩
    have hv:=RepV.list (M:=dA M0 H σ) (σ:=σ) (N:=H.al) (w:=w.alloc (.cells v s.e)) ⟨w.heap.size,0,none⟩ n s.sz v.toList (q7 s.sz n out) (by simp [sQ]) (by simp only [maxLen];omega)
     (Ds s.sz n out I) (by rw [J];exact g.len) X (λj u O=>⟨by
      rintro (hm|⟨i,k,o,_,_,ho,W⟩)
      .exact absurd (hR.m0 _ hm) (oJ _)
      .exact absurd (hR.lt i o _ ho W).1 (oJ _),by
      rw [jE,eM,Ha];simpa using O⟩) (λj u d O hd=>by rw [J] at hd;exact (g.rep j u d O hd).keep hK)
    rw [sQ] at hv
    exact hv
   | true =>
    simp only [if_true]
    have G:=Rel.push hR nid S (w':=w.alloc (.cells v s.e)) rfl rfl rfl bW C ⟨s.e,s.sz,q7 s.sz n out,false⟩ ⟨n,.slice (some ⟨w.heap.size,0,none⟩) n n,s.sz,s.e⟩
     (λb W=>by simp [Ow.block,Value.ownBlock] at W;omega) (by simp [sQ]) rfl rfl (Ds s.sz n out I) v.toList
     (by simp only [sQ];exact World.ownsRow_lit w v n (dY _) (by simp only [maxLen];omega) U) X (by simp only;rw [J];exact g)
    refine ⟨trivial,_,_,_,B,G.1,.own _ nid n (.inl rfl) rfl λo ho=>?_,G.2.1,G.2.2⟩
    simp at ho;subst ho;exact .inr ⟨rfl,rfl⟩
theorem PM {v:Value}{e n:Nat}{k:Blk}(t:Rel M0 H σ w)(p:RepV (dA M0 H σ) σ H.al w v (.own e n))(s:H.get e=some k)(r:k.es.length=n) :
  (v=.slice none 0 0/\n=0)\/∃ b cap,v=.slice (some ⟨b,0,none⟩) n cap/\n<=cap/\cap<=maxLen/\∃ o,σ e=some o/\o.block=some b/\o.esz=k.sz/\o.ver=n:=by
 obtain ⟨o,j,l⟩:=t.lies e k s
 obtain ⟨z,c,m,i⟩:=l.row
 cases p
 rename_i B A h
 rcases h o j with D|⟨u,rfl⟩
 .have:=l.ver;omega
 .rcases c.2 with ⟨d,C⟩|⟨g,cap,x,a,_,_,q,f,_⟩
  .exact .inl ⟨d,aD⟩
  .exact .inr ⟨g,cap,by rw [a,r],aD,f,o,j,by simp [Ow.block,a,Value.ownBlock],l.sz,u.symm⟩
theorem Rb {t ty:TypeId}{l:Value}{x:D}(f:Rel M0 H σ w)(g:RepV (dA M0 H σ) σ H.al w l x)(d:(ER P t x H).cond) :
  (ER P t x H).fact/\OpS P (Builtin.len_ #[t] ty #[l]) M0 H σ w (ER P t x H).val (ER P t x H).heap:=by
 unfold ER at *
 split at d
 .rename_i e c
  split at d
  .cases g
   exact ⟨trivial,.pure f (by simp [Builtin.len_,run_underlying c,goInt]) (.int _ _)⟩
  .rename_i s
   rcases sJ g with ⟨rfl,rfl⟩|⟨u,j,p,o,rfl,_,_,_,i,h,_⟩
   .exact ⟨by simp,.pure f (by simp [Builtin.len_,run_underlying c,goInt]) (.int _ _)⟩
   .refine ⟨?_,.pure f (by simp [Builtin.len_,run_underlying c,goInt]) (.int _ _)⟩
    simp only [maxLen] at h;simp only;omega
  .rename_i r n
   split at d
   .rename_i k m
    rcases PM f g m d with ⟨rfl,rfl⟩|⟨b,j,rfl,i,h,_⟩
    .exact ⟨by simp,.pure f (by simp [Builtin.len_,run_underlying c,goInt]) (.int _ _)⟩
    .refine ⟨?_,.pure f (by simp [Builtin.len_,run_underlying c,goInt]) (.int _ _)⟩
     simp only [maxLen] at h;simp only;omega
   .exact d.elim
  .exact d.elim
 .rename_i c
  split at d
  .cases g
   exact ⟨trivial,.pure f (by simp [Builtin.len_,run_underlying c,goInt]) (.int _ _)⟩
  .exact d.elim
 .rename_i n e c
  refine ⟨trivial,.pure f ?_ (.int _ _)⟩
  simp [Builtin.len_,run_underlying c,goInt]
 .exact d.elim
end
end Go.Abs
end
section
namespace Go.Abs
section
variable {P:Program} {M0:Nat→Prop} {H:AHeap} {σ:Nat→Option Ow} {w:World}
theorem S0 {M:Nat->Prop}{N:Nat->Prop}{v:Value}{cs:List D}(c:Nat)(h:RepV M σ N w v (.adr cs)) :
  ∃ a,v=.pointer (some a)/\RepV M σ N w (.pointer (some (a.add c))) (.adr (cs.drop c)):=by
 obtain ⟨i,f,rfl,b,g,e⟩:=K8 h
 refine ⟨i,rfl,.adr _ (f.drop c) _ (by simp [b.len]) (λu hu=>g u (fE hu)) (λj u hu=>?_) λj u d hu hd=>?_⟩
 .rw [cD] at hu
  obtain ⟨l,k⟩:=e _ u hu
  rw [iD,CG]
  grind
 .rw [cD] at hu hd
  exact b.rep _ u d hu hd
theorem PI {v:Value}{c ver i a:Nat}{k:Blk}(g:Rel M0 H σ w)(d:RepV (dA M0 H σ) σ H.al w v (.ptr c ver i a))(f:H.get c=some k)(j:k.es.length=ver) :
  ∃ b o,σ c=some o/\o.block=some b/\v=.pointer (some ⟨b,i * o.esz+a,none⟩)/\H.al c/\o.ver=ver:=by
 obtain ⟨o,m,l⟩:=g.lies c k f
 cases d
 rename_i p n h
 have e:o.ver=k.es.length:=l.ver
 grind
theorem Ej {v:Value}{x:D}{c:Nat}(l:Rel M0 H σ w)(h:RepV (dA M0 H σ) σ H.al w v x)(e:(eJ x c H).cond) :
  ∃ a,v=.pointer (some a)/\RepV (dA M0 H σ) σ H.al w (.pointer (some (a.add c))) (eJ x c H).val/\(eJ x c H).heap=H/\(eJ x c H).fact:=by
 unfold eJ at *
 cases x<;>try (exact e.elim)
 case adr cs =>
  obtain ⟨a,s,r⟩:=S0 c h
  grind
 case ptr id ver i o =>
  cases f:H.get id with
  | none=>simp [f,AOut.bad] at e
  | some k =>
   simp only [f] at e ⊢
   obtain ⟨b,n,p,q,rfl,m,j⟩:=PI l h f e
   refine ⟨_,rfl,?_,trivial,trivial⟩
   rw [jE]
   refine .ptr _ id ver i (o+c) m rfl λo' ho'=>?_
   grind
theorem EF {t:TypeId}{z:Value}{x:D}{f:Nat}(C:Rel M0 H σ w)(F:RepV (dA M0 H σ) σ H.al w z x)(k:(iF P t x f H).cond) :
  (iF P t x f H).fact/\OpS P (Instr.fieldAt t z f) M0 H σ w (iF P t x f H).val (iF P t x f H).heap:=by
 unfold iF at *
 cases m:bk P t with
 | none=>simp [m,AOut.bad] at k
 | some b =>
  cases b with
  | ar p=>simp [m,AOut.bad] at k
  | st l =>
   simp only [m] at k ⊢
   cases B:l[f]? with
   | none=>simp [B,AOut.bad] at k
   | some q =>
    obtain ⟨g,p⟩:=q
    simp only [B] at k ⊢
    obtain ⟨a,rfl,o,J,j⟩:=Ej C F k.1
    refine ⟨j,?_⟩
    rw [J]
    unfold bk at m
    cases u:P.underlying t with
    | none=>simp [u] at m
    | some L =>
     rw [u] at m
     cases L<;>simp at m
     rename_i K
     have I:∃ d,K[f]?=some d/\∃ i,P.info? d.type=some i/\g=d.offset/\p=i.size:=by
      have E:∀ (d:List Field) (l:List (Nat × Nat)) (f:Nat),d.mapM (λf=>(P.info? f.type).map λi=>(f.offset,i.size))=some l->l[f]?=some (g,p) ->
        ∃ x,d[f]?=some x/\∃ i,P.info? x.type=some i/\g=x.offset/\p=i.size:=by
       intro d
       induction d with
       | nil=>intro l f h A;simp at h;subst h;simp at A
       | cons a d ih =>
        intro l f h A
        simp only [List.mapM_cons,Option.bind_eq_bind,Option.pure_def] at h
        cases s:P.info? a.type with
        | none=>simp [s] at h
        | some i =>
         cases G:d.mapM (λf=>(P.info? f.type).map λi=>(f.offset,i.size)) with
         | none=>simp [s,G] at h
         | some rest =>
          grind
      grind
     obtain ⟨d,y,i,s,rfl,rfl⟩:=I
     have v:i.size≠0:=by have:=k.2;omega
     exact .pure C (by simp [Instr.fieldAt,run_underlying u,y,Instr.sureAddr,fieldPlace,sizeOf,typeInfo,s,v]) o
theorem NH {t:TypeId}{n sz:Nat}(h:Pn P t=some (n,sz)):∃ e i,P.underlying t=some (.array n e)/\P.info? e=some i/\i.size=sz:=by grind [Pn]
theorem ED {t:TypeId}{W vi:Value}{x i:D}(R:Rel M0 H σ w)(Q:RepV (dA M0 H σ) σ H.al w W x)(hi:RepV (dA M0 H σ) σ H.al w vi i)(B:(iE P t x i H).cond) :
  (iE P t x i H).fact/\OpS P (Instr.indexAt t W vi) M0 H σ w (iE P t x i H).val (iE P t x i H).heap:=by
 unfold iE at *
 cases i<;>try (exact B.elim)
 rename_i kd n
 cases hi
 have L:∀ (x:D),RepV (dA M0 H σ) σ H.al w W x->(match Pn P t with
   | some (len,sz)=>(⟨(eJ x (n.toNat * sz) H).cond/\0<=n/\n<len,(eJ x (n.toNat * sz) H).fact,(eJ x (n.toNat * sz) H).val,(eJ x (n.toNat * sz) H).heap⟩:AOut)
   | none=>AOut.bad H).cond->(match Pn P t with
   | some (len,sz)=>(⟨(eJ x (n.toNat * sz) H).cond/\0<=n/\n<len,(eJ x (n.toNat * sz) H).fact,(eJ x (n.toNat * sz) H).val,(eJ x (n.toNat * sz) H).heap⟩:AOut)
   | none=>AOut.bad H).fact/\OpS P (Instr.indexAt t W (.int kd n)) M0 H σ w (match Pn P t with
   | some (len,sz)=>(⟨(eJ x (n.toNat * sz) H).cond/\0<=n/\n<len,(eJ x (n.toNat * sz) H).fact,(eJ x (n.toNat * sz) H).val,(eJ x (n.toNat * sz) H).heap⟩:AOut)
   | none=>AOut.bad H).val (match Pn P t with
   | some (len,sz)=>(⟨(eJ x (n.toNat * sz) H).cond/\0<=n/\n<len,(eJ x (n.toNat * sz) H).fact,(eJ x (n.toNat * sz) H).val,(eJ x (n.toNat * sz) H).heap⟩:AOut)
   | none=>AOut.bad H).heap:=by
  intro x Q B
  cases ha:Pn P t with
  | none=>simp [ha,AOut.bad] at B
  | some q =>
   obtain ⟨len,sz⟩:=q
   simp only [ha] at B ⊢
   obtain ⟨h1,K,S⟩:=B
   obtain ⟨a,rfl,A,hh,N⟩:=Ej R Q h1
   refine ⟨N,?_⟩
   rw [hh]
   obtain ⟨e,i,h,a3,p⟩:=NH ha
   exact .pure R (by simp [Instr.indexAt,run_underlying h,asIntOf,Instr.sureAddr,K,S,sizeOf,typeInfo,a3,p]) A
 cases x<;>try (exact L _ Q B)
 case list es =>
  cases G:sl P t with
  | none=>simp [G,AOut.bad] at B
  | some s =>
   simp only [G] at B ⊢
   obtain ⟨⟨h0,h1⟩,K⟩:=B
   obtain ⟨h,ti,z,M,hz,p,_,a0,_⟩:=rI G
   obtain ⟨q,rfl⟩:=eW h0
   simp only [Int.toNat_natCast] at K ⊢
   have I:q<es.length:=aD
   have J:es[q]?=some es[q]:=aA I
   rw [J] at K ⊢
   simp only [Option.getD_some] at K ⊢
   refine ⟨trivial,?_⟩
   rcases sJ Q with ⟨rfl,rfl⟩|⟨ad,a5,sz,xs,rfl,A,Z,O,a2,hm,E⟩
   .simp at I
   .have U:sz=s.sz:=(E _ (aC I)).symm.trans K
    subst U
    have a4:=lU es E
    have Y:q * s.sz+s.sz<=xs.length:=by
     rw [A.len,a4]
     have:(q+1) * s.sz<=es.length * s.sz:=fD _ I
     rw [Nat.add_mul] at this;omega
    refine .pure R (v:=.pointer (some (ad.add (q * s.sz)))) (by simp [Instr.indexAt,run_underlying h,asIntOf,I,sizeOf,typeInfo,M,p]) ?_
    refine .adr _ ((xs.drop (q * s.sz)).take s.sz) _ (by simp only [c5,gG];omega) (λu h=>Z u (fE (dB h))) (λj u h=>?_) λj u d h hd=>?_
    .rw [b5] at h
     split at h
     .rw [cD] at h
      obtain ⟨h5,h6⟩:=O _ u h
      rw [iD,CG]
      exact ⟨h5,h6⟩
     .cases h
    .rw [b5] at h
     split at h
     .rename_i hj
      rw [cD] at h
      exact A.rep _ u d h (by rw [mP es q _ E J j hj];exact hd)
     .cases h
 case own id m =>
  cases G:sl P t with
  | none=>simp [G,AOut.bad] at B
  | some s =>
   cases X:H.get id with
   | none=>simp [G,X,AOut.bad] at B
   | some k =>
    simp only [G,X] at B ⊢
    obtain ⟨⟨h0,h1⟩,K,S⟩:=B
    obtain ⟨h,ti,z,M,hz,p,_,a0,_⟩:=rI G
    obtain ⟨q,rfl⟩:=eW h0
    simp only [Int.toNat_natCast] at S ⊢
    have I:q<k.es.length:=aD
    have a1:q<m:=aD
    refine ⟨trivial,?_⟩
    obtain ⟨o,ho,l⟩:=R.lies id k X
    have V:o.esz=s.sz:=by
     rw [aA I] at S
     simp only [Option.getD_some] at S
     exact (l.esz _ (aC I)).symm.trans S
    have hN:H.al id:=by cases Q;assumption
    rcases PM R Q X K with ⟨rfl,rfl⟩|⟨b,a5,rfl,a2,hm,o',F,hb,_,T⟩
    .omega
    .rw [ho] at F;cases F
     refine .pure R (v:=.pointer (some ⟨b,q * s.sz,none⟩)) (by simp [Instr.indexAt,run_underlying h,asIntOf,a1,sizeOf,typeInfo,M,p,jE]) ?_
     refine .ptr _ id m q 0 hN rfl λo' F=>?_
     rw [ho] at F;cases F
     exact .inr ⟨T.symm,b,hb,by rw [V];simp⟩
theorem Mr {i k j:Value}{c a b:D}(g:Rel M0 H σ w)(e:RepV (dA M0 H σ) σ H.al w i c)(m:RepV (dA M0 H σ) σ H.al w k a)(l:RepV (dA M0 H σ) σ H.al w j b)
  (f:(uQ c a b H).cond):(uQ c a b H).fact/\OpS P (do pure (if <- asBool i then k else j)) M0 H σ w (uQ c a b H).val (uQ c a b H).heap:=by
 unfold uQ at *
 split at f
 .cases e;cases m
  exact ⟨trivial,.pure g (by simp [asBool]) (.bool _)⟩
 .cases e;cases m
  rename_i h
  have:=h f
  cases this
  exact ⟨trivial,.pure g (by simp [asBool]) (.bool _)⟩
 .cases e;cases l
  exact ⟨trivial,.pure g (by simp [asBool]) (.bool _)⟩
 .cases e;cases l
  rename_i h
  have:=h f
  cases this
  exact ⟨trivial,.pure g (by simp [asBool]) (.bool _)⟩
 .exact f.elim
theorem OB {l n m:Value}{c a b:D}(f:Rel M0 H σ w)(e:RepV (dA M0 H σ) σ H.al w l c)(k:RepV (dA M0 H σ) σ H.al w n a)(j:RepV (dA M0 H σ) σ H.al w m b)
  (i:(zN c a b H).cond):(zN c a b H).fact/\OpS P (do pure (if <- asBool l then n else m)) M0 H σ w (zN c a b H).val (zN c a b H).heap:=by
 unfold zN at *
 split at i
 .rename_i c a b
  cases e;cases k;cases j
  cases c<;>exact ⟨trivial,.pure f (by simp [asBool]) (.bool _)⟩
 .rename_i c a g b
  cases e;cases k;cases j
  rename_i h
  cases c with
  | true=>exact ⟨trivial,.pure f (by simp [asBool]) (.bool _)⟩
  | false =>
   have:=h (i rfl)
   cases this
   exact ⟨trivial,.pure f (by simp [asBool]) (.bool _)⟩
 .rename_i c g a b
  cases e;cases k;cases j
  rename_i h
  cases c with
  | false=>exact ⟨trivial,.pure f (by simp [asBool]) (.bool _)⟩
  | true =>
   have:=h (i rfl)
   cases this
   exact ⟨trivial,.pure f (by simp [asBool]) (.bool _)⟩
 .rename_i c g a r b
  cases e;cases k;cases j
  rename_i p h o q
  cases c with
  | false =>
   have:=q (i.2 rfl)
   cases this
   exact ⟨trivial,.pure f (by simp [asBool]) (.bool _)⟩
  | true =>
   have:=h (i.1 rfl)
   cases this
   exact ⟨trivial,.pure f (by simp [asBool]) (.bool _)⟩
 .exact Mr f e k j i
theorem I7 {mx:Bool}{b:Builtin}(i:b=if mx then .max else .min){t:TypeId}{ts:Array TypeId}{d c:Value}{x y:D}(f:Rel M0 H σ w)(h:RepV (dA M0 H σ) σ H.al w d x)(g:RepV (dA M0 H σ) σ H.al w c y)
  (e:(CJ mx x y H).cond):(CJ mx x y H).fact/\OpS P (if mx then Builtin.max_ ts t #[d,c] else Builtin.min_ ts t #[d,c]) M0 H σ w (CJ mx x y H).val (CJ mx x y H).heap:=by
 unfold CJ at *
 split at e
 .obtain rfl:=e
  cases h;cases g
  cases mx with
  | true=>exact ⟨trivial,.pure f (by simp [Builtin.max_,Builtin.max2]) (.int _ _)⟩
  | false=>exact ⟨trivial,.pure f (by simp [Builtin.min_,Builtin.min2]) (.int _ _)⟩
 .exact e.elim
theorem Ic {s d:TypeId}{h:Value}{x:D}(j:Rel M0 H σ w)(i:RepV (dA M0 H σ) σ H.al w h x)(b:(mV P s d x H).cond) :
  (mV P s d x H).fact/\OpS P (convert s d h) M0 H σ w (mV P s d x H).val (mV P s d x H).heap:=by
 unfold mV at *
 split at b
 .rename_i p n
  split at b
  .rename_i k c
   cases i
   obtain ⟨o,m⟩:=b
   obtain ⟨r,g⟩:=kZ.1 o
   unfold A5 at c
   split at c
   .rename_i q l
    cases c
    exact ⟨trivial,.pure j (by simp [convert,run_underlying g,run_underlying l,Conv.intToInt,r7 m]) (.int _ _)⟩
   .cases c
  .exact b.elim
 .split at b
  .rename_i f e
   cases i
   exact ⟨trivial,.pure j (by simp [convert,run_underlying f,run_underlying e]) (.str _)⟩
  .exact b.elim
 .exact b.elim
theorem RO {b:UnOp}{d:Value}{x:D}(f:Rel M0 H σ w)(e:RepV (dA M0 H σ) σ H.al w d x)(c:(S1 b x H).cond) :
  (S1 b x H).fact/\OpS P (Op.unary b d) M0 H σ w (S1 b x H).val (S1 b x H).heap:=by
 unfold S1 at *
 split at c
 .cases e;exact ⟨trivial,.pure f (by simp [Op.unary]) (.bool _)⟩
 .cases e;exact ⟨trivial,.pure f (by simp [Op.unary,Op.intArith];rw [r7 (bX c)]) (by simpa using RepV.int _ _)⟩
 .exact c.elim
theorem H7 {c:Value}{x:D}{i:Nat}(h:Rel M0 H σ w)(e:RepV (dA M0 H σ) σ H.al w c x)(d:(mU x i H).cond) :
  (mU x i H).fact/\OpS P (Instr.extract c i) M0 H σ w (mU x i H).val (mU x i H).heap:=by
 unfold mU at *
 cases x<;>try (exact d.elim)
 rename_i j
 cases e
 rename_i b f k
 have g:i<b.length:=by rw [f];exact d
 refine ⟨trivial,.pure h (v:=b[i]) (by simp [Instr.extract,g]) ?_⟩
 grind
theorem IU {nid:Nat}(k:¬ H.al nid){m:Bool}{t:TypeId}{x:Sem Value}(h:Rel M0 H σ w)(g:x.run P w=.ok (.slice none 0 0) w)(l:(DB P nid m t H).cond) :
  (DB P nid m t H).fact/\OpS P x M0 H σ w (DB P nid m t H).val (DB P nid m t H).heap:=by
 unfold DB at *
 cases m with
 | false=>exact ⟨trivial,.pure h g .nil⟩
 | true =>
  cases i:sl P t with
  | none=>simp [i,AOut.bad] at l
  | some s =>
   have f:=Rel.push h nid k (w':=w) rfl rfl rfl (bC _) (λ_ _=>rfl) ⟨s.e,s.sz,[],false⟩ ⟨0,.slice none 0 0,s.sz,s.e⟩ (λb hb=>by simp [Ow.block,Value.ownBlock] at hb) rfl rfl rfl bW
    [] (World.ownsRow_nil w 0 s.e s.sz) bW ⟨rfl,λj u d hu=>by simp at hu⟩
   refine ⟨trivial,_,w,_,g,f.1,.own _ nid 0 (.inl rfl) rfl λo ho=>?_,f.2.1,f.2.2⟩
   grind
theorem Gk {d:Value}{x:D}(j:Rel M0 H σ w)(g:RepV (dA M0 H σ) σ H.al w d x)(c:(jI x H).cond) :
  ∃ a,d=.pointer (some a)/\(jI x H).fact/\RepV (dA M0 H σ) σ H.al w d (jI x H).val/\(jI x H).heap=H:=by
 unfold jI at *
 cases x<;>try (exact c.elim)
 case adr cs =>
  obtain ⟨r,l,rfl,_⟩:=K8 g
  grind
 case ptr id ver i o =>
  cases e:H.get id with
  | none=>simp [e,AOut.bad] at c
  | some k =>
   simp only [e] at c ⊢
   obtain ⟨b,m,n,p,rfl,q,h⟩:=PI j g e c
   grind
end
end Go.Abs
end
