/- Values of a match, Solve, Matches of the program. · slices.R -/
import Derived.Test.YthalajhajpjjeaaGreatZgAF
import Derived.Test.YthalajhajpjjeaaGreatZgAA
import Derived.Test.YthalajhajpjjeaaGreatZgAQ
import Derived.Test.YthalajhajpjjeaaGreatZgAR
import Derived.Shelf.Spec.SlicesInsert
import Derived.Lib.AppendZerosOnto
import Derived.Shelf.Bits.Mul64
import Derived.Deep.OwnRows
import Derived.Laws.NewBlocks
import Derived.Laws.CopyOwn
set_option linter.unusedVariables false
set_option linter.unusedSimpArgs false
section
set_option maxRecDepth 100000
set_option maxHeartbeats 4000000
open Go Go.Proofs
namespace Go.Abs
theorem EL (p:Pattern)(h:Host)(m:Part)(N:SOk p h m):Pure Tryz.prog 178 [p.d,h.d,m.d] (.tup [dLI (fB p h m []).1,dI (fB p h m []).2]):=by
 have hv:=N.vars
 have h0:=LG (vs:=[]) hv.1 bW bW
 rw [ET] at h0
 refine Tz.pK ⟨λt=>t==11||t==15,λr=>match r with|1=>[(2,3),(2,4),(0,5),(1,5),(2,5)]|_=>[]⟩ Tryz.func178 rfl (λQ P=>?_)
 have Y:=wa @Pattern.d.eq_1 (wa @Pattern.c.eq_1 (wa @Host.d.eq_1 (wa @Host.c.eq_1 (wa @Part.d.eq_1 (wa @Part.c.eq_1 @Term.c.eq_1)))))
 refine wv (h:=?_)
 repeat first|intro _|refine ⟨eL,?_⟩
 refine bD (λi e H=>∃ l:List Int × List Bool,(e 3=.adr p.c/\e 4=.adr h.c/\e 5=.adr m.c/\e 8=.own 2 p.vars.toNat/\e 9=.own 5 p.vars.toNat/\e 23=.list (p.slots.map Slot.c)/\e 24=dI p.slots.length/\e 25=dI i)/\(H.get 2=some ⟨3,1,l.1.map cI,false⟩)/\(2<H.next)/\(H.get 5=some ⟨4,1,l.2.map cB,false⟩)/\(5<H.next)/\(i<=p.slots.length)/\(StOk p.vars.toNat l)/\(jA h m (JT p []) (p.slots.take i)=some l)) (λi=>p.slots.length - i) 0 ⟨((List.replicate p.vars.toNat 0,List.replicate p.vars.toNat false)),wg,(by simp [go_sem,cI]),wn,(by simp [go_sem,cB]),wn,wi,(by exact h0),(by rw [ET];rfl)⟩ λI0 C i e H a2=>?_
 obtain ⟨l,E0,Z,T,W,R,hi,q,I⟩:=a2
 have Y:=wa Y (wa E0 (wa Z (wa (b8 T) (wa W (b8 R)))))
 refine dP (λE=>?_) λE=>?_
 .obtain ⟨x,U⟩:=cW (p.slots[i])
  have A:x∈p.slots:=U ▸ aC E
  have hn:=N.node x A
  have s:x.node.toNat<m.nodes.length:=aD
  have hk:=N.img _ (aC s)
  have w:(m.nodes[x.node.toNat]).toNat<h.values.length:=aD
  have ha:=N.attr x A
  rw [aA s,Option.getD_some,aA w,Option.getD_some] at ha
  have B:x.attr.toNat<(h.values[(m.nodes[x.node.toNat]).toNat]).length:=aD
  have hV:lT h m x=h.values[(m.nodes[x.node.toNat]).toNat][x.attr.toNat]:=by unfold lT;rw [aA s,Option.getD_some,aA w,Option.getD_some,aA B];rfl
  have hb:=N.have_ A
  have L:=N.term x A
  have v:=q.l1
  have J:=q.l2
  have a5:=L.1
  have a6:=L.2
  have n:=tE E I
  rw [<- U] at n
  obtain ⟨o,a⟩:∃ y,y=l3 h m l x:=⟨_,rfl⟩
  have j:StOk p.vars.toNat o:=a ▸ yD q hb L
  rw [<- a] at n
  have f:¬ 0<=x.term.var->o=l:=λhn=>by rw [a];unfold l3 kY;rw [if_neg (by simp [hn])]
  have F:0<=x.term.var->x.term.var.toNat<l.2.length:=λhn=>by omega
  obtain ⟨kb,V⟩:=cW (l.2[x.term.var.toNat]?.getD false)
  have K:0<=x.term.var\/(¬ 0<=x.term.var/\l.2[x.term.var.toNat]?=none)\/(¬ 0<=x.term.var/\l.2[x.term.var.toNat]?=some kb):=by
   by_cases G:0<=x.term.var
   .exact .inl G
   .right
    cases ho:l.2[x.term.var.toNat]? with
    | none=>exact .inl ⟨G,rfl⟩
    | some b=>rw [ho] at V;exact .inr ⟨G,by rw [V];rfl⟩
  rcases K with hc|hc|hc
  .have Y:=wa Y (wa E (wa (aA E) (wa (Eq.symm U) (wa (aA s) (wa (aA w) (wa (aA B) (wa (Eq.symm hV) (wa @Slot.c.eq_1 (wa @cL.eq_1 (wa v (wa J (wa @j7 (wa @cB.eq_1 (wa hc ((aA (F hc)))))))))))))))))
   refine wv (h:=?_)
   repeat first|intro _|refine ⟨eL,?_⟩
   refine wq (λh7=>?_) λh7=>?_
   .have hF:kY l x=true:=by simp only [kY,aQ,decide_eq_true_eq,c9];exact ⟨hc,by simpa [aA (F hc)] using h7⟩
    unfold l3 at a
    rw [if_pos hF] at a
    have a0:x.term.var.toNat<l.1.length:=aD
    have e1:o.1.map cI=(l.1.map cI).set x.term.var.toNat (cI (lT h m x - x.term.add)):=by rw [a,bY]
    have e2:o.2.map cB=(l.2.map cB).set x.term.var.toNat (cB true):=by rw [a,bY]
    have a4:D.clLL ((l.1.map cI).set x.term.var.toNat [D.int .i64 (lT h m x - x.term.add)])=true:=by have:=qK o.1;rw [e1] at this;exact this
    have Y:=wa Y (wa e1 (wa e2 (wa @dLI.eq_1 (wa @cI.eq_1 (wa (aA a0) a4)))))
    refine wv (h:=?_)
    repeat first|intro _|refine ⟨eL,?_⟩
    refine dX (l5 x.term o.1 (by rw [j.l1];exact L) j.big) wr wl rfl ?_
    refine wv (h:=?_)
    repeat first|intro _|refine ⟨eL,?_⟩
    refine wq (λg=>?_) λg=>?_
    .have hR:=eF (n.2 (by first|simpa using g|simpa [f hc.1] using g|simpa [a] using g))
     exact wv (h:=P _ _ (by simp [go_sem,hR]))
    .have hstep:=n.1 (by first|simpa using g|simpa [f hc.1] using g|simpa [a] using g)
     refine wv (h:=?_)
     repeat first|intro _|refine ⟨eL,?_⟩
     exact wx C (i+1) ⟨o,wg,(by simp [go_sem,Y]),wn,(by simp [go_sem,Y]),wn,wj,(by exact j),(by exact hstep)⟩
   .have hF:¬ kY l x=true:=by simp only [kY,aQ,decide_eq_true_eq,c9];rintro ⟨_,hk⟩;simp [aA (F hc)] at hk;simp [hk] at h7
    unfold l3 at a
    rw [if_neg hF] at a
    have Y:=wa Y a
    refine wv (h:=dX (l5 x.term o.1 (by rw [j.l1];exact L) j.big) wr wl rfl ?_)
    refine dP (λg=>?_) λg=>?_
    .have hR:=eF (n.2 (by first|simpa using g|simpa [f hc.1] using g|simpa [a] using g))
     exact wv (h:=P _ _ (by simp [go_sem,hR]))
    .have hstep:=n.1 (by first|simpa using g|simpa [f hc.1] using g|simpa [a] using g)
     refine wv (h:=?_)
     repeat first|intro _|refine ⟨eL,?_⟩
     exact wx C (i+1) ⟨o,wg,(by simp [go_sem,Y]),wn,(by simp [go_sem,Y]),wn,wj,(by exact j),(by exact hstep)⟩
  .have Y:=wa Y (wa E (wa (aA E) (wa (Eq.symm U) (wa (aA s) (wa (aA w) (wa (aA B) (wa (Eq.symm hV) (wa @Slot.c.eq_1 (wa @cL.eq_1 (wa v (wa J (wa @j7 (wa @cB.eq_1 (wa hc.1 (wa hc.2 (f hc.1))))))))))))))))
   refine wv (h:=?_)
   repeat first|intro _|refine ⟨eL,?_⟩
   refine dX (l5 x.term o.1 (by rw [j.l1];exact L) j.big) wr wl rfl ?_
   refine wv (h:=?_)
   repeat first|intro _|refine ⟨eL,?_⟩
   refine wq (λg=>?_) λg=>?_
   .have hR:=eF (n.2 (by first|simpa using g|simpa [f hc.1] using g|simpa [a] using g))
    exact wv (h:=P _ _ (by simp [go_sem,hR]))
   .have hstep:=n.1 (by first|simpa using g|simpa [f hc.1] using g|simpa [a] using g)
    refine wv (h:=?_)
    repeat first|intro _|refine ⟨eL,?_⟩
    exact wx C (i+1) ⟨o,wg,(by simp [go_sem,Y]),wn,(by simp [go_sem,Y]),wn,wj,(by exact j),(by exact hstep)⟩
  .have Y:=wa Y (wa E (wa (aA E) (wa (Eq.symm U) (wa (aA s) (wa (aA w) (wa (aA B) (wa (Eq.symm hV) (wa @Slot.c.eq_1 (wa @cL.eq_1 (wa v (wa J (wa @j7 (wa @cB.eq_1 (wa hc.1 (wa hc.2 (f hc.1))))))))))))))))
   refine wv (h:=?_)
   repeat first|intro _|refine ⟨eL,?_⟩
   refine dX (l5 x.term o.1 (by rw [j.l1];exact L) j.big) wr wl rfl ?_
   refine wv (h:=?_)
   repeat first|intro _|refine ⟨eL,?_⟩
   refine wq (λg=>?_) λg=>?_
   .have hR:=eF (n.2 (by first|simpa using g|simpa [f hc.1] using g|simpa [a] using g))
    exact wv (h:=P _ _ (by simp [go_sem,hR]))
   .have hstep:=n.1 (by first|simpa using g|simpa [f hc.1] using g|simpa [a] using g)
    refine wv (h:=?_)
    repeat first|intro _|refine ⟨eL,?_⟩
    exact wx C (i+1) ⟨o,wg,(by simp [go_sem,Y]),wn,(by simp [go_sem,Y]),wn,wj,(by exact j),(by exact hstep)⟩
 .rw [aG aD] at I
  have M:=oT I
  have v:=q.l1
  have Y:=wa Y v
  refine wv (h:=?_)
  repeat first|intro _|refine ⟨eL,?_⟩
  refine bD (λk e H=>(e 3=.adr p.c/\e 4=.adr h.c/\e 5=.adr m.c/\e 8=.own 2 p.vars.toNat/\e 74=.list (p.tests.map Test.c)/\e 75=dI p.tests.length/\e 76=dI k)/\(H.get 2=some ⟨3,1,l.1.map cI,false⟩)/\(2<H.next)/\(k<=p.tests.length)/\((p.tests.take k).all (λx=>Aj x l.1)=true)) (λk=>p.tests.length - k) 0 ⟨wg,wn,wn,wi,(by rfl)⟩ λI2 a3 k e H a1=>?_
  obtain ⟨E2,X,S,hk,z⟩:=a1
  have Y:=wa Y (wa E2 (wa X (b8 S)))
  refine dP (λu=>?_) λu=>?_
  .have Y:=wa Y (wa u (wa (aA u) @Test.c.eq_1))
   refine wv (h:=?_)
   repeat first|intro _|refine ⟨eL,?_⟩
   refine dX (vO p.tests[k] l.1 (by rw [q.l1];exact N.test _ (aC u)) q.big) wr wl rfl ?_
   refine wv (h:=?_)
   repeat first|intro _|refine ⟨eL,?_⟩
   refine wq (λO=>?_) λO=>?_
   .have hR:fB p h m []=([],16):=by
     rw [M,if_neg]
     intro ha
     rw [cJ] at ha
     have:=ha _ (aC u)
     simp [this] at O
    exact wv (h:=P _ _ (by simp [go_sem,hR]))
   .refine wv (h:=?_)
    repeat first|intro _|refine ⟨eL,?_⟩
    exact wx a3 (k+1) ⟨wg,wn,wn,wj,(by rw [aE u,Bt,z];simp;simpa using O)⟩
  .rw [aG aD] at z
   rw [if_pos z] at M
   exact wv (h:=P _ _ (by simp [go_sem,Y,M,dLI]))
theorem EN (t:Types)(b:t.ok)(p:Pattern)(h:Host):Pure Tryz.prog 176 [t.d,p.d,h.d] (dI (Am t p h)):=by
 refine Tz.pK ⟨λ_=>false,λ_=>[]⟩ Tryz.func176 rfl (λQ e=>?_)
 have Y:=wa @Host.d.eq_1 @Host.c.eq_1
 refine wv (h:=aB (nW t b p) wl ?_)
 refine dP (λa=>?_) λa=>?_
 .exact wv (h:=e _ _ (by simp [go_sem,Am,a]))
 .refine wv (h:=aB (A7 t b h) wl ?_)
  exact wv (h:=e _ _ (by simp [go_sem,Am,a,iG]))
theorem xC (t:Types)(i:t.ok)(p:Pattern)(h:Host)(m:Part):Pure Tryz.prog 231 [t.d,p.d,h.d,m.d] (.tup [dLI (d9 t p h m).1,dI (d9 t p h m).2]):=by
 refine Tz.pK ⟨λ_=>false,λ_=>[]⟩ Tryz.func231 rfl (λQ g=>?_)
 have Y:=wa @Pattern.d.eq_1 (wa @Pattern.c.eq_1 (wa @Host.d.eq_1 @Host.c.eq_1))
 refine wv (h:=aB (EN t i p h) wl ?_)
 refine dP (λa=>?_) λa=>?_
 .have e:d9 t p h m=([],Am t p h):=by
   unfold d9 Am
   unfold Am at a
   by_cases b:c6 t p=0
   .rw [if_neg aD] at a ⊢
    rw [if_pos a,if_neg aD]
   .rw [if_pos b,if_pos b]
  exact wv (h:=g _ _ (by simp [go_sem,e]))
 .have hp0:c6 t p=0:=by
   unfold Am at a
   refine bA λb=>?_
   rw [if_pos b] at a;exact b a
  have f:iG t h=0:=by unfold Am at a;rw [if_neg aD] at a;exact a
  refine wv (h:=aB (wC t i p.graph h.graph m false) wl ?_)
  refine dP (λj=>?_) λj=>?_
  .have e:d9 t p h m=([],fM t p.graph h.graph m false):=by unfold d9;rw [if_neg aD,if_neg aD,if_pos j]
   exact wv (h:=g _ _ (by simp [go_sem,e]))
  .have h5':fM t p.graph h.graph m false=0:=aD
   have e:d9 t p h m=fB p h m []:=by unfold d9;rw [if_neg aD,if_neg aD,if_neg aD]
   refine wv (h:=aB (EL p h m (US (Ms (.inr hp0)) (sM f) (sI (r4 h5').2))) wl ?_)
   exact wv (h:=g _ _ (by simp [go_sem,e]))
end Go.Abs
end
section
set_option maxRecDepth 100000
set_option maxHeartbeats 4000000
open Go Go.Proofs Go.RowKit Go.Shelf Go.Lib
namespace Go.Abs
theorem QE (x y:Nat)(j:x<18446744073709551616)(i:y<18446744073709551616)(w:World) :
  Calls Tryz.prog 391 #[.int .u64 x,.int .u64 y] w λe w'=>e=.returned (.tuple #[.int .u64 ((x * y / 18446744073709551616:Nat):Int),.int .u64 ((x * y % 18446744073709551616:Nat):Int)])/\w'=w:=by
 obtain ⟨n,k,l,c⟩:=Lib.mul64_hi x y j i
 have q:=Lib.half_mul_le (a:=x / 4294967296) (b:=y / 4294967296) aD aD
 have p:=Lib.half_mul_le (a:=x / 4294967296) (b:=y % 4294967296) aD aD
 have o:=Lib.half_mul_le (a:=x % 4294967296) (b:=y / 4294967296) aD aD
 have h:x / 4294967296 * (y / 4294967296)<18446744073709551616:=aD
 have g:x / 4294967296 * (y % 4294967296)<18446744073709551616:=aD
 have f:x % 4294967296 * (y / 4294967296)<18446744073709551616:=aD
 have d:x / 4294967296 * (y / 4294967296)+(x / 4294967296 * (y % 4294967296)+x % 4294967296 * (y % 4294967296) / 4294967296) / 4294967296<18446744073709551616:=aD
 have m:x / 4294967296 * (y / 4294967296)+(x / 4294967296 * (y % 4294967296)+x % 4294967296 * (y % 4294967296) / 4294967296) / 4294967296+((x / 4294967296 * (y % 4294967296)+x % 4294967296 * (y % 4294967296) / 4294967296) % 4294967296+x % 4294967296 * (y / 4294967296)) / 4294967296<18446744073709551616:=aD
 go_enter Tryz.func391,Tryz.ntmps391
 go_wp2
 simp only [Mul64.maskN x j,Mul64.maskN y i,Mul64.divN,Mul64.mulN,Mul64.addN,Mul64.wrapN _ n,Mul64.wrapN _ g,Mul64.wrapN _ k,Mul64.maskN _ k,Mul64.wrapN _ f,Mul64.wrapN _ l,Mul64.wrapN _ h,Mul64.wrapN _ d,Mul64.wrapN _ m,Mul64.wrapM (x * y)]
 rw [c]
 go_ret2
 exact ⟨rfl,rfl⟩
theorem Tt (x y:Nat)(d:x<18446744073709551616)(c:y<18446744073709551616)(w:World) :
  Calls Tryz.prog 335 #[.int .u64 x,.int .u64 y] w λe w'=>e=.returned (.tuple #[.int .u64 ((x * y / 18446744073709551616:Nat):Int),.int .u64 ((x * y % 18446744073709551616:Nat):Int)])/\w'=w:=by
 have a:=QE x y d c w
 have b:∀ args w,(callFunc 391 args).run Tryz.prog w=.ok (.enter 391 args) w:=enters_of Tryz.func391 (by kernel_rfl) rfl
 go_enter Tryz.func335,Tryz.ntmps335
 go_wp2_with (go_at_fn 391;refine a.mono ?_;rintro e w' ⟨rfl,f⟩;rw [f])
 go_ret2
 exact ⟨rfl,rfl⟩
def nY (v:Int)(n k:Nat):List Value:=List.replicate k (.int .i64 v)++List.replicate (n - k) (.int .i64 0)
theorem LR {v:Int}{n k m:Nat}(h:k+m<=n):(nY v n k).take k++List.replicate m (.int .i64 v)++(nY v n k).drop (k+m)=nY v n (k+m):=by
 unfold nY
 rw [List.take_left' bW,List.drop_append,dM,jL bW,cZ,List.drop_replicate,<- List.replicate_append_replicate]
 congr 2
 omega
theorem Ke (v:Int)(n:Nat)(hn:n<=1000)(ad:Addr)(cap:Nat)(w:World)(hc:w.cell? ad=some (.int .i64 v)) :
  Calls Tryz.prog 242 #[.slice (some ad) 1 cap,.int .i64 n] w λe w'=>∃ v',e=.returned v'/\w'.ownsRow w.heap.size 3 1 v' n (List.replicate n (.int .i64 v))/\Below w.heap.size w w':=by
 have hsz:(Tryz.prog.info? 3).map (·.size)=some 1:=by kernel_rfl
 have cM:=λw=>Tt 1 n aD aD w
 have e1:∀ args w,(callFunc 335 args).run Tryz.prog w=.ok (.enter 335 args) w:=enters_of Tryz.func335 (by kernel_rfl) rfl
 have hmk:=λw=>run_make_row' (P:=Tryz.prog) 26 3 (.int .i64 0) 8 Tryz.underlying26 Fy rfl .i64 .i64 n aD aD w
 have hq1:(1 * n) / 18446744073709551616=0:=aD
 have hq2:(1 * n) % 18446744073709551616=n:=aD
 have hn0:¬ ((n:Int)<0):=aD
 have hn1:¬ ((9223372036854775807:Int)<n):=aD
 have cpy:∀ (k m:Nat) (W:World) (ty dl dc:Nat) (a:Addr) (sl sc:Nat),k+m<=n->m=Nat.min sl dl->W.heap[w.heap.size]?=some (.cells (nY v n k).toArray 3 (0,0))->(∀ (j:Nat) (u:Value),(List.replicate m (Value.int .i64 v))[j]?=some u->W.cell? (a.add j)=some u) ->
   (Builtin.copy_ #[26,26] ty #[.slice (some ⟨w.heap.size,k,none⟩) dl dc,.slice (some a) sl sc]).run Tryz.prog W=.ok (goInt m) (W.setRow w.heap.size (nY v n (k+m)).toArray):=λk m W ty dl dc a sl sc hkm hm hb hs=>by
  rw [<- LR hkm]
  have:=HF (P:=Tryz.prog) W 26 26 ty 3 1 w.heap.size k dl dc a sl sc m (nY v n k).toArray 3 (List.replicate m (.int .i64 v)) Tryz.underlying26 hsz hb hm bW hs (by simp [nY];omega) (by simp [Value.oneCell'])
  simpa using this
 have h0:(w.alloc (.cells (madeCells #[.int .i64 0] n) 3)).heap[w.heap.size]?=some (.cells (nY v n 0).toArray 3 (0,0)):=by
  rw [(MapKept.heap_alloc w _).1]
  congr 2
  apply Array.toList_inj.1
  rw [toList_madeCells_one];simp [nY]
 obtain ⟨m0,hm0⟩:∃ m,m=Nat.min 1 n:=⟨_,rfl⟩
 have hm1:m0<=1/\m0<=n/\(m0=1\/n=0):=by rw [hm0];simp only [Nat.min_def];split<;>omega
 have hbad:ad.block<w.heap.size:=World.block_lt_of_cell? w _ hc
 have hcp0:=λty=>cpy 0 m0 (w.alloc (.cells (madeCells #[.int .i64 0] n) 3)) ty n n ad 1 cap aD hm0 h0 (λj u hj=>by
  have hj0:j=0:=by have:=(aM.1 hj).1;simp at this;omega
  subst hj0
  rw [uV] at hj
  split at hj
  .cases hj
   rw [show ad.add 0=ad by unfold Addr.add;simp]
   exact ((Below.refl _ w).alloc (bC _) _).cell (p:=ad) hbad |>.trans hc
  .cases hj)
 simp only [eM] at hcp0
 clear hm0
 have mixed:=Tz.mixed
 go_enter Tryz.func242,Tryz.ntmps242
 go_wp2_with (first|(go_at_fn 335;refine (cM _).mono ?_;rintro e w' ⟨rfl,hw⟩;rw [hw,hq1,hq2])|(at_builtin;refine wpList_copy_runI _ rfl _ _ 26 26 rfl _ _ rfl rfl (hcp0 _) ?_))
 go_loopw [8] (λi wr=>∃ k:Nat,k<=n/\(0<k\/n=0)/\i=.int .i64 k/\wr.heap[w.heap.size]?=some (.cells (nY v n k).toArray 3 (0,0))/\Below w.heap.size w wr)
  (λi _=>n - (RowKit.intOf i).toNat)
 case atStart =>
  refine ⟨m0,hm1.2.1,aD,by simp [goInt],setRow_heap _ _ _ _ _ _ h0,?_⟩
  exact below_setRow ((Below.refl _ w).alloc (bC _) _) (bC _) _
 case round =>
  obtain ⟨k,hk,hk0,rfl,hb,hbl⟩:=hrel
  by_cases hlt:k<n
  .have hkn:¬ (n=k):=aD
   have hcp1:=λty dc sc=>cpy k (Nat.min k (n - k)) wr.drew ty (n - k) dc ⟨w.heap.size,0,none⟩ k sc (by simp only [Nat.min_def];split<;>omega) rfl hb (λj u hj=>by
    have hjk:=(aM.1 hj).1
    rw [dM] at hjk
    rw [uV,if_pos hjk] at hj
    cases hj
    have hjk2:j<k:=by simp only [Nat.min_def] at hjk;split at hjk<;>omega
    rw [jE]
    show wr.cell? _=_
    simp [World.cell?,hb,nY,aS,hjk2])
   go_wp2
   go_region_law_o (refine step_copy_runI rfl _ _ 26 26 rfl _ _ (by simp [Act.eval,Act.put]) (by simp [Act.eval,Act.put]) (hcp1 _ _ _) ?_)
   have hmn:k+Nat.min k (n - k)<=n/\0<Nat.min k (n - k):=by simp only [Nat.min_def];split<;>omega
   simp only [Act.put,List.getElem_toArray,List.getElem_cons_succ,List.getElem_cons_zero,List.setIfInBounds_toArray,DE,uU]
   go_roundw
   case rel =>
    refine ⟨_,_,_,_,_,_,_,_,_,_,_,_,_,_,⟨k+Nat.min k (n - k),hmn.1,aD,?_,setRow_heap wr.drew _ _ _ _ _ hb,below_setRow (w:=wr.drew) ⟨hbl.os,hbl.tape,hbl.output,hbl.size,hbl.block⟩ (bC _) _⟩,rfl⟩
    congr 1
    rw [IntKind.wrap_i64];omega
   case measure=>simp [RowKit.intOf,goInt,IntKind.wrap_i64];omega
  .obtain rfl:k=n:=aD
   go_wp2
   go_ret
   refine ⟨_,rfl,⟨by simp,.inr ⟨w.heap.size,k,(nY v k k).toArray,rfl,bC _,hb,bC _,by simp only [maxLen];omega,by simp [nY],?_⟩⟩,hbl⟩
   simp [nY]
theorem FO (v:Int)(n:Nat)(z:n<=1000):Own Tryz.prog 242 [.list [[dI v]],dI n] 3 1 ((List.replicate n v).map cI):=by
 refine ⟨⟨Tryz.f242,Tryz.func242,rfl,rfl⟩,λM w f J F=>?_⟩
 obtain ⟨h,r⟩:=F
 match f,h with
 | [s,y],_ =>
  have H:=r 0 s _ rfl rfl
  have G:=r 1 y _ rfl rfl
  cases G
  rcases sJ H with ⟨rfl,l⟩|⟨o,m,I,p,rfl,a,_,d,_,_,_⟩
  .cases l
  .have hx:∃ u,p[0]?=some u:=by
    have A:=a.len
    simp at A
    exact ⟨p[0]' aD,aA aD⟩
   obtain ⟨u,j⟩:=hx
   have B:=a.rep 0 u (D.int .i64 v) j rfl
   cases B
   have i:=(d 0 _ j).2
   rw [show o.add 0=o by unfold Addr.add;simp] at i
   refine (Ke v n z o m w i).mono λe t ⟨q,l,g,E⟩=>?_
   have k:((List.replicate n v).map cI).length=n:=bW
   exact ⟨q,_,l,by rw [k];exact g,λu j=>by rw [k7 j];rfl,by
    have:=zT (M:=λb=>M b\/q.ownBlock=some b) (σ:=iN) (N:=rJ) (w:=t) (List.replicate n v)
    simpa using this,qK _,λc C=>by obtain ⟨x,_,rfl⟩:=bB.1 C;rfl,E⟩
end Go.Abs
end
section
set_option maxRecDepth 100000
set_option maxHeartbeats 4000000
open Go Go.Proofs
namespace Go.Abs
theorem Du {l:List Int}(b:l.Pairwise (· < ·))(v:Int):gA l l.length v=if mem l v=true then (uG l v:Int) else -1:=by
 by_cases h:mem l v=true
 .rw [if_pos h,<- Ci b h]
  obtain ⟨p,d,e⟩:=aO ((mem_iff l v).1 h)
  have c:=dH.1 b
  rw [sK (i:=p) (λj k f=>by
   have a:j<l.length:=aD
   rw [aA a] at f
   have:=c j p a d k
   simp at f;omega) (by rw [aA d,e]),<- e,pG (qC b) d]
 .rw [if_neg h,p9 (λg=>h ((mem_iff _ _).2 g)) _ (bC _)]
def Et (d:List Int)(n i:Nat):List Int:=lM d i++List.replicate (n - i) 0
theorem Fm {d:List Int}{n i:Nat}(h:i<=n):(Et d n i).length=n:=by simp [Et,lL];omega
theorem Lz {d:List Int}{n i:Nat}(h:i<n):(Et d n i).set i (gA d d.length i)=Et d n (i+1):=by
 unfold Et
 rw [mG _ _ (by rw [lL];omega),lL,xO,Hd,show n - i=(n - (i+1))+1 by omega,s5,uU,List.append_assoc];rfl
theorem Fp (n:Nat)(s:n<=1000000)(d:List Int)(m:d.Pairwise (· < ·))(o:d.length<=1000000):Pure Tryz.prog 144 [dI n,dLI d] (dLI (nF d n)):=by
 refine Tz.pK ⟨λ_=>false,λ_=>[]⟩ Tryz.func144 rfl (λQ q=>?_)
 have Y:=trivial
 refine wp (h:=bD (λi e H=>(e 1=dLI d/\e 5=.own 0 n/\e 12=dI n/\e 13=dI i)/\(H.get 0=some ⟨3,1,(Et d n i).map cI,false⟩)/\(0<H.next)/\(i<=n)) (λi=>n - i) 0 ⟨wg,(by simp [go_sem,Et,lM,cI]),wn,wi⟩ λu c i e H k=>?_)
 obtain ⟨r,g,b,t⟩:=k
 have Y:=wa Y (wa r (wa g (b8 b)))
 refine dP (λf=>?_) λf=>?_
 .have hB:=Du m (i:Int)
  have j:i<(Et d n i).length:=by rw [Fm aD];exact f
  have a:(Et d n i).length=n:=Fm aD
  have Y:=wa Y (wa f (wa (aA j) a))
  refine wv (h:=aB (t7 d i m o) wl ?_)
  refine rT (λl=>?_) λl=>?_
  .rw [if_neg (bX l)] at hB
   have Y:=wa Y hB
   exact wp (h:=wx c (i+1) ⟨wg,(by simp [go_sem,Y,<- Lz f,bY,cI]),wn,wj⟩)
  .rw [if_pos (bX l)] at hB
   have Y:=wa Y hB
   exact wp (h:=wx c (i+1) ⟨wg,(by simp [go_sem,Y,<- Lz f,bY,cI]),wn,wj⟩)
 .have a:(Et d n i).length=n:=Fm aD
  have p:nF d n=Et d n i:=by unfold Et nF;rw [(aD:i=n)];simp
  have Y:=wa Y a
  exact wv (h:=q _ _ (by simp [go_sem,Y,p,dLI]))
/-! ### comatch -/
def SL (keep into at_:List Int)(n j:Nat):Int:=if 0<=gA into n j then at_[(keep[(gA into n j).toNat]?.getD 0).toNat]?.getD 0 else -1
def O5 (keep into at_:List Int)(count n:Nat):List Int:=(List.range count).map (SL keep into at_ n)
def G8 (keep into at_:List Int)(count remain i:Nat):List Int:=(List.range count).map λj=>if j<i then G2 keep into at_ remain j else SL keep into at_ into.length j
theorem T6 (keep b c:List Int)(a n:Nat):(O5 keep b c a n).length=a:=by simp [O5]
theorem KS (keep c d:List Int)(a b i:Nat):(G8 keep c d a b i).length=a:=by simp [G8]
theorem SN (keep b c:List Int)(a:Nat):O5 keep b c a 0=List.replicate a (-1):=by
 apply fT (by simp [O5]);intro i e d;simp [O5,SL,gA]
theorem SO (keep a c:List Int)(b n:Nat)(h:n<a.length)(g:0<=a[n]):O5 keep a c b (n+1)=(O5 keep a c b n).set a[n].toNat (c[(keep[n]?.getD 0).toNat]?.getD 0):=by
 apply fT (by simp [O5]);intro i f e
 rw [Ah]
 simp only [O5,oR,pO,SL,p8,aA h,Option.getD_some]
 by_cases d:a[n]=(i:Int)
 .rw [if_pos d,if_pos aD,if_pos aD,Int.toNat_natCast]
 .rw [if_neg d,if_neg (aD:¬ a[n].toNat=i)]
theorem SM (keep a d:List Int)(b c:Nat):G8 keep a d b c 0=O5 keep a d b a.length:=by simp [G8,O5]
theorem T2 (keep c d:List Int)(b a:Nat){i:Nat}(h:i<b):(G8 keep c d b a i).set i (G2 keep c d a i)=G8 keep c d b a (i+1):=by
 apply fT (by simp [G8]);intro j k g
 rw [Ah]
 simp only [G8,oR,pO]
 by_cases e:i=j
 .subst e;rw [if_pos rfl,if_pos aD]
 .rw [if_neg e]
  by_cases f:j<i
  .rw [if_pos f,if_pos aD]
  .rw [if_neg f,if_neg aD]
theorem T5 (keep c d:List Int)(a b:Nat):G8 keep c d a b a=CQ keep c d a b:=by
 unfold G8 CQ
 exact bU λj e=>by rw [if_pos (bK.1 e)]
theorem T3 (keep a d:List Int)(b c:Nat){i:Nat}(h:i<b):(G8 keep a d b c i)[i]?=some (SL keep a d a.length i):=by
 simp [G8,h]
theorem BA (b:Nat)(hc:b<=1000)(keep a c d:List Int)(n:Nat)(hn:n<=1000)(hl:a.length<=keep.length)(L:∀ x∈a,0<=x/\x<b)(K:∀ x∈keep,0<=x/\x<c.length)(I:∀ x∈keep,0<=iA c x/\iA c x<d.length)
  (X:∀ x∈keep,0<=(oQ c d)[x.toNat]?.getD 0):Pure Tryz.prog 145 [dI b,dLI keep,dLI a,dLI c,dLI d,dI n] (dLI (CQ keep a (oQ c d) b n)):=by
 refine Tz.pK ⟨λt=>t==19,λ_=>[]⟩ Tryz.func145 rfl (λQ hQ=>?_)
 have Y:=trivial
 refine wv (h:=lY (FO (-1) b hc) wl ?_)
 refine wv (h:=?_)
 repeat first|intro _|refine ⟨eL,?_⟩
 refine bD (λi e H=>(e 1=dLI keep/\e 2=dLI a/\e 3=dLI c/\e 4=dLI d/\e 13=.own 0 b/\e 20=dLI a/\e 21=dI a.length/\e 22=dI i/\e 5=dI n)/\(H.get 0=some ⟨3,1,(O5 keep a (oQ c d) b i).map cI,false⟩)/\(0<H.next)/\(i<=a.length)) (λi=>a.length - i) 0 ⟨wg,(by simp [go_sem,SN,cI]),wn,wi⟩ λI0 U i e H P=>?_
 obtain ⟨E0,D,s,hi⟩:=P
 have Y:=wa Y (wa E0 (wa D (b8 s)))
 refine dP (λA=>?_) λA=>?_
 .have hki:i<keep.length:=aD
  have Z:=K _ (aC hki)
  have G:=I _ (aC hki)
  have o:keep[i].toNat<c.length:=aD
  have N:iA c keep[i]=c[keep[i].toNat]:=by unfold iA;rw [aA o];rfl
  rw [N] at G
  have w:(c[keep[i].toNat]).toNat<d.length:=aD
  have M:=L _ (aC A)
  have f:(O5 keep a (oQ c d) b i).length=b:=T6 _ _ _ _ _
  have T:a[i].toNat<(O5 keep a (oQ c d) b i).length:=aD
  have W:(oQ c d)[(keep[i]?.getD 0).toNat]?.getD 0=d[(c[keep[i].toNat]).toNat]:=by
   rw [aA hki,Option.getD_some];unfold oQ
   rw [aN,aA o,dQ,Option.getD_some,aA w,Option.getD_some]
  have u:=SO keep a (oQ c d) b i A M.1
  rw [W] at u
  have Y:=wa Y (wa A (wa (aA A) (wa (aA hki) (wa (aA o) (wa (aA w) (wa (aA T) f))))))
  refine wv (h:=?_)
  repeat first|intro _|refine ⟨eL,?_⟩
  exact wx U (i+1) ⟨wg,(by simp [go_sem,Y,u,bY,cI]),wn,wj⟩
 .have hA:O5 keep a (oQ c d) b i=G8 keep a (oQ c d) b n 0:=by rw [SM,(aD:i=a.length)]
  have f:(G8 keep a (oQ c d) b n 0).length=b:=KS _ _ _ _ _ _
  have F:A1 a 0=0:=IW a
  have Y:=wa Y (wa hA (wa f F))
  refine wv (h:=?_)
  repeat first|intro _|refine ⟨eL,?_⟩
  refine bD (λk e H=>(e 1=dLI keep/\e 2=dLI a/\e 3=dLI c/\e 4=dLI d/\e 13=.own 0 b/\e 42=dI b/\e 43=dI k/\e 5=dI ((n+A1 a k:Nat):Int))/\(H.get 0=some ⟨3,1,(G8 keep a (oQ c d) b n k).map cI,false⟩)/\(0<H.next)/\(k<=b)) (λk=>b - k) 0 ⟨wg,(by simp [go_sem,Y]),wn,wi⟩ λI2 z k e H O=>?_
  obtain ⟨E2,C,r,hk⟩:=O
  have Y:=wa Y (wa E2 (wa C (b8 r)))
  refine dP (λE=>?_) λE=>?_
  .have hnl:=PS a k
   have f:(G8 keep a (oQ c d) b n k).length=b:=KS _ _ _ _ _ _
   have S:k<(G8 keep a (oQ c d) b n k).length:=aD
   have R:=T3 keep a (oQ c d) b n E
   have p:(G8 keep a (oQ c d) b n k)[k]=SL keep a (oQ c d) a.length k:=by rw [aA S] at R;exact Option.some.inj R
   have l:=T2 keep a (oQ c d) b n E
   have m:=IX a k
   have a0:=CD a (k:Int) a.length
   have Y:=wa Y (wa f (wa E R))
   refine wv (h:=?_)
   repeat first|intro _|refine ⟨eL,?_⟩
   refine wq (λg=>?_) λg=>?_
   .rw [p] at g
    have v:¬ 0<=gA a a.length k:=by
     intro B
     have y:(gA a a.length k).toNat<keep.length:=aD
     have:=X _ (aC y)
     simp only [SL,if_pos B,aA y,Option.getD_some] at g
     omega
    have q:G2 keep a (oQ c d) n k=((n+A1 a k:Nat):Int):=by unfold G2;rw [if_neg v]
    rw [q] at l
    rw [if_pos aD] at m
    have j:(G8 keep a (oQ c d) b n (k+1)).map cI=((G8 keep a (oQ c d) b n k).map cI).set k [.int .i64 ((n+A1 a k:Nat):Int)]:=by rw [<- l,bY];rfl
    have Y:=wa Y m
    refine wv (h:=?_)
    repeat first|intro _|refine ⟨eL,?_⟩
    exact wx z (k+1) ⟨wg,(by simp [go_sem,Y,j]),wn,wj⟩
   .rw [p] at g
    have q:G2 keep a (oQ c d) n k=SL keep a (oQ c d) a.length k:=by
     unfold G2 SL
     split
     .rfl
     .rename_i B;exfalso;unfold SL at g;rw [if_neg B] at g;omega
    have V:0<=gA a a.length k:=by
     refine bA λB=>?_
     unfold SL at g;rw [if_neg B] at g;omega
    rw [q,<- p,List.set_getElem_self] at l
    rw [if_neg aD] at m
    have j:(G8 keep a (oQ c d) b n (k+1))=G8 keep a (oQ c d) b n k:=l.symm
    have Y:=wa Y m
    refine wv (h:=?_)
    repeat first|intro _|refine ⟨eL,?_⟩
    exact wx z (k+1) ⟨wg,(by simp [go_sem,Y,j]),wn,wj⟩
  .have hE:=T5 keep a (oQ c d) b n
   have J:k=b:=aD
   have f:(G8 keep a (oQ c d) b n b).length=b:=KS _ _ _ _ _ _
   rw [hE] at f
   have Y:=wa Y (wa f (wa J hE))
   exact wv (h:=hQ _ _ (by simp [go_sem,Y,hE,dLI]))
/-! ### copies -/
@[go_sem] theorem Mat.cld (m:Mat):m.d.cl=true:=by simp [Mat.d,D.cl,Mat.cl]
theorem Fr (m:Mat)(f:m.m.nodes.length<=1000000)(e:m.m.edges.length<=1000000)(b:m.vars.length<=1000000):Pure Tryz.prog 142 [m.d] m.d:=by
 refine Tz.pK ⟨λt=>t==2,λ_=>[]⟩ Tryz.func142 rfl (λQ a=>?_)
 have Y:=wa @Mat.d.eq_1 @Mat.c.eq_1
 refine wv (h:=?_)
 refine mQ (jG m.m.nodes f) (by simp [go_sem,dLI]) (by simp [go_sem]) (Jl _) rfl (by simp [go_sem]) ?_
 refine wv (h:=?_)
 refine mQ (jG m.m.edges e) (by simp [go_sem,dLI]) (by simp [go_sem]) (Jl _) rfl (by simp [go_sem]) ?_
 refine wv (h:=?_)
 refine mQ (jG m.vars b) (by simp [go_sem,dLI]) (by simp [go_sem]) (Jl _) rfl (by simp [go_sem]) ?_
 exact wv (h:=a _ _ (by simp [go_sem,Y,dLI]))
def EB (t:Types)(r:Rule)(h:Host)(m:Mat):Int :=
 if fM t r.left.graph h.graph m.m r.inj≠0 then 1
 else if (d9 t r.left h m.m).2≠0 then (d9 t r.left h m.m).2
 else if (d9 t r.left h m.m).1≠m.vars then 11 else 0
theorem Mp (t:Types)(r:Rule)(h:Host)(m:Mat):q6 t r h m=if EB t r h m≠0 then EB t r h m else rG (l4 r.left.graph h.graph m.m) h.graph r.keep m.m:=by
 unfold q6 EB
 by_cases c:fM t r.left.graph h.graph m.m r.inj≠0
 .rw [if_pos c,if_pos c];simp
 .rw [if_neg c,if_neg c]
  by_cases a:(d9 t r.left h m.m).2≠0
  .rw [if_pos a,if_pos a,if_pos a]
  .rw [if_neg a,if_neg a]
   by_cases b:(d9 t r.left h m.m).1≠m.vars
   .rw [if_pos b,if_pos b];simp
   .rw [if_neg b,if_neg b];simp
theorem JR (t:Types)(g:t.ok)(r:Rule)(h:Host)(m:Mat):Pure Tryz.prog 138 [t.d,r.d,h.d,m.d] (dI (EB t r h m)):=by
 refine Tz.pK ⟨λ_=>false,λ_=>[]⟩ Tryz.func138 rfl (λQ a=>?_)
 have Y:=wa @Rule.d.eq_1 (wa @Rule.c.eq_1 (wa @Pattern.c.eq_1 (wa @Host.d.eq_1 (wa @Host.c.eq_1 (wa @Mat.d.eq_1 (wa @Mat.c.eq_1 (wa @Graph.c.eq_1 @Part.c.eq_1)))))))
 refine wv (h:=aB (wC t g r.left.graph h.graph m.m r.inj) wl ?_)
 refine dP (λf=>?_) λf=>?_
 .have hM:EB t r h m=1:=by unfold EB;rw [if_pos (bX f)]
  exact wv (h:=a _ _ (by simp [go_sem,hM]))
 .have hM:EB t r h m=if (d9 t r.left h m.m).2≠0 then (d9 t r.left h m.m).2 else if (d9 t r.left h m.m).1≠m.vars then 11 else 0:=by unfold EB;rw [if_neg (bX f)]
  refine wv (h:=aB (xC t g r.left h m.m) wl ?_)
  refine dP (λe=>?_) λe=>?_
  .rw [if_pos (bX e)] at hM
   exact wv (h:=a _ _ (by simp [go_sem,hM]))
  .rw [if_neg (bX e)] at hM
   refine wo (h:=aB (lK (d9 t r.left h m.m).1 m.vars) wl ?_)
   refine fA (λb=>?_) λb=>?_
   .rw [if_pos (bX b)] at hM
    exact wv (h:=a _ _ (by simp [go_sem,hM]))
   .rw [if_neg (bX b)] at hM
    exact wv (h:=a _ _ (by simp [go_sem,hM]))
theorem N0 (t:Types)(b:t.ok)(r:Rule)(g:r.ok)(h:Host):Pure Tryz.prog 57 [t.d,r.d,h.d] (dI (iJ t r h)):=by
 refine Tz.pK ⟨λ_=>false,λ_=>[]⟩ Tryz.func57 rfl (λQ c=>?_)
 have Y:=trivial
 refine wv (h:=aB (mI t b) wl ?_)
 refine dP (λf=>?_) λf=>?_
 .have hE:ruleF t r=(b9 t).2:=by unfold ruleF;rw [if_pos (bX f)]
  have a:iJ t r h=(b9 t).2:=by unfold iJ;rw [if_pos (by rw [hE];simpa using f),hE]
  exact wv (h:=c _ _ (by simp [go_sem,a]))
 .refine wv (h:=aB (Of t b r g) wl ?_)
  refine dP (λe=>?_) λe=>?_
  .have a:iJ t r h=ruleF t r:=by unfold iJ;rw [if_pos (bX e)]
   exact wv (h:=c _ _ (by simp [go_sem,a]))
  .have a:iJ t r h=iG t h:=by unfold iJ;rw [if_neg (bX e)]
   refine wv (h:=aB (A7 t b h) wl ?_)
   exact wv (h:=c _ _ (by simp [go_sem,a,iG]))
mutual
def Cond.bnd (B:Nat):Cond→Prop
 | .mk k l m p=>(m.nodes.length≤B∧m.edges.length≤B)∧Cond.bnds B l
def Cond.bnds (B:Nat):List Cond→Prop
 | []=>True
 | c :: l=>c.bnd B∧Cond.bnds B l
end
theorem Io (B:Nat)(l:List Cond):Cond.bnds B l↔∀ c∈l,c.bnd B:=by
 induction l with
 | nil=>simp [Cond.bnds]
 | cons a l ih=>simp [Cond.bnds,ih]
theorem CN (B:Nat)(c:Cond):c.bnd B↔(c.map.nodes.length<=B/\c.map.edges.length<=B)/\∀ k∈c.kids,k.bnd B:=by cases c;simp [Cond.bnd,Io,Cond.kids,Cond.map]
theorem Cond.bnd_le {B:Nat}(e:B<=1000000000000000):∀ c:Cond,c.bnd B->c.le:=by
 refine i9 λc b h=>?_
 obtain ⟨f,d⟩:=(CN B c).1 h
 exact (En c).2 ⟨⟨aD,aD⟩,λk a=>b k a (d k a)⟩
def Rule.bnd (B:Nat)(x:Rule):Prop:=(x.keep.nodes.length<=B/\x.keep.edges.length<=B)/\(x.into.nodes.length<=B/\x.into.edges.length<=B)/\x.cond.bnd B
theorem Rule.bnd_le {B:Nat}(a:B<=1000000000000000){r:Rule}(h:r.bnd B):r.le:=by
 obtain ⟨⟨f,e⟩,⟨d,c⟩,b⟩:=h
 exact ⟨⟨aD,aD⟩,⟨aD,aD⟩,Cond.bnd_le a _ b⟩
section
variable {H:Type} {enc:TypeId × Value→H} {w:World} {base:Nat} {spare:Nat→Bool} {held:Bool} {bulk:DataW H→Nat} {B:Nat}
theorem Xq (hB:Bulk bulk):∀ n,Opens enc Tryz.prog w base spare held bulk B n 9 cS (λ_=>True):=λn=>(Kt hB Tryz.underlying9).map id (λ_=>rfl) (λ_ _=>trivial)
theorem IP:∀ n,Opens enc Tryz.prog w base spare held bulk B n 3 cI (λ_=>True):=λn=>(IO Tryz.underlying3).map id (λ_=>rfl) (λ_ _=>trivial)
theorem XB (hB:Bulk bulk):∀ n,Opens enc Tryz.prog w base spare held bulk B n 116 (λl:List ByteArray=>[D.list (l.map cS)]) (λl=>l.length<=B/\∀ a∈l,(λ_=>True) a)
 | 0=>Opens.zero
 | n+1=>gX hB Tryz.underlying116 (Xq hB n)
theorem XA (hB:Bulk bulk):∀ n,Opens enc Tryz.prog w base spare held bulk B n 118 Attr.c (λ_=>True)
 | 0=>Opens.zero
 | n+1=>(eG hB Tryz.underlying118 (by kernel_rfl) (aY (Xq hB n) (aY (IP n) (aY (IP n) (aY (XB hB n) fO))))).map (λp=>⟨p.1,p.2.1,p.2.2.1,p.2.2.2.1⟩) (λp=>rfl) (λp h=>trivial)
theorem XC (hB:Bulk bulk):∀ n,Opens enc Tryz.prog w base spare held bulk B n 113 (λl:List Attr=>[D.list (l.map Attr.c)]) (λl=>l.length<=B/\∀ a∈l,(λ_=>True) a)
 | 0=>Opens.zero
 | n+1=>gX hB Tryz.underlying113 (XA hB n)
theorem Xx (hB:Bulk bulk):∀ n,Opens enc Tryz.prog w base spare held bulk B n 172 NodeTy.c (λx=>x.attrs.length<=B)
 | 0=>Opens.zero
 | n+1=>(eG hB Tryz.underlying172 (by kernel_rfl) (aY (Xq hB n) (aY (IP n) (aY (op4 n) (aY (XC hB n) fO))))).map (λp=>⟨p.1,p.2.1,p.2.2.1,p.2.2.2.1⟩) (λp=>rfl) (λp h=>h.2.2.2.1.1)
theorem aa3 (hB:Bulk bulk):∀ n,Opens enc Tryz.prog w base spare held bulk B n 22 (λl:List NodeTy=>[D.list (l.map NodeTy.c)]) (λl=>l.length<=B/\∀ a∈l,(λx=>x.attrs.length<=B) a)
 | 0=>Opens.zero
 | n+1=>gX hB Tryz.underlying22 (Xx hB n)
theorem Xw (hB:Bulk bulk):∀ n,Opens enc Tryz.prog w base spare held bulk B n 174 EdgeTy.c (λ_=>True)
 | 0=>Opens.zero
 | n+1=>(eG hB Tryz.underlying174 (by kernel_rfl) (aY (Xq hB n) (aY (IP n) (aY (IP n) (aY (IP n) (aY (IP n) (aY (IP n) (aY (IP n) fO)))))))).map (λp=>⟨p.1,p.2.1,p.2.2.1,p.2.2.2.1,p.2.2.2.2.1,p.2.2.2.2.2.1,p.2.2.2.2.2.2.1⟩) (λp=>rfl) (λp h=>trivial)
theorem aa2 (hB:Bulk bulk):∀ n,Opens enc Tryz.prog w base spare held bulk B n 23 (λl:List EdgeTy=>[D.list (l.map EdgeTy.c)]) (λl=>l.length<=B/\∀ a∈l,(λ_=>True) a)
 | 0=>Opens.zero
 | n+1=>gX hB Tryz.underlying23 (Xw hB n)
theorem aa1 (hB:Bulk bulk):∀ n,Opens enc Tryz.prog w base spare held bulk B n 25 Types.c (λx=>x.nodes.length<=B/\x.edges.length<=B/\∀ n∈x.nodes,n.attrs.length<=B)
 | 0=>Opens.zero
 | n+1=>(eG hB Tryz.underlying25 (by kernel_rfl) (aY (aa3 hB n) (aY (aa2 hB n) fO))).map (λp=>⟨p.1,p.2.1⟩) (λp=>rfl) (λp h=>⟨h.1.1,h.2.1.1,h.1.2⟩)
theorem Q1 (hB:Bulk bulk):∀ n,Opens enc Tryz.prog w base spare held bulk B n 26 (λl:List Int=>[D.list (l.map cI)]) (λl=>l.length<=B/\∀ a∈l,(λ_=>True) a)
 | 0=>Opens.zero
 | n+1=>gX hB Tryz.underlying26 (IP n)
theorem Xz (hB:Bulk bulk):∀ n,Opens enc Tryz.prog w base spare held bulk B n 122 Edge.c (λ_=>True)
 | 0=>Opens.zero
 | n+1=>(eG hB Tryz.underlying122 (by kernel_rfl) (aY (IP n) (aY (IP n) (aY (IP n) fO)))).map (λp=>⟨p.1,p.2.1,p.2.2.1⟩) (λp=>rfl) (λp h=>trivial)
theorem aa0 (hB:Bulk bulk):∀ n,Opens enc Tryz.prog w base spare held bulk B n 27 (λl:List Edge=>[D.list (l.map Edge.c)]) (λl=>l.length<=B/\∀ a∈l,(λ_=>True) a)
 | 0=>Opens.zero
 | n+1=>gX hB Tryz.underlying27 (Xz hB n)
theorem Xt (hB:Bulk bulk):∀ n,Opens enc Tryz.prog w base spare held bulk B n 29 Graph.c (λx=>x.nodes.length<=B/\x.edges.length<=B)
 | 0=>Opens.zero
 | n+1=>(eG hB Tryz.underlying29 (by kernel_rfl) (aY (Q1 hB n) (aY (aa0 hB n) fO))).map (λp=>⟨p.1,p.2.1⟩) (λp=>rfl) (λp h=>⟨h.1.1,h.2.1.1⟩)
theorem R8 (hB:Bulk bulk):∀ n,Opens enc Tryz.prog w base spare held bulk B n 157 Term.c (λ_=>True)
 | 0=>Opens.zero
 | n+1=>(eG hB Tryz.underlying157 (by kernel_rfl) (aY (IP n) (aY (IP n) fO))).map (λp=>⟨p.1,p.2.1⟩) (λp=>rfl) (λp h=>trivial)
theorem Xy (hB:Bulk bulk):∀ n,Opens enc Tryz.prog w base spare held bulk B n 159 Slot.c (λ_=>True)
 | 0=>Opens.zero
 | n+1=>(eG hB Tryz.underlying159 (by kernel_rfl) (aY (IP n) (aY (IP n) (aY (R8 hB n) fO)))).map (λp=>⟨p.1,p.2.1,p.2.2.1⟩) (λp=>by simp [Slot.c,Term.c,cI,dI]) (λp h=>trivial)
theorem aaZ (hB:Bulk bulk):∀ n,Opens enc Tryz.prog w base spare held bulk B n 30 (λl:List Slot=>[D.list (l.map Slot.c)]) (λl=>l.length<=B/\∀ a∈l,(λ_=>True) a)
 | 0=>Opens.zero
 | n+1=>gX hB Tryz.underlying30 (Xy hB n)
theorem Xv (hB:Bulk bulk):∀ n,Opens enc Tryz.prog w base spare held bulk B n 254 Test.c (λ_=>True)
 | 0=>Opens.zero
 | n+1=>(eG hB Tryz.underlying254 (by kernel_rfl) (aY (IP n) (aY (R8 hB n) (aY (R8 hB n) fO)))).map (λp=>⟨p.1,p.2.1,p.2.2.1⟩) (λp=>by simp [Test.c,Term.c,cI,dI]) (λp h=>trivial)
theorem aaY (hB:Bulk bulk):∀ n,Opens enc Tryz.prog w base spare held bulk B n 31 (λl:List Test=>[D.list (l.map Test.c)]) (λl=>l.length<=B/\∀ a∈l,(λ_=>True) a)
 | 0=>Opens.zero
 | n+1=>gX hB Tryz.underlying31 (Xv hB n)
theorem U5 (hB:Bulk bulk):∀ n,Opens enc Tryz.prog w base spare held bulk B n 33 Pattern.c (λ_=>True)
 | 0=>Opens.zero
 | n+1=>(eG hB Tryz.underlying33 (by kernel_rfl) (aY (Xt hB n) (aY (aaZ hB n) (aY (IP n) (aY (aaY hB n) fO))))).map (λp=>⟨p.1,p.2.1,p.2.2.1,p.2.2.2.1⟩) (λp=>by simp [Pattern.c,Graph.c,cI,dI]) (λp h=>trivial)
theorem aaX (hB:Bulk bulk):∀ n,Opens enc Tryz.prog w base spare held bulk B n 35 Part.c (λx=>x.nodes.length<=B/\x.edges.length<=B)
 | 0=>Opens.zero
 | n+1=>(eG hB Tryz.underlying35 (by kernel_rfl) (aY (Q1 hB n) (aY (Q1 hB n) fO))).map (λp=>⟨p.1,p.2.1⟩) (λp=>rfl) (λp h=>⟨h.1.1,h.2.1.1⟩)
theorem R7 (hB:Bulk bulk):∀ n,Opens enc Tryz.prog w base spare held bulk B n 36 Part.c (λx=>x.nodes.length<=B/\x.edges.length<=B)
 | 0=>Opens.zero
 | n+1=>(eG hB Tryz.underlying36 (by kernel_rfl) (aY (Q1 hB n) (aY (Q1 hB n) fO))).map (λp=>⟨p.1,p.2.1⟩) (λp=>rfl) (λp h=>⟨h.1.1,h.2.1.1⟩)
theorem Xs (hB:Bulk bulk):∀ n,Opens enc Tryz.prog w base spare held bulk B n 39 Cond.c (λc=>c.bnd B)
 | 0=>Opens.zero
 | n+1 =>
  have hk:Opens enc Tryz.prog w base spare held bulk B n 37 (λl:List Cond=>[D.list (l.map Cond.c)]) (λl=>l.length<=B/\∀ a∈l,Cond.bnd B a):=match n with
   | 0=>Opens.zero
   | m+1=>gX hB Tryz.underlying37 ((Xs hB (m+1)).mono (Nat.le_succ m))
  (eG hB Tryz.underlying39 (by kernel_rfl) (aY (IP n) (aY hk (aY (R7 hB n) (aY (U5 hB n) fO))))).map (λp=>Cond.mk p.1 p.2.1 p.2.2.1 p.2.2.2.1) (λp=>by simp [Cond.c,Cond.cs_eq,Part.c,Pattern.c,cI,dI]) (λp h=>(CN B _).2 ⟨h.2.2.1,h.2.1.2⟩)
theorem aaV (hB:Bulk bulk):∀ n,Opens enc Tryz.prog w base spare held bulk B n 41 Rule.c (λx=>(x.keep.nodes.length<=B/\x.keep.edges.length<=B)/\(x.into.nodes.length<=B/\x.into.edges.length<=B)/\x.cond.bnd B)
 | 0=>Opens.zero
 | n+1=>(eG hB Tryz.underlying41 (by kernel_rfl) (aY (Xq hB n) (aY (U5 hB n) (aY (U5 hB n) (aY (aaX hB n) (aY (R7 hB n) (aY (op4 n) (aY (Xs hB n) fO)))))))).map (λp=>⟨p.1,p.2.1,p.2.2.1,p.2.2.2.1,p.2.2.2.2.1,p.2.2.2.2.2.1,p.2.2.2.2.2.2.1⟩) (λp=>by simp [Rule.c,Pattern.c,Part.c,Cond.c_eq,cS,cI,dI]) (λp h=>⟨h.2.2.2.1,h.2.2.2.2.1,h.2.2.2.2.2.2.1⟩)
end
theorem Gr {t:Types}(d:t.valid):∀ c:Nat,c<t.nodes.length->∀ (b:Nat) (a:Int),mem (t.line c) (b:Int)=true->mem (t.line b) a=true->mem (t.line c) a=true:=by
 intro c
 induction c using Nat.strongRecOn with
 | _ c ih =>
 intro g b a hb h
 have f:=d.parent c _ (aA g)
 have e:=yX t c g (d.parentsOK c)
 rw [e,vE,c4] at hb
 rcases hb with hb|hb
 .by_cases h0:0<=t.nodes[c].parent
  .rw [if_pos h0] at hb
   rw [e,vE,c4,if_pos h0]
   exact .inl (ih _ aD aD b a hb h)
  .rw [if_neg h0,zX] at hb;cases hb
 .have:b=c:=by simp at hb;omega
  subst this;exact h
theorem Rl {t:Types}(i:(b9 t).2=0){ty a b e d:Int}(h:oF t ty a b=true)(g:wT t a e=true)(f:wT t b d=true)(k:0<=e/\e<t.nodes.length)(j:0<=d/\d<t.nodes.length):oF t ty e d=true:=by
 have c:=nP i
 unfold oF at h ⊢
 simp only [aQ,decide_eq_true_eq] at h ⊢
 obtain ⟨⟨o,n⟩,m,l⟩:=h
 obtain ⟨_,q,p⟩:=qU o
 unfold wT at g f
 rw [show a=((a.toNat:Nat):Int) by omega] at g
 rw [show b=((b.toNat:Nat):Int) by omega] at f
 refine ⟨⟨?_,n⟩,Gr c _ aD a.toNat _ g m,Gr c _ aD b.toNat _ f l⟩
 simp [given2F,i,insideF,k,j]
section
variable {t:Types} {r:Rule} {h:Host} {m:Mat}
theorem TT {l a:List Int}{es:List Edge}{g:Graph}{n:Int}(d:0<=n)(c:n<l.length)(b:g.nodes=l++a):gN g n=l[n.toNat]?.getD 0:=by
 unfold gN;rw [b,aS aD]
theorem StepIn.edge (S:StepIn t r h m):∀ x∈(bZ t r h m).graph.edges,((0<=x.type/\x.type<t.edges.length)/\(0<=x.from_/\x.from_<(bZ t r h m).graph.nodes.length)/\(0<=x.to_/\x.to_<(bZ t r h m).graph.nodes.length)) /\
  oF t x.type (gN (bZ t r h m).graph x.from_) (gN (bZ t r h m).graph x.to_)=true:=λx hx=>by
 have hbN:=S.bareN
 have hbin:=S.bin
 rw [S.bareE,aW,bB,bB] at hx
 rcases hx with ⟨k,hk,rfl⟩|⟨k,hk,rfl⟩
 .have hr:=S.ein k hk
  have hy:=VC hr.1 hr.2
  obtain ⟨e1,e2⟩:=S.ho.ed _ hy
  have hgi:=(eK S.ho.gg).2 _ hy
  obtain ⟨s1,s2⟩:=x9 S.sub hk
  obtain ⟨p1,p2,_⟩:=R5 S.nasc s1
  obtain ⟨q1,q2,_⟩:=R5 S.nasc s2
  have key:∀ v:Int,v∈(bV r h m).nodes->uG (bV r h m).nodes v<(bV r h m).nodes.length->iA (bV r h m).nodes (uG (bV r h m).nodes v)=v->gN (bZ t r h m).graph (uG (bV r h m).nodes v)=gN h.graph v:=λv hv hp hi=>by
   rw [TT (es:=[]) aD (bX hp) hbN,show ((uG (bV r h m).nodes v:Nat):Int).toNat=uG (bV r h m).nodes v by omega,aN]
   unfold iA at hi
   rw [show ((uG (bV r h m).nodes v:Nat):Int).toNat=uG (bV r h m).nodes v by omega,aA hp,Option.getD_some] at hi
   rw [aA hp,dQ,Option.getD_some,hi]
  have hl:(bZ t r h m).graph.nodes.length=(bV r h m).nodes.length+r.freshN.length:=by rw [hbN];simp
  rw [Sz]
  refine ⟨⟨⟨hgi.1.1,e1⟩,⟨by simp only;omega,by simp only;omega⟩,by simp only;omega,by simp only;omega⟩,?_⟩
  simp only
  rw [key _ s1 p1 p2,key _ s2 q1 q2];exact e2
 .have hr:=lR hk
  have hk2:k.toNat<r.right.graph.edges.length:=aD
  have hy:=(n8 S.hR.gr S.hR.tr).2 _ (aC hk2)
  rw [aA hk2,Option.getD_some]
  obtain ⟨y,hye⟩:=cW (r.right.graph.edges[k.toNat])
  rw [<- hye] at hy ⊢
  have hf:y.from_.toNat<r.right.graph.nodes.length:=aD
  have ht:y.to_.toNat<r.right.graph.nodes.length:=aD
  obtain ⟨n1,c1,l1,b1⟩:=S.com hf
  obtain ⟨n2,c2,l2,b2⟩:=S.com ht
  unfold freshE
  rw [c1,c2]
  simp only [Option.getD_some]
  have hfit:oF t y.type r.right.graph.nodes[y.from_.toNat] r.right.graph.nodes[y.to_.toNat]=true:=by
   have:=S.hR.mkb
   unfold yU at this
   rw [aQ,c9,c9,xI,xI] at this
   have h1:=this.2 k hk
   unfold unfitB at h1
   rw [aA hk2,Option.getD_some,<- hye] at h1
   unfold gN at h1
   rw [aA hf,aA ht] at h1
   simpa using h1
  have e1:gN (bZ t r h m).graph (n1:Int)=(bZ t r h m).graph.nodes[n1]:=by simp [gN,aA l1]
  have e2:gN (bZ t r h m).graph (n2:Int)=(bZ t r h m).graph.nodes[n2]:=by simp [gN,aA l2]
  refine ⟨⟨⟨hy.1.1,hy.1.2⟩,⟨aD,aD⟩,aD,aD⟩,?_⟩
  rw [e1,e2]
  exact Rl S.hR.vf hfit b1 b2 (hbin _ (aC l1)) (hbin _ (aC l2))
theorem Sv {x:Host}(f:(b9 t).2=0)(h:x.graph.nodes.length<=40)(l:x.graph.edges.length<=80)(s:x.values.length=x.graph.nodes.length)(m:∀ a∈x.graph.nodes,0<=a/\a<t.nodes.length)
  (d:∀ (n:Nat) (p:n<x.graph.nodes.length) (w:n<x.values.length),iC t x.graph.nodes[n] x.values[n]=0)
  (c:∀ y∈x.graph.edges,((0<=y.type/\y.type<t.edges.length)/\(0<=y.from_/\y.from_<x.graph.nodes.length)/\(0<=y.to_/\y.to_<x.graph.nodes.length))/\oF t y.type (gN x.graph y.from_) (gN x.graph y.to_)=true):iG t x=0:=by
 have v:=(nP f).fewN
 have k:=(nP f).fewE
 have u:graphF x.graph=0:=Rj h l (λa o=>by have:=m a o;omega) λy g=>by
  obtain ⟨⟨r,e,q⟩,_⟩:=c y g
  exact ⟨aD,e,q⟩
 have p:(gP (GG t x) 0 x.graph.nodes.length).2=0:=by
  rw [tW]
  refine p5 _ _ λj _ i=>?_
  have b:j<x.graph.nodes.length:=aD
  unfold GG
  rw [aA b,aA (aD:j<x.values.length),Option.getD_some,Option.getD_some]
  exact d j b aD
 unfold iG oE
 rw [if_neg aD,if_neg aD,if_neg aD,if_neg aD,tW]
 refine p5 _ _ λj _ i=>?_
 have b:j<x.graph.edges.length:=aD
 obtain ⟨r,e⟩:=c _ (aC b)
 unfold Ri
 rw [aA b,Option.getD_some,if_neg aD,if_pos e]
theorem PF {g:Graph}{c:Part}{vs:List Int}:∀ (l:List Slot) (vals:List (List Int)),vals.length=g.nodes.length->(∀ (n:Nat) (h1:n<g.nodes.length) (h2:n<vals.length),iC t g.nodes[n] vals[n]=0) ->
  (∀ s∈l,yR t g c vs s=false)->(∀ s∈l,0<=s.attr)->∀ (n:Nat) (h1:n<g.nodes.length) (h2:n<(uE c vs l vals).length),iC t g.nodes[n] (uE c vs l vals)[n]=0
 | [],vals,_,hx,_,_=>λn h1 h2=>hx n h1 h2
 | s :: l,vals,hl,hx,ho,ha=>by
  refine PF l (vals.set (fI c s) ((vals[fI c s]?.getD []).set s.attr.toNat (c8 s.term vs))) (by rw [g7];exact hl) (λn h1 h2=>?_) (λs hs=>ho s (by simp [hs])) (λs hs=>ha s (by simp [hs]))
  rw [g7] at h2
  have hI:=hx n h1 h2
  rw [Ah]
  split
  .rename_i hs'
   subst hs'
   rw [aA h2,Option.getD_some]
   obtain ⟨a1,a2,a3,a4⟩:=sN hI
   unfold iC
   rw [if_neg aD,if_neg (by rw [a2];simp),if_neg (by rw [g7];omega)]
   refine p5 _ _ λj _ hj=>?_
   have hja:j<(bM t g.nodes[fI c s]).length:=aD
   unfold Cb
   rw [aA hja,Option.getD_some]
   by_cases hj2:s.attr.toNat=j
   .have e:((vals[fI c s]).set s.attr.toNat (c8 s.term vs))[j]?=some (c8 s.term vs):=by rw [<- hj2];exact List.getElem?_set_self aD
    rw [e,Option.getD_some,if_neg]
    have hO:=ho s bW
    unfold yR at hO
    rw [aA h1,Option.getD_some,hj2,aA hja,Option.getD_some,Bool.or_eq_false_iff,decide_eq_false_iff_not,decide_eq_false_iff_not] at hO
    omega
   .rw [List.getElem?_set_ne hj2,aA (aD:j<(vals[fI c s]).length),Option.getD_some,if_neg]
    have:=a4 j aD hja
    omega
  .exact hI
theorem StepIn.after (S:StepIn t r h m)(a:s7 t (bZ t r h m).graph (eY r h m) m.vars r.right.slots=0)(e:(bZ t r h m).graph.nodes.length<=40)(f:(bZ t r h m).graph.edges.length<=80):iG t (cT t r h m)=0:=by
 have d:∀ s∈r.right.slots,yR t (bZ t r h m).graph (eY r h m) m.vars s=false:=by
  unfold s7 at a
  split at a
  .cases a
  .split at a
   .cases a
   .rename_i b
    rw [Bool.not_eq_true,xI] at b
    exact λs c=>by simpa using b s c
 exact Sv S.hR.vf e f (by show (uE _ _ _ _).length=_;rw [(oZ _ _ _ _).1];exact S.vlen) S.bin (λn g b=>PF _ _ S.vlen S.node d (λs c=>(S.hR.slots s c).2.1.1) n g b) S.edge
end
mutual
def nA:Cond→Bool
 | .mk k l m p=>B9 l&&decide ((p.graph.nodes.length:Int)+p.graph.edges.length≤6)
def B9:List Cond→Bool
 | []=>true
 | c :: l=>nA c&&B9 l
end
theorem MD (l:List Cond):B9 l=l.all nA:=by
 induction l with
 | nil=>simp [B9]
 | cons a l ih=>simp [B9,ih]
theorem A2 (c:Cond):nA c=(c.kids.all nA&&decide ((c.pattern.graph.nodes.length:Int)+c.pattern.graph.edges.length<=6)):=by
 cases c;simp only [nA,MD,Cond.kids,Cond.pattern];try rfl
theorem uP {α:Type}(l:List α)(p:α->Bool){i:Nat}(h:i<l.length):(l.take (i+1)).all p=((l.take i).all p&&p l[i]):=by
 rw [aE h,Bt];simp
theorem Kk:∀ c:Cond,c.ok->Pure Tryz.prog 133 [.agg c.c] (.bool (nA c)):=by
 refine i9 λc m o=>?_
 obtain ⟨k,n⟩:=(qW c).1 o
 have p1:=k.p1
 have p2:=k.p2
 refine Tz.pK ⟨λ_=>false,λ_=>[]⟩ Tryz.func133 rfl (λQ l=>?_)
 have Y:=@Cond.c_eq
 refine wv (h:=bD (λi e H=>(e 1=.adr c.c/\e 3=dI i)/\(i<=c.kids.length)/\((c.kids.take i).all nA=true)) (λi=>c.kids.length - i) 0 ⟨wg,wi,(by rfl)⟩ λr f i e H b=>?_)
 obtain ⟨p,q,d⟩:=b
 have Y:=wa Y p
 refine wv (h:=?_)
 repeat first|intro _|refine ⟨eO,?_⟩
 refine wq (λa=>?_) λa=>?_
 .have Y:=wa Y (wa a (aA a))
  refine wo (h:=aB ((by have:=m _ (aC a) (n _ (aC a));rwa [Cond.c_eq] at this)) wl ?_)
  refine wv (h:=?_)
  repeat first|intro _|refine ⟨eO,?_⟩
  refine wq (λj=>?_) λj=>?_
  .refine wv (h:=?_)
   have g:nA c=false:=by
    have:c.kids.all nA=false:=by
     rw [bH];intro h;exact absurd (cJ.1 h _ (aC a)) (bX j)
    rw [A2,this];rfl
   exact l _ _ (by simp [go_sem,g])
  .exact wo (h:=wx f (i+1) ⟨wg,wj,(by rw [uP _ _ a,d];simpa using j)⟩)
 .have hA:c.kids.all nA=true:=by rw [aG aD] at d;exact d
  have g:nA c=decide ((c.pattern.graph.nodes.length:Int)+c.pattern.graph.edges.length<=6):=by rw [A2,hA];rfl
  exact wo (h:=l _ _ (by simp [go_sem,g]))
def WK (p q:Pattern):Int:=((14 ^ (q.graph.nodes.length - p.graph.nodes.length) * 18 ^ (q.graph.edges.length - p.graph.edges.length):Nat):Int)
def IV (k:Int)(p' p:Pattern):Pattern:=if k=5 then p' else p
mutual
def mR:Cond→Pattern→Bool
 | .mk k l m p',p=>Hc l (IV k p' p)&&decide (WK p (IV k p' p)≤5000)
def Hc:List Cond→Pattern→Bool
 | [],_=>true
 | c :: l,q=>mR c q&&Hc l q
end
theorem Pi (l:List Cond)(q:Pattern):Hc l q=l.all λc=>mR c q:=by
 induction l with
 | nil=>simp [Hc]
 | cons a l ih=>simp [Hc,ih]
theorem Ad (c:Cond)(p:Pattern):mR c p=((c.kids.all λk=>mR k (IV c.kind c.pattern p))&&decide (WK p (IV c.kind c.pattern p)<=5000)):=by
 cases c;simp only [mR,Pi,Cond.kids,Cond.pattern,Cond.kind];try rfl
theorem rX {a j:Nat}(ha:1<=a)(hj:j<=6):a ^ j<=a ^ 6/\1<=a ^ j:=⟨Nat.pow_le_pow_right ha hj,by first|exact Nat.one_le_pow _ _ ha|exact Nat.pow_pos ha|exact Nat.pos_pow_of_pos _ ha⟩
theorem JQ (q:Pattern):q.c.take 5=q.c:=rfl
theorem HP:∀ c:Cond,c.ok->nA c=true->∀ p:Pattern,p.graph.nodes.length<=1000000->p.graph.edges.length<=1000000->Pure Tryz.prog 134 [p.d,.agg c.c,dI 14,dI 18] (.bool (mR c p)):=by
 refine i9 λc Z hc O p a1 a0=>?_
 obtain ⟨hs,hk⟩:=(qW c).1 hc
 have q1:=hs.p1
 have q2:=hs.p2
 rw [A2] at O
 simp only [aQ,decide_eq_true_eq,cJ] at O
 obtain ⟨q,D⟩:=dR (IV c.kind c.pattern p)
 have m:q.graph.nodes.length - p.graph.nodes.length<=6/\q.graph.edges.length - p.graph.edges.length<=6/\q.graph.nodes.length<=1000000/\q.graph.edges.length<=1000000:=by
  rw [<- D];unfold IV;split<;>omega
 refine Tz.pK ⟨λt=>t==9,λ_=>[]⟩ Tryz.func134 rfl (λQ P=>?_)
 have Y:=@Cond.c_eq
 refine dP (λU=>?_) λU=>?_
 .have hqc:c.pattern=q:=by rw [<- D];exact (if_pos U).symm
  refine wp (h:=bD (λi e H=>∃ w:Nat,(e 4=.adr p.c/\e 5=.adr c.c/\e 2=dI 14/\e 3=dI 18/\e 9=.ptr 0 1 0 0/\e 10=dI w/\e 11=dI i)/\(H.get 0=some ⟨33,5,[q.c],false⟩)/\(0<H.next)/\(p.graph.nodes.length<=i)/\(i<=q.graph.nodes.length\/i=p.graph.nodes.length)/\(w=14 ^ (i - p.graph.nodes.length))) (λi=>q.graph.nodes.length - i) p.graph.nodes.length ⟨1,wg,(by simp [go_sem,hqc,JQ]),wn,wi,wi,(by simp)⟩ λI0 K i e H F=>?_)
  obtain ⟨w,X,A,r,hi,s,B⟩:=F
  have Y:=wa Y (wa X (wa A (b8 r)))
  refine wv (h:=?_)
  repeat first|intro _|refine ⟨eL,?_⟩
  refine wq (λN=>?_) λN=>?_
  .have f:=(rX (a:=14) (j:=i - p.graph.nodes.length) aD aD).1
   rw [<- B] at f
   have g:w<=7529536:=f
   have Y:=wa Y N
   exact wp (h:=wx K (i+1) ⟨(w * 14),wg,(by simp [go_sem,Y]),wn,wj,wj,(by rw [(aD:i+1 - p.graph.nodes.length=(i - p.graph.nodes.length)+1),Nat.pow_succ,B])⟩)
  .have hw':w=14 ^ (q.graph.nodes.length - p.graph.nodes.length):=by rw [B];congr 1;omega
   have f:=(rX (a:=14) (j:=q.graph.nodes.length - p.graph.nodes.length) aD m.1).1
   rw [<- hw'] at f
   have g:w<=7529536:=f
   refine wp (h:=bD (λk e H=>∃ v:Nat,(e 4=.adr p.c/\e 5=.adr c.c/\e 2=dI 14/\e 3=dI 18/\e 9=.ptr 0 1 0 0/\e 10=dI v/\e 12=dI k)/\(H.get 0=some ⟨33,5,[q.c],false⟩)/\(0<H.next)/\(p.graph.edges.length<=k)/\(k<=q.graph.edges.length\/k=p.graph.edges.length)/\(v=w * 18 ^ (k - p.graph.edges.length))) (λk=>q.graph.edges.length - k) p.graph.edges.length ⟨w,wg,(by simp [go_sem,Y]),wn,wi,wi,(by simp)⟩ λI2 J k e H s=>?_)
   obtain ⟨v,W,z,o,T,S,C⟩:=s
   have Y:=wa Y (wa W (wa z (b8 o)))
   refine wv (h:=?_)
   repeat first|intro _|refine ⟨eL,?_⟩
   refine wq (λu=>?_) λu=>?_
   .have hvb:=(rX (a:=18) (j:=k - p.graph.edges.length) aD aD).1
    have M:v<=7529536 * 34012224:=by rw [C];exact j4 g hvb
    have Y:=wa Y u
    exact wp (h:=wx J (k+1) ⟨(v * 18),wg,(by simp [go_sem,Y]),wn,wj,wj,(by rw [(aD:k+1 - p.graph.edges.length=(k - p.graph.edges.length)+1),Nat.pow_succ,C,Nat.mul_assoc])⟩)
   .have hv':v=w * 18 ^ (q.graph.edges.length - p.graph.edges.length):=by rw [C];congr 2;omega
    refine wv (h:=bD (λj e H=>(e 4=.adr p.c/\e 5=.adr c.c/\e 2=dI 14/\e 3=dI 18/\e 9=.ptr 0 1 0 0/\e 10=dI v/\e 13=dI j)/\(H.get 0=some ⟨33,5,[q.c],false⟩)/\(0<H.next)/\(j<=c.kids.length)/\((c.kids.take j).all (λx=>mR x q)=true)) (λj=>c.kids.length - j) 0 ⟨wg,(by simp [go_sem,Y]),wn,wi,(by rfl)⟩ λI4 I j e H E=>?_)
    obtain ⟨V,y,n,hj,G⟩:=E
    have Y:=wa Y (wa V (wa y (b8 n)))
    refine wv (h:=?_)
    repeat first|intro _|refine ⟨eL,?_⟩
    refine wq (λb=>?_) λb=>?_
    .have Y:=wa Y (wa b (wa (aA b) @JQ))
     refine wp (h:=aI ((by have R:=Z _ (aC b) (hk _ (aC b)) (O.1 _ (aC b)) q m.2.2.1 m.2.2.2;rwa [Cond.c_eq] at R)) wl ?_)
     refine wv (h:=?_)
     repeat first|intro _|refine ⟨eL,?_⟩
     refine wq (λl=>?_) λl=>?_
     .refine wv (h:=?_)
      have L:mR c p=false:=by
       have:(c.kids.all λx=>mR x q)=false:=by
        rw [bH];intro h;exact absurd (cJ.1 h _ (aC b)) (bX l)
       rw [Ad,D,this];rfl
      exact P _ _ (by simp [go_sem,L])
     .exact wp (h:=wx I (j+1) ⟨wg,(by simp [go_sem,Y]),wn,wj,(by rw [uP _ _ b,G];simpa using l)⟩)
    .have hA:(c.kids.all λx=>mR x q)=true:=by rw [aG aD] at G;exact G
     have L:mR c p=decide ((v:Int)<=5000):=by rw [Ad,D,hA,hv',hw'];rfl
     exact wv (h:=P _ _ (by simp [go_sem,L]))
 .have hqc:p=q:=by rw [<- D];exact (if_neg U).symm
  refine wp (h:=bD (λi e H=>∃ w:Nat,(e 4=.adr p.c/\e 5=.adr c.c/\e 2=dI 14/\e 3=dI 18/\e 9=.ptr 0 1 0 0/\e 10=dI w/\e 11=dI i)/\(H.get 0=some ⟨33,5,[q.c],false⟩)/\(0<H.next)/\(p.graph.nodes.length<=i)/\(i<=q.graph.nodes.length\/i=p.graph.nodes.length)/\(w=14 ^ (i - p.graph.nodes.length))) (λi=>q.graph.nodes.length - i) p.graph.nodes.length ⟨1,wg,(by simp [go_sem,hqc,JQ]),wn,wi,wi,(by simp)⟩ λI0 K i e H F=>?_)
  obtain ⟨w,X,A,r,hi,s,B⟩:=F
  have Y:=wa Y (wa X (wa A (b8 r)))
  refine wv (h:=?_)
  repeat first|intro _|refine ⟨eL,?_⟩
  refine wq (λN=>?_) λN=>?_
  .have f:=(rX (a:=14) (j:=i - p.graph.nodes.length) aD aD).1
   rw [<- B] at f
   have g:w<=7529536:=f
   have Y:=wa Y N
   exact wp (h:=wx K (i+1) ⟨(w * 14),wg,(by simp [go_sem,Y]),wn,wj,wj,(by rw [(aD:i+1 - p.graph.nodes.length=(i - p.graph.nodes.length)+1),Nat.pow_succ,B])⟩)
  .have hw':w=14 ^ (q.graph.nodes.length - p.graph.nodes.length):=by rw [B];congr 1;omega
   have f:=(rX (a:=14) (j:=q.graph.nodes.length - p.graph.nodes.length) aD m.1).1
   rw [<- hw'] at f
   have g:w<=7529536:=f
   refine wp (h:=bD (λk e H=>∃ v:Nat,(e 4=.adr p.c/\e 5=.adr c.c/\e 2=dI 14/\e 3=dI 18/\e 9=.ptr 0 1 0 0/\e 10=dI v/\e 12=dI k)/\(H.get 0=some ⟨33,5,[q.c],false⟩)/\(0<H.next)/\(p.graph.edges.length<=k)/\(k<=q.graph.edges.length\/k=p.graph.edges.length)/\(v=w * 18 ^ (k - p.graph.edges.length))) (λk=>q.graph.edges.length - k) p.graph.edges.length ⟨w,wg,(by simp [go_sem,Y]),wn,wi,wi,(by simp)⟩ λI2 J k e H s=>?_)
   obtain ⟨v,W,z,o,T,S,C⟩:=s
   have Y:=wa Y (wa W (wa z (b8 o)))
   refine wv (h:=?_)
   repeat first|intro _|refine ⟨eL,?_⟩
   refine wq (λu=>?_) λu=>?_
   .have hvb:=(rX (a:=18) (j:=k - p.graph.edges.length) aD aD).1
    have M:v<=7529536 * 34012224:=by rw [C];exact j4 g hvb
    have Y:=wa Y u
    exact wp (h:=wx J (k+1) ⟨(v * 18),wg,(by simp [go_sem,Y]),wn,wj,wj,(by rw [(aD:k+1 - p.graph.edges.length=(k - p.graph.edges.length)+1),Nat.pow_succ,C,Nat.mul_assoc])⟩)
   .have hv':v=w * 18 ^ (q.graph.edges.length - p.graph.edges.length):=by rw [C];congr 2;omega
    refine wv (h:=bD (λj e H=>(e 4=.adr p.c/\e 5=.adr c.c/\e 2=dI 14/\e 3=dI 18/\e 9=.ptr 0 1 0 0/\e 10=dI v/\e 13=dI j)/\(H.get 0=some ⟨33,5,[q.c],false⟩)/\(0<H.next)/\(j<=c.kids.length)/\((c.kids.take j).all (λx=>mR x q)=true)) (λj=>c.kids.length - j) 0 ⟨wg,(by simp [go_sem,Y]),wn,wi,(by rfl)⟩ λI4 I j e H E=>?_)
    obtain ⟨V,y,n,hj,G⟩:=E
    have Y:=wa Y (wa V (wa y (b8 n)))
    refine wv (h:=?_)
    repeat first|intro _|refine ⟨eL,?_⟩
    refine wq (λb=>?_) λb=>?_
    .have Y:=wa Y (wa b (wa (aA b) @JQ))
     refine wp (h:=aI ((by have R:=Z _ (aC b) (hk _ (aC b)) (O.1 _ (aC b)) q m.2.2.1 m.2.2.2;rwa [Cond.c_eq] at R)) wl ?_)
     refine wv (h:=?_)
     repeat first|intro _|refine ⟨eL,?_⟩
     refine wq (λl=>?_) λl=>?_
     .refine wv (h:=?_)
      have L:mR c p=false:=by
       have:(c.kids.all λx=>mR x q)=false:=by
        rw [bH];intro h;exact absurd (cJ.1 h _ (aC b)) (bX l)
       rw [Ad,D,this];rfl
      exact P _ _ (by simp [go_sem,L])
     .exact wp (h:=wx I (j+1) ⟨wg,(by simp [go_sem,Y]),wn,wj,(by rw [uP _ _ b,G];simpa using l)⟩)
    .have hA:(c.kids.all λx=>mR x q)=true:=by rw [aG aD] at G;exact G
     have L:mR c p=decide ((v:Int)<=5000):=by rw [Ad,D,hA,hv',hw'];rfl
     exact wv (h:=P _ _ (by simp [go_sem,L]))
def E7 (t:Types)(p:Pattern)(c:Cond)(h:Host):Bool:=fewC c&&fewP p&&Co h&&(decide (condF t p c≠0)||(light21 t p h&&nA c&&decide ((h.graph.nodes.length:Int)<=6)&&decide ((h.graph.edges.length:Int)<=8)&&mR c p))
theorem L5 (t:Types)(m:t.ok)(p:Pattern)(c:Cond)(o:c.le)(h:Host):Pure Tryz.prog 55 [t.d,p.d,.agg c.c,h.d] (.bool (E7 t p c h)):=by
 refine Tz.pK ⟨λ_=>false,λ_=>[]⟩ Tryz.func55 rfl (λQ n=>?_)
 have Y:=wa @Host.c.eq_1 (wa @Pattern.c.eq_1 @Cond.c_eq)
 refine wo (h:=aB ((by have b:=IH c o;rwa [Cond.c_eq] at b)) wl ?_)
 refine wo (h:=aH (λa=>u3 p) (λa=>wl) ?_)
 refine wo (h:=aH (λa=>C7 h) (λa=>wl) ?_)
 refine fA (λl=>?_) λl=>?_
 .have hF:(fewC c&&fewP p&&Co h)=false:=by cases k:fewC c<;>cases j:fewP p<;>cases i:Co h<;>simp [k,j,i] at l<;>rfl
  exact wv (h:=n _ _ (by simp [go_sem,E7,hF]))
 .have hF:fewC c=true/\fewP p=true/\Co h=true:=by cases k:fewC c<;>cases j:fewP p<;>cases i:Co h<;>simp [k,j,i] at l<;>exact ⟨rfl,rfl,rfl⟩
  have f:c.ok/\c.size<=1000000:=by
   have g:=hF.1
   simp [fewC] at g
   have q:=Gu c 40 aD g
   exact ⟨q.1,aD⟩
  have e:p.graph.nodes.length<=1000000/\p.graph.edges.length<=1000000:=by
   have g:=hF.2.1
   simp [fewP,fewG] at g
   omega
  refine wo (h:=aB ((by have b:=DS t m p c f.1 f.2;rwa [Cond.c_eq] at b)) wl ?_)
  refine wo (h:=aH (λa=>L9 t m p h) (λa=>wl) ?_)
  refine wo (h:=aH (λa=>(by have b:=Kk c f.1;rwa [Cond.c_eq] at b)) (λa=>wl) ?_)
  refine wo (h:=aH (λa=>(by have b:=HP c f.1 (by simp at a;simp_all) p e.1 e.2;rwa [Cond.c_eq] at b)) (λa=>wl) ?_)
  exact wo (h:=n _ _ (by simp [go_sem,E7,hF.1,hF.2.1,hF.2.2]))
def light26 (t:Types)(r:Rule)(h:Host):Bool:=uK t&&fewR r&&E7 t r.left r.cond h
theorem Qi (t:Types)(b:t.ok)(r:Rule)(f:r.ok)(h:Host)(m:Mat){v:Stp26}{e:Int}(a:v=fU t r h m)(g:e=nT t r h m):Pure Tryz.prog 16 [t.d,r.d,h.d,m.d] (.tup [.agg v.c,dI e]):=by
 subst a g;exact LW t b r f h m
theorem RV (l:List Stp26):D.clLL (l.map Stp26.c)=true:=dK _ Stp26.cl l
attribute [go_sem] RV
end Go.Abs
end
