/- Values of a match, Solve, Matches of the program. · slices.R -/
import Derived.Test.YthalajhajpjjeaaGreatZfAF
import Derived.Test.YthalajhajpjjeaaGreatZfAA
import Derived.Test.YthalajhajpjjeaaGreatZfAQ
import Derived.Test.YthalajhajpjjeaaGreatZfAR
import Derived.Shelf.Spec.SlicesInsert
import Derived.Lib.AppendZerosOnto
import Derived.Shelf.Bits.Mul64
import Derived.Deep.OwnRows
import Derived.Laws.NewBlocks
import Derived.Laws.CopyOwn
set_option linter.unusedVariables false
set_option linter.unusedSimpArgs false
section
set_option maxRecDepth 100000
set_option maxHeartbeats 4000000
open Go Go.Proofs
namespace Go.Abs
theorem En (p:Pattern)(h:Host)(m:Part)(hO:SOk p h m):Pure Tryz.prog 178 [p.d,h.d,m.d] (.tup [dLI (fC p h m []).1,dI (fC p h m []).2]):=by
 have hv:=hO.vars
 have h0:=Lf (vs:=[]) hv.1 bV bV
 rw [Ew] at h0
 refine Tz.pK ⟨λt=>t==11||t==15,λr=>match r with|1=>[(2,3),(2,4),(0,5),(1,5),(2,5)]|_=>[]⟩ Tryz.func178 rfl (λQ hQ=>?_)
 have Y:=wa @Pattern.d.eq_1 (wa @Pattern.c.eq_1 (wa @Host.d.eq_1 (wa @Host.c.eq_1 (wa @Part.d.eq_1 (wa @Part.c.eq_1 @Term.c.eq_1)))))
 refine wv (h:=?_)
 repeat first|intro _|refine ⟨eQ,?_⟩
 refine bF (λi e H=>∃ st:List Int × List Bool,(e 3=.adr p.c/\e 4=.adr h.c/\e 5=.adr m.c/\e 8=.own 2 p.vars.toNat/\e 9=.own 5 p.vars.toNat/\e 23=.list (p.slots.map Slot.c)/\e 24=dI p.slots.length/\e 25=dI i)/\(H.get 2=some ⟨3,1,st.1.map cI,false⟩)/\(2<H.next)/\(H.get 5=some ⟨4,1,st.2.map cB,false⟩)/\(5<H.next)/\(i<=p.slots.length)/\(StOk p.vars.toNat st)/\(jA h m (Jv p []) (p.slots.take i)=some st)) (λi=>p.slots.length - i) 0 ⟨((List.replicate p.vars.toNat 0,List.replicate p.vars.toNat false)),wg,(by simp [go_sem,cI]),wn,(by simp [go_sem,cB]),wn,wi,(by exact h0),(by rw [Ew];rfl)⟩ λI0 hI0 i e H hi0=>?_
 obtain ⟨st,E0,g2_0,n2_0,g5_0,n5_0,hi,hst,hsl⟩:=hi0
 have Y:=wa Y (wa E0 (wa g2_0 (wa (cD n2_0) (wa g5_0 (cD n5_0)))))
 refine dP (λh3=>?_) λh3=>?_
 .obtain ⟨x,hx⟩:=cF (p.slots[i])
  have hxm:x∈p.slots:=hx ▸ aC h3
  have hn:=hO.node x hxm
  have hn2:x.node.toNat<m.nodes.length:=aD
  have hk:=hO.img _ (aC hn2)
  have hk2:(m.nodes[x.node.toNat]).toNat<h.values.length:=aD
  have ha:=hO.attr x hxm
  rw [aA hn2,Option.getD_some,aA hk2,Option.getD_some] at ha
  have ha2:x.attr.toNat<(h.values[(m.nodes[x.node.toNat]).toNat]).length:=aD
  have hV:lH h m x=h.values[(m.nodes[x.node.toNat]).toNat][x.attr.toNat]:=by unfold lH;rw [aA hn2,Option.getD_some,aA hk2,Option.getD_some,aA ha2];rfl
  have hb:=hO.have_ hxm
  have hT:=hO.term x hxm
  have hl1:=hst.l1
  have hl2:=hst.l2
  have hTv:=hT.1
  have hTa:=hT.2
  have hSt:=sP h3 hsl
  rw [<- hx] at hSt
  obtain ⟨s2,hs2e⟩:∃ y,y=lP h m st x:=⟨_,rfl⟩
  have hs2:StOk p.vars.toNat s2:=hs2e ▸ xF hst hb hT
  rw [<- hs2e] at hSt
  have hs2n:¬ 0<=x.term.var->s2=st:=λhn=>by rw [hs2e];unfold lP kJ;rw [if_neg (by simp [hn])]
  have vlt:0<=x.term.var->x.term.var.toNat<st.2.length:=λhn=>by omega
  obtain ⟨kb,hkb⟩:=cF (st.2[x.term.var.toNat]?.getD false)
  have hcase:0<=x.term.var\/(¬ 0<=x.term.var/\st.2[x.term.var.toNat]?=none)\/(¬ 0<=x.term.var/\st.2[x.term.var.toNat]?=some kb):=by
   by_cases hsp:0<=x.term.var
   .exact .inl hsp
   .right
    cases ho:st.2[x.term.var.toNat]? with
    | none=>exact .inl ⟨hsp,rfl⟩
    | some b=>rw [ho] at hkb;exact .inr ⟨hsp,by rw [hkb];rfl⟩
  rcases hcase with hc|hc|hc
  .have Y:=wa Y (wa h3 (wa (aA h3) (wa (Eq.symm hx) (wa (aA hn2) (wa (aA hk2) (wa (aA ha2) (wa (Eq.symm hV) (wa @Slot.c.eq_1 (wa @cL.eq_1 (wa hl1 (wa hl2 (wa @j5 (wa @cB.eq_1 (wa hc ((aA (vlt hc)))))))))))))))))
   refine wv (h:=?_)
   repeat first|intro _|refine ⟨eQ,?_⟩
   refine wq (λh7=>?_) λh7=>?_
   .have hF:kJ st x=true:=by simp only [kJ,aR,decide_eq_true_eq,c9];exact ⟨hc,by simpa [aA (vlt hc)] using h7⟩
    unfold lP at hs2e
    rw [if_pos hF] at hs2e
    have hvl:x.term.var.toNat<st.1.length:=aD
    have e1:s2.1.map cI=(st.1.map cI).set x.term.var.toNat (cI (lH h m x - x.term.add)):=by rw [hs2e,bX]
    have e2:s2.2.map cB=(st.2.map cB).set x.term.var.toNat (cB true):=by rw [hs2e,bX]
    have ecl:D.clLL ((st.1.map cI).set x.term.var.toNat [D.int .i64 (lH h m x - x.term.add)])=true:=by have:=pZ s2.1;rw [e1] at this;exact this
    have Y:=wa Y (wa e1 (wa e2 (wa @dLI.eq_1 (wa @cI.eq_1 (wa (aA hvl) ecl)))))
    refine wv (h:=?_)
    repeat first|intro _|refine ⟨eQ,?_⟩
    refine dW (lR x.term s2.1 (by rw [hs2.l1];exact hT) hs2.big) wr wl rfl ?_
    refine wv (h:=?_)
    repeat first|intro _|refine ⟨eQ,?_⟩
    refine wq (λh9=>?_) λh9=>?_
    .have hR:=eG (hSt.2 (by first|simpa using h9|simpa [hs2n hc.1] using h9|simpa [hs2e] using h9))
     exact wv (h:=hQ _ _ (by simp [go_sem,hR]))
    .have hstep:=hSt.1 (by first|simpa using h9|simpa [hs2n hc.1] using h9|simpa [hs2e] using h9)
     refine wv (h:=?_)
     repeat first|intro _|refine ⟨eQ,?_⟩
     exact wx hI0 (i+1) ⟨s2,wg,(by simp [go_sem,Y]),wn,(by simp [go_sem,Y]),wn,wj,(by exact hs2),(by exact hstep)⟩
   .have hF:¬ kJ st x=true:=by simp only [kJ,aR,decide_eq_true_eq,c9];rintro ⟨_,hk⟩;simp [aA (vlt hc)] at hk;simp [hk] at h7
    unfold lP at hs2e
    rw [if_neg hF] at hs2e
    have Y:=wa Y hs2e
    refine wv (h:=dW (lR x.term s2.1 (by rw [hs2.l1];exact hT) hs2.big) wr wl rfl ?_)
    refine dP (λh9=>?_) λh9=>?_
    .have hR:=eG (hSt.2 (by first|simpa using h9|simpa [hs2n hc.1] using h9|simpa [hs2e] using h9))
     exact wv (h:=hQ _ _ (by simp [go_sem,hR]))
    .have hstep:=hSt.1 (by first|simpa using h9|simpa [hs2n hc.1] using h9|simpa [hs2e] using h9)
     refine wv (h:=?_)
     repeat first|intro _|refine ⟨eQ,?_⟩
     exact wx hI0 (i+1) ⟨s2,wg,(by simp [go_sem,Y]),wn,(by simp [go_sem,Y]),wn,wj,(by exact hs2),(by exact hstep)⟩
  .have Y:=wa Y (wa h3 (wa (aA h3) (wa (Eq.symm hx) (wa (aA hn2) (wa (aA hk2) (wa (aA ha2) (wa (Eq.symm hV) (wa @Slot.c.eq_1 (wa @cL.eq_1 (wa hl1 (wa hl2 (wa @j5 (wa @cB.eq_1 (wa hc.1 (wa hc.2 (hs2n hc.1))))))))))))))))
   refine wv (h:=?_)
   repeat first|intro _|refine ⟨eQ,?_⟩
   refine dW (lR x.term s2.1 (by rw [hs2.l1];exact hT) hs2.big) wr wl rfl ?_
   refine wv (h:=?_)
   repeat first|intro _|refine ⟨eQ,?_⟩
   refine wq (λh9=>?_) λh9=>?_
   .have hR:=eG (hSt.2 (by first|simpa using h9|simpa [hs2n hc.1] using h9|simpa [hs2e] using h9))
    exact wv (h:=hQ _ _ (by simp [go_sem,hR]))
   .have hstep:=hSt.1 (by first|simpa using h9|simpa [hs2n hc.1] using h9|simpa [hs2e] using h9)
    refine wv (h:=?_)
    repeat first|intro _|refine ⟨eQ,?_⟩
    exact wx hI0 (i+1) ⟨s2,wg,(by simp [go_sem,Y]),wn,(by simp [go_sem,Y]),wn,wj,(by exact hs2),(by exact hstep)⟩
  .have Y:=wa Y (wa h3 (wa (aA h3) (wa (Eq.symm hx) (wa (aA hn2) (wa (aA hk2) (wa (aA ha2) (wa (Eq.symm hV) (wa @Slot.c.eq_1 (wa @cL.eq_1 (wa hl1 (wa hl2 (wa @j5 (wa @cB.eq_1 (wa hc.1 (wa hc.2 (hs2n hc.1))))))))))))))))
   refine wv (h:=?_)
   repeat first|intro _|refine ⟨eQ,?_⟩
   refine dW (lR x.term s2.1 (by rw [hs2.l1];exact hT) hs2.big) wr wl rfl ?_
   refine wv (h:=?_)
   repeat first|intro _|refine ⟨eQ,?_⟩
   refine wq (λh9=>?_) λh9=>?_
   .have hR:=eG (hSt.2 (by first|simpa using h9|simpa [hs2n hc.1] using h9|simpa [hs2e] using h9))
    exact wv (h:=hQ _ _ (by simp [go_sem,hR]))
   .have hstep:=hSt.1 (by first|simpa using h9|simpa [hs2n hc.1] using h9|simpa [hs2e] using h9)
    refine wv (h:=?_)
    repeat first|intro _|refine ⟨eQ,?_⟩
    exact wx hI0 (i+1) ⟨s2,wg,(by simp [go_sem,Y]),wn,(by simp [go_sem,Y]),wn,wj,(by exact hs2),(by exact hstep)⟩
 .rw [aH aD] at hsl
  have hR0:=oH hsl
  have hl1:=hst.l1
  have Y:=wa Y hl1
  refine wv (h:=?_)
  repeat first|intro _|refine ⟨eQ,?_⟩
  refine bF (λk e H=>(e 3=.adr p.c/\e 4=.adr h.c/\e 5=.adr m.c/\e 8=.own 2 p.vars.toNat/\e 74=.list (p.tests.map Test.c)/\e 75=dI p.tests.length/\e 76=dI k)/\(H.get 2=some ⟨3,1,st.1.map cI,false⟩)/\(2<H.next)/\(k<=p.tests.length)/\((p.tests.take k).all (λx=>zK x st.1)=true)) (λk=>p.tests.length - k) 0 ⟨wg,wn,wn,wi,(by rfl)⟩ λI2 hI2 k e H hi2=>?_
  obtain ⟨E2,g2_2,n2_2,hk,hall⟩:=hi2
  have Y:=wa Y (wa E2 (wa g2_2 (cD n2_2)))
  refine dP (λh13=>?_) λh13=>?_
  .have Y:=wa Y (wa h13 (wa (aA h13) @Test.c.eq_1))
   refine wv (h:=?_)
   repeat first|intro _|refine ⟨eQ,?_⟩
   refine dW (uX p.tests[k] st.1 (by rw [hst.l1];exact hO.test _ (aC h13)) hst.big) wr wl rfl ?_
   refine wv (h:=?_)
   repeat first|intro _|refine ⟨eQ,?_⟩
   refine wq (λh15=>?_) λh15=>?_
   .have hR:fC p h m []=([],16):=by
     rw [hR0,if_neg]
     intro ha
     rw [cO] at ha
     have:=ha _ (aC h13)
     simp [this] at h15
    exact wv (h:=hQ _ _ (by simp [go_sem,hR]))
   .refine wv (h:=?_)
    repeat first|intro _|refine ⟨eQ,?_⟩
    exact wx hI2 (k+1) ⟨wg,wn,wn,wj,(by rw [aE h13,A0,hall];simp;simpa using h15)⟩
  .rw [aH aD] at hall
   rw [if_pos hall] at hR0
   exact wv (h:=hQ _ _ (by simp [go_sem,Y,hR0,dLI]))
theorem Ep (t:Types)(ht:t.ok)(p:Pattern)(h:Host):Pure Tryz.prog 176 [t.d,p.d,h.d] (dI (zN t p h)):=by
 refine Tz.pK ⟨λ_=>false,λ_=>[]⟩ Tryz.func176 rfl (λQ hQ=>?_)
 have Y:=wa @Host.d.eq_1 @Host.c.eq_1
 refine wv (h:=aB (nI t ht p) wl ?_)
 refine dP (λh2=>?_) λh2=>?_
 .exact wv (h:=hQ _ _ (by simp [go_sem,zN,h2]))
 .refine wv (h:=aB (AE t ht h) wl ?_)
  exact wv (h:=hQ _ _ (by simp [go_sem,zN,h2,iF]))
theorem wO (t:Types)(ht:t.ok)(p:Pattern)(h:Host)(m:Part):Pure Tryz.prog 231 [t.d,p.d,h.d,m.d] (.tup [dLI (d9 t p h m).1,dI (d9 t p h m).2]):=by
 refine Tz.pK ⟨λ_=>false,λ_=>[]⟩ Tryz.func231 rfl (λQ hQ=>?_)
 have Y:=wa @Pattern.d.eq_1 (wa @Pattern.c.eq_1 (wa @Host.d.eq_1 @Host.c.eq_1))
 refine wv (h:=aB (Ep t ht p h) wl ?_)
 refine dP (λh2=>?_) λh2=>?_
 .have hS:d9 t p h m=([],zN t p h):=by
   unfold d9 zN
   unfold zN at h2
   by_cases hp:c5 t p=0
   .rw [if_neg aD] at h2 ⊢
    rw [if_pos h2,if_neg aD]
   .rw [if_pos hp,if_pos hp]
  exact wv (h:=hQ _ _ (by simp [go_sem,hS]))
 .have hp0:c5 t p=0:=by
   unfold zN at h2
   refine bB λhp=>?_
   rw [if_pos hp] at h2;exact hp h2
  have hh0:iF t h=0:=by unfold zN at h2;rw [if_neg aD] at h2;exact h2
  refine wv (h:=aB (vJ t ht p.graph h.graph m false) wl ?_)
  refine dP (λh5=>?_) λh5=>?_
  .have hS:d9 t p h m=([],fN t p.graph h.graph m false):=by unfold d9;rw [if_neg aD,if_neg aD,if_pos h5]
   exact wv (h:=hQ _ _ (by simp [go_sem,hS]))
  .have h5':fN t p.graph h.graph m false=0:=aD
   have hS:d9 t p h m=fC p h m []:=by unfold d9;rw [if_neg aD,if_neg aD,if_neg aD]
   refine wv (h:=aB (En p h m (Ue (L2 (.inr hp0)) (r4 hh0) (rX (rJ h5').2))) wl ?_)
   exact wv (h:=hQ _ _ (by simp [go_sem,hS]))
end Go.Abs
end
section
set_option maxRecDepth 100000
set_option maxHeartbeats 4000000
open Go Go.Proofs Go.RowKit Go.Shelf Go.Lib
namespace Go.Abs
theorem P6 (x y:Nat)(hx:x<18446744073709551616)(hy:y<18446744073709551616)(w:World) :
  Calls Tryz.prog 391 #[.int .u64 x,.int .u64 y] w λe w'=>e=.returned (.tuple #[.int .u64 ((x * y / 18446744073709551616:Nat):Int),.int .u64 ((x * y % 18446744073709551616:Nat):Int)])/\w'=w:=by
 obtain ⟨bd,bt,bw,hhi⟩:=Lib.mul64_hi x y hx hy
 have ba:=Lib.half_mul_le (a:=x / 4294967296) (b:=y / 4294967296) aD aD
 have bb:=Lib.half_mul_le (a:=x / 4294967296) (b:=y % 4294967296) aD aD
 have bc:=Lib.half_mul_le (a:=x % 4294967296) (b:=y / 4294967296) aD aD
 have ba':x / 4294967296 * (y / 4294967296)<18446744073709551616:=aD
 have bb':x / 4294967296 * (y % 4294967296)<18446744073709551616:=aD
 have bc':x % 4294967296 * (y / 4294967296)<18446744073709551616:=aD
 have bh1:x / 4294967296 * (y / 4294967296)+(x / 4294967296 * (y % 4294967296)+x % 4294967296 * (y % 4294967296) / 4294967296) / 4294967296<18446744073709551616:=aD
 have bh:x / 4294967296 * (y / 4294967296)+(x / 4294967296 * (y % 4294967296)+x % 4294967296 * (y % 4294967296) / 4294967296) / 4294967296+((x / 4294967296 * (y % 4294967296)+x % 4294967296 * (y % 4294967296) / 4294967296) % 4294967296+x % 4294967296 * (y / 4294967296)) / 4294967296<18446744073709551616:=aD
 go_enter Tryz.func391,Tryz.ntmps391
 go_wp2
 simp only [Mul64.maskN x hx,Mul64.maskN y hy,Mul64.divN,Mul64.mulN,Mul64.addN,Mul64.wrapN _ bd,Mul64.wrapN _ bb',Mul64.wrapN _ bt,Mul64.maskN _ bt,Mul64.wrapN _ bc',Mul64.wrapN _ bw,Mul64.wrapN _ ba',Mul64.wrapN _ bh1,Mul64.wrapN _ bh,Mul64.wrapM (x * y)]
 rw [hhi]
 go_ret2
 exact ⟨rfl,rfl⟩
theorem SQ (x y:Nat)(hx:x<18446744073709551616)(hy:y<18446744073709551616)(w:World) :
  Calls Tryz.prog 335 #[.int .u64 x,.int .u64 y] w λe w'=>e=.returned (.tuple #[.int .u64 ((x * y / 18446744073709551616:Nat):Int),.int .u64 ((x * y % 18446744073709551616:Nat):Int)])/\w'=w:=by
 have c64:=P6 x y hx hy w
 have e264:∀ args w,(callFunc 391 args).run Tryz.prog w=.ok (.enter 391 args) w:=enters_of Tryz.func391 (by kernel_rfl) rfl
 go_enter Tryz.func335,Tryz.ntmps335
 go_wp2_with (go_at_fn 391;refine c64.mono ?_;rintro e w' ⟨rfl,hw⟩;rw [hw])
 go_ret2
 exact ⟨rfl,rfl⟩
def nK (v:Int)(n k:Nat):List Value:=List.replicate k (.int .i64 v)++List.replicate (n - k) (.int .i64 0)
theorem Lq {v:Int}{n k m:Nat}(h:k+m<=n):(nK v n k).take k++List.replicate m (.int .i64 v)++(nK v n k).drop (k+m)=nK v n (k+m):=by
 unfold nK
 rw [List.take_left' bV,List.drop_append,d7,jL bV,dA,List.drop_replicate,<- List.replicate_append_replicate]
 congr 2
 omega
theorem JN (v:Int)(n:Nat)(hn:n<=1000)(ad:Addr)(cap:Nat)(w:World)(hc:w.cell? ad=some (.int .i64 v)) :
  Calls Tryz.prog 242 #[.slice (some ad) 1 cap,.int .i64 n] w λe w'=>∃ v',e=.returned v'/\w'.ownsRow w.heap.size 3 1 v' n (List.replicate n (.int .i64 v))/\Below w.heap.size w w':=by
 have hsz:(Tryz.prog.info? 3).map (·.size)=some 1:=by kernel_rfl
 have cM:=λw=>SQ 1 n aD aD w
 have e1:∀ args w,(callFunc 335 args).run Tryz.prog w=.ok (.enter 335 args) w:=enters_of Tryz.func335 (by kernel_rfl) rfl
 have hmk:=λw=>run_make_row' (P:=Tryz.prog) 26 3 (.int .i64 0) 8 Tryz.underlying26 Fd rfl .i64 .i64 n aD aD w
 have hq1:(1 * n) / 18446744073709551616=0:=aD
 have hq2:(1 * n) % 18446744073709551616=n:=aD
 have hn0:¬ ((n:Int)<0):=aD
 have hn1:¬ ((9223372036854775807:Int)<n):=aD
 have cpy:∀ (k m:Nat) (W:World) (ty dl dc:Nat) (a:Addr) (sl sc:Nat),k+m<=n->m=Nat.min sl dl->W.heap[w.heap.size]?=some (.cells (nK v n k).toArray 3 (0,0))->(∀ (j:Nat) (u:Value),(List.replicate m (Value.int .i64 v))[j]?=some u->W.cell? (a.add j)=some u) ->
   (Builtin.copy_ #[26,26] ty #[.slice (some ⟨w.heap.size,k,none⟩) dl dc,.slice (some a) sl sc]).run Tryz.prog W=.ok (goInt m) (W.setRow w.heap.size (nK v n (k+m)).toArray):=λk m W ty dl dc a sl sc hkm hm hb hs=>by
  rw [<- Lq hkm]
  have:=Hk (P:=Tryz.prog) W 26 26 ty 3 1 w.heap.size k dl dc a sl sc m (nK v n k).toArray 3 (List.replicate m (.int .i64 v)) Tryz.underlying26 hsz hb hm bV hs (by simp [nK];omega) (by simp [Value.oneCell'])
  simpa using this
 have h0:(w.alloc (.cells (madeCells #[.int .i64 0] n) 3)).heap[w.heap.size]?=some (.cells (nK v n 0).toArray 3 (0,0)):=by
  rw [(MapKept.heap_alloc w _).1]
  congr 2
  apply Array.toList_inj.1
  rw [toList_madeCells_one];simp [nK]
 obtain ⟨m0,hm0⟩:∃ m,m=Nat.min 1 n:=⟨_,rfl⟩
 have hm1:m0<=1/\m0<=n/\(m0=1\/n=0):=by rw [hm0];simp only [Nat.min_def];split<;>omega
 have hbad:ad.block<w.heap.size:=World.block_lt_of_cell? w _ hc
 have hcp0:=λty=>cpy 0 m0 (w.alloc (.cells (madeCells #[.int .i64 0] n) 3)) ty n n ad 1 cap aD hm0 h0 (λj u hj=>by
  have hj0:j=0:=by have:=(aM.1 hj).1;simp at this;omega
  subst hj0
  rw [tZ] at hj
  split at hj
  .cases hj
   rw [show ad.add 0=ad by unfold Addr.add;simp]
   exact ((Below.refl _ w).alloc (bC _) _).cell (p:=ad) hbad |>.trans hc
  .cases hj)
 simp only [eP] at hcp0
 clear hm0
 have mixed:=Tz.mixed
 go_enter Tryz.func242,Tryz.ntmps242
 go_wp2_with (first|(go_at_fn 335;refine (cM _).mono ?_;rintro e w' ⟨rfl,hw⟩;rw [hw,hq1,hq2])|(at_builtin;refine wpList_copy_runI _ rfl _ _ 26 26 rfl _ _ rfl rfl (hcp0 _) ?_))
 go_loopw [8] (λi wr=>∃ k:Nat,k<=n/\(0<k\/n=0)/\i=.int .i64 k/\wr.heap[w.heap.size]?=some (.cells (nK v n k).toArray 3 (0,0))/\Below w.heap.size w wr)
  (λi _=>n - (RowKit.intOf i).toNat)
 case atStart =>
  refine ⟨m0,hm1.2.1,aD,by simp [goInt],setRow_heap _ _ _ _ _ _ h0,?_⟩
  exact below_setRow ((Below.refl _ w).alloc (bC _) _) (bC _) _
 case round =>
  obtain ⟨k,hk,hk0,rfl,hb,hbl⟩:=hrel
  by_cases hlt:k<n
  .have hkn:¬ (n=k):=aD
   have hcp1:=λty dc sc=>cpy k (Nat.min k (n - k)) wr.drew ty (n - k) dc ⟨w.heap.size,0,none⟩ k sc (by simp only [Nat.min_def];split<;>omega) rfl hb (λj u hj=>by
    have hjk:=(aM.1 hj).1
    rw [d7] at hjk
    rw [tZ,if_pos hjk] at hj
    cases hj
    have hjk2:j<k:=by simp only [Nat.min_def] at hjk;split at hjk<;>omega
    rw [jE]
    show wr.cell? _=_
    simp [World.cell?,hb,nK,aQ,hjk2])
   go_wp2
   go_region_law_o (refine step_copy_runI rfl _ _ 26 26 rfl _ _ (by simp [Act.eval,Act.put]) (by simp [Act.eval,Act.put]) (hcp1 _ _ _) ?_)
   have hmn:k+Nat.min k (n - k)<=n/\0<Nat.min k (n - k):=by simp only [Nat.min_def];split<;>omega
   simp only [Act.put,List.getElem_toArray,List.getElem_cons_succ,List.getElem_cons_zero,List.setIfInBounds_toArray,De,tY]
   go_roundw
   case rel =>
    refine ⟨_,_,_,_,_,_,_,_,_,_,_,_,_,_,⟨k+Nat.min k (n - k),hmn.1,aD,?_,setRow_heap wr.drew _ _ _ _ _ hb,below_setRow (w:=wr.drew) ⟨hbl.os,hbl.tape,hbl.output,hbl.size,hbl.block⟩ (bC _) _⟩,rfl⟩
    congr 1
    rw [IntKind.wrap_i64];omega
   case measure=>simp [RowKit.intOf,goInt,IntKind.wrap_i64];omega
  .obtain rfl:k=n:=aD
   go_wp2
   go_ret
   refine ⟨_,rfl,⟨by simp,.inr ⟨w.heap.size,k,(nK v k k).toArray,rfl,bC _,hb,bC _,by simp only [maxLen];omega,by simp [nK],?_⟩⟩,hbl⟩
   simp [nK]
theorem Fq (v:Int)(n:Nat)(hn:n<=1000):Own Tryz.prog 242 [.list [[dI v]],dI n] 3 1 ((List.replicate n v).map cI):=by
 refine ⟨⟨Tryz.f242,Tryz.func242,rfl,rfl⟩,λM w vals hM ha=>?_⟩
 obtain ⟨hlen,hr⟩:=ha
 match vals,hlen with
 | [s,y],_ =>
  have h0:=hr 0 s _ rfl rfl
  have h1:=hr 1 y _ rfl rfl
  cases h1
  rcases rY h0 with ⟨rfl,he⟩|⟨ad,cap,sz,xs,rfl,hrep,_,hcell,_,_,_⟩
  .cases he
  .have hx:∃ u,xs[0]?=some u:=by
    have hl:=hrep.len
    simp at hl
    exact ⟨xs[0]' aD,aA aD⟩
   obtain ⟨u,hu⟩:=hx
   have hd:=hrep.rep 0 u (D.int .i64 v) hu rfl
   cases hd
   have hca:=(hcell 0 _ hu).2
   rw [show ad.add 0=ad by unfold Addr.add;simp] at hca
   refine (JN v n hn ad cap w hca).mono λe w' ⟨v',he,hrow,hb⟩=>?_
   have hml:((List.replicate n v).map cI).length=n:=bV
   exact ⟨v',_,he,by rw [hml];exact hrow,λu hu=>by rw [kM hu];rfl,by
    have:=yZ (M:=λb=>M b\/v'.ownBlock=some b) (σ:=iS) (N:=rU) (w:=w') (List.replicate n v)
    simpa using this,pZ _,λc hc=>by obtain ⟨x,_,rfl⟩:=bA.1 hc;rfl,hb⟩
end Go.Abs
end
section
set_option maxRecDepth 100000
set_option maxHeartbeats 4000000
open Go Go.Proofs
namespace Go.Abs
theorem C4 {l:List Int}(hs:l.Pairwise (· < ·))(v:Int):gB l l.length v=if mem l v=true then (tL l v:Int) else -1:=by
 by_cases h:mem l v=true
 .rw [if_pos h,<- BO hs h]
  obtain ⟨p,hp,he⟩:=aO ((mem_iff l v).1 h)
  have hpw:=dK.1 hs
  rw [rZ (i:=p) (λj hj h2=>by
   have hjl:j<l.length:=aD
   rw [aA hjl] at h2
   have:=hpw j p hjl hp hj
   simp at h2;omega) (by rw [aA hp,he]),<- he,oY (pT hs) hp]
 .rw [if_neg h,pQ (λhm=>h ((mem_iff _ _).2 hm)) _ (bC _)]
def D5 (d:List Int)(n i:Nat):List Int:=k9 d i++List.replicate (n - i) 0
theorem EV {d:List Int}{n i:Nat}(h:i<=n):(D5 d n i).length=n:=by simp [D5,k8];omega
theorem K8 {d:List Int}{n i:Nat}(h:i<n):(D5 d n i).set i (gB d d.length i)=D5 d n (i+1):=by
 unfold D5
 rw [l5 _ _ (by rw [k8];omega),k8,w3,GT,show n - i=(n - (i+1))+1 by omega,sI,tY,List.append_assoc];rfl
theorem EY (n:Nat)(hn:n<=1000000)(d:List Int)(hd:d.Pairwise (· < ·))(hl:d.length<=1000000):Pure Tryz.prog 144 [dI n,dLI d] (dLI (mV d n)):=by
 refine Tz.pK ⟨λ_=>false,λ_=>[]⟩ Tryz.func144 rfl (λQ hQ=>?_)
 have Y:=trivial
 refine wp (h:=bF (λi e H=>(e 1=dLI d/\e 5=.own 0 n/\e 12=dI n/\e 13=dI i)/\(H.get 0=some ⟨3,1,(D5 d n i).map cI,false⟩)/\(0<H.next)/\(i<=n)) (λi=>n - i) 0 ⟨wg,(by simp [go_sem,D5,k9,cI]),wn,wi⟩ λI0 hI0 i e H hi0=>?_)
 obtain ⟨E0,g0_0,n0_0,hi⟩:=hi0
 have Y:=wa Y (wa E0 (wa g0_0 (cD n0_0)))
 refine dP (λh3=>?_) λh3=>?_
 .have hB:=C4 hd (i:Int)
  have hil:i<(D5 d n i).length:=by rw [EV aD];exact h3
  have hll:(D5 d n i).length=n:=EV aD
  have Y:=wa Y (wa h3 (wa (aA hil) hll))
  refine wv (h:=aB (tD d i hd hl) wl ?_)
  refine sG (λh6=>?_) λh6=>?_
  .rw [if_neg (bW h6)] at hB
   have Y:=wa Y hB
   exact wp (h:=wx hI0 (i+1) ⟨wg,(by simp [go_sem,Y,<- K8 h3,bX,cI]),wn,wj⟩)
  .rw [if_pos (bW h6)] at hB
   have Y:=wa Y hB
   exact wp (h:=wx hI0 (i+1) ⟨wg,(by simp [go_sem,Y,<- K8 h3,bX,cI]),wn,wj⟩)
 .have hll:(D5 d n i).length=n:=EV aD
  have hT:mV d n=D5 d n i:=by unfold D5 mV;rw [(aD:i=n)];simp
  have Y:=wa Y hll
  exact wv (h:=hQ _ _ (by simp [go_sem,Y,hT,dLI]))
/-! ### comatch -/
def R7 (keep into at_:List Int)(n j:Nat):Int:=if 0<=gB into n j then at_[(keep[(gB into n j).toNat]?.getD 0).toNat]?.getD 0 else -1
def Oz (keep into at_:List Int)(count n:Nat):List Int:=(List.range count).map (R7 keep into at_ n)
def GN (keep into at_:List Int)(count remain i:Nat):List Int:=(List.range count).map λj=>if j<i then GH keep into at_ remain j else R7 keep into at_ into.length j
theorem Tq (keep into at_:List Int)(count n:Nat):(Oz keep into at_ count n).length=count:=by simp [Oz]
theorem Kr (keep into at_:List Int)(count remain i:Nat):(GN keep into at_ count remain i).length=count:=by simp [GN]
theorem R9 (keep into at_:List Int)(count:Nat):Oz keep into at_ count 0=List.replicate count (-1):=by
 apply fV (by simp [Oz]);intro i h1 h2;simp [Oz,R7,gB]
theorem Sa (keep into at_:List Int)(count n:Nat)(h:n<into.length)(h0:0<=into[n]):Oz keep into at_ count (n+1)=(Oz keep into at_ count n).set into[n].toNat (at_[(keep[n]?.getD 0).toNat]?.getD 0):=by
 apply fV (by simp [Oz]);intro i h1 h2
 rw [zI]
 simp only [Oz,oF,pA,R7,pP,aA h,Option.getD_some]
 by_cases he:into[n]=(i:Int)
 .rw [if_pos he,if_pos aD,if_pos aD,Int.toNat_natCast]
 .rw [if_neg he,if_neg (aD:¬ into[n].toNat=i)]
theorem R8 (keep into at_:List Int)(count remain:Nat):GN keep into at_ count remain 0=Oz keep into at_ count into.length:=by simp [GN,Oz]
theorem Tn (keep into at_:List Int)(count remain:Nat){i:Nat}(h:i<count):(GN keep into at_ count remain i).set i (GH keep into at_ remain i)=GN keep into at_ count remain (i+1):=by
 apply fV (by simp [GN]);intro j h1 h2
 rw [zI]
 simp only [GN,oF,pA]
 by_cases he:i=j
 .subst he;rw [if_pos rfl,if_pos aD]
 .rw [if_neg he]
  by_cases h3:j<i
  .rw [if_pos h3,if_pos aD]
  .rw [if_neg h3,if_neg aD]
theorem Tp (keep into at_:List Int)(count remain:Nat):GN keep into at_ count remain count=Co keep into at_ count remain:=by
 unfold GN Co
 exact b6 λj hj=>by rw [if_pos (bP.1 hj)]
theorem To (keep into at_:List Int)(count remain:Nat){i:Nat}(h:i<count):(GN keep into at_ count remain i)[i]?=some (R7 keep into at_ into.length i):=by
 simp [GN,h]
theorem A6 (count:Nat)(hc:count<=1000)(keep into im tr:List Int)(n:Nat)(hn:n<=1000)(hl:into.length<=keep.length)(hin:∀ x∈into,0<=x/\x<count)(hk0:∀ x∈keep,0<=x/\x<im.length)(hm0:∀ x∈keep,0<=iA im x/\iA im x<tr.length)
  (hp:∀ x∈keep,0<=(oE im tr)[x.toNat]?.getD 0):Pure Tryz.prog 145 [dI count,dLI keep,dLI into,dLI im,dLI tr,dI n] (dLI (Co keep into (oE im tr) count n)):=by
 refine Tz.pK ⟨λt=>t==19,λ_=>[]⟩ Tryz.func145 rfl (λQ hQ=>?_)
 have Y:=trivial
 refine wv (h:=lN (Fq (-1) count hc) wl ?_)
 refine wv (h:=?_)
 repeat first|intro _|refine ⟨eQ,?_⟩
 refine bF (λi e H=>(e 1=dLI keep/\e 2=dLI into/\e 3=dLI im/\e 4=dLI tr/\e 13=.own 0 count/\e 20=dLI into/\e 21=dI into.length/\e 22=dI i/\e 5=dI n)/\(H.get 0=some ⟨3,1,(Oz keep into (oE im tr) count i).map cI,false⟩)/\(0<H.next)/\(i<=into.length)) (λi=>into.length - i) 0 ⟨wg,(by simp [go_sem,R9,cI]),wn,wi⟩ λI0 hI0 i e H hi0=>?_
 obtain ⟨E0,g0_0,n0_0,hi⟩:=hi0
 have Y:=wa Y (wa E0 (wa g0_0 (cD n0_0)))
 refine dP (λh3=>?_) λh3=>?_
 .have hki:i<keep.length:=aD
  have hkb:=hk0 _ (aC hki)
  have hmb:=hm0 _ (aC hki)
  have hkm:keep[i].toNat<im.length:=aD
  have hiA:iA im keep[i]=im[keep[i].toNat]:=by unfold iA;rw [aA hkm];rfl
  rw [hiA] at hmb
  have hmt:(im[keep[i].toNat]).toNat<tr.length:=aD
  have hib:=hin _ (aC h3)
  have hcl:(Oz keep into (oE im tr) count i).length=count:=Tq _ _ _ _ _
  have hcb:into[i].toNat<(Oz keep into (oE im tr) count i).length:=aD
  have hv:(oE im tr)[(keep[i]?.getD 0).toNat]?.getD 0=tr[(im[keep[i].toNat]).toNat]:=by
   rw [aA hki,Option.getD_some];unfold oE
   rw [aN,aA hkm,dQ,Option.getD_some,aA hmt,Option.getD_some]
  have hsu:=Sa keep into (oE im tr) count i h3 hib.1
  rw [hv] at hsu
  have Y:=wa Y (wa h3 (wa (aA h3) (wa (aA hki) (wa (aA hkm) (wa (aA hmt) (wa (aA hcb) hcl))))))
  refine wv (h:=?_)
  repeat first|intro _|refine ⟨eQ,?_⟩
  exact wx hI0 (i+1) ⟨wg,(by simp [go_sem,Y,hsu,bX,cI]),wn,wj⟩
 .have hA:Oz keep into (oE im tr) count i=GN keep into (oE im tr) count n 0:=by rw [R8,(aD:i=into.length)]
  have hcl:(GN keep into (oE im tr) count n 0).length=count:=Kr _ _ _ _ _ _
  have hn0:Ay into 0=0:=IA into
  have Y:=wa Y (wa hA (wa hcl hn0))
  refine wv (h:=?_)
  repeat first|intro _|refine ⟨eQ,?_⟩
  refine bF (λk e H=>(e 1=dLI keep/\e 2=dLI into/\e 3=dLI im/\e 4=dLI tr/\e 13=.own 0 count/\e 42=dI count/\e 43=dI k/\e 5=dI ((n+Ay into k:Nat):Int))/\(H.get 0=some ⟨3,1,(GN keep into (oE im tr) count n k).map cI,false⟩)/\(0<H.next)/\(k<=count)) (λk=>count - k) 0 ⟨wg,(by simp [go_sem,Y]),wn,wi⟩ λI2 hI2 k e H hi2=>?_
  obtain ⟨E2,g0_2,n0_2,hk⟩:=hi2
  have Y:=wa Y (wa E2 (wa g0_2 (cD n0_2)))
  refine dP (λh8=>?_) λh8=>?_
  .have hnl:=Pj into k
   have hcl:(GN keep into (oE im tr) count n k).length=count:=Kr _ _ _ _ _ _
   have hck:k<(GN keep into (oE im tr) count n k).length:=aD
   have hg:=To keep into (oE im tr) count n h8
   have hge:(GN keep into (oE im tr) count n k)[k]=R7 keep into (oE im tr) into.length k:=by rw [aA hck] at hg;exact Option.some.inj hg
   have hsb:=Tn keep into (oE im tr) count n h8
   have hns:=IB into k
   have hbl:=Cb into (k:Int) into.length
   have Y:=wa Y (wa hcl (wa h8 hg))
   refine wv (h:=?_)
   repeat first|intro _|refine ⟨eQ,?_⟩
   refine wq (λh10=>?_) λh10=>?_
   .rw [hge] at h10
    have hneg:¬ 0<=gB into into.length k:=by
     intro h0
     have hlt:(gB into into.length k).toNat<keep.length:=aD
     have:=hp _ (aC hlt)
     simp only [R7,if_pos h0,aA hlt,Option.getD_some] at h10
     omega
    have hco:GH keep into (oE im tr) n k=((n+Ay into k:Nat):Int):=by unfold GH;rw [if_neg hneg]
    rw [hco] at hsb
    rw [if_pos aD] at hns
    have hset:(GN keep into (oE im tr) count n (k+1)).map cI=((GN keep into (oE im tr) count n k).map cI).set k [.int .i64 ((n+Ay into k:Nat):Int)]:=by rw [<- hsb,bX];rfl
    have Y:=wa Y hns
    refine wv (h:=?_)
    repeat first|intro _|refine ⟨eQ,?_⟩
    exact wx hI2 (k+1) ⟨wg,(by simp [go_sem,Y,hset]),wn,wj⟩
   .rw [hge] at h10
    have hco:GH keep into (oE im tr) n k=R7 keep into (oE im tr) into.length k:=by
     unfold GH R7
     split
     .rfl
     .rename_i h0;exfalso;unfold R7 at h10;rw [if_neg h0] at h10;omega
    have hpos:0<=gB into into.length k:=by
     refine bB λh0=>?_
     unfold R7 at h10;rw [if_neg h0] at h10;omega
    rw [hco,<- hge,List.set_getElem_self] at hsb
    rw [if_neg aD] at hns
    have hset:(GN keep into (oE im tr) count n (k+1))=GN keep into (oE im tr) count n k:=hsb.symm
    have Y:=wa Y hns
    refine wv (h:=?_)
    repeat first|intro _|refine ⟨eQ,?_⟩
    exact wx hI2 (k+1) ⟨wg,(by simp [go_sem,Y,hset]),wn,wj⟩
  .have hE:=Tp keep into (oE im tr) count n
   have hke:k=count:=aD
   have hcl:(GN keep into (oE im tr) count n count).length=count:=Kr _ _ _ _ _ _
   rw [hE] at hcl
   have Y:=wa Y (wa hcl (wa hke hE))
   exact wv (h:=hQ _ _ (by simp [go_sem,Y,hE,dLI]))
/-! ### copies -/
@[go_sem] theorem Mat.cld (m:Mat):m.d.cl=true:=by simp [Mat.d,D.cl,Mat.cl]
theorem E7 (m:Mat)(h1:m.m.nodes.length<=1000000)(h2:m.m.edges.length<=1000000)(h3:m.vars.length<=1000000):Pure Tryz.prog 142 [m.d] m.d:=by
 refine Tz.pK ⟨λt=>t==2,λ_=>[]⟩ Tryz.func142 rfl (λQ hQ=>?_)
 have Y:=wa @Mat.d.eq_1 @Mat.c.eq_1
 refine wv (h:=?_)
 refine mE (jG m.m.nodes h1) (by simp [go_sem,dLI]) (by simp [go_sem]) (IQ _) rfl (by simp [go_sem]) ?_
 refine wv (h:=?_)
 refine mE (jG m.m.edges h2) (by simp [go_sem,dLI]) (by simp [go_sem]) (IQ _) rfl (by simp [go_sem]) ?_
 refine wv (h:=?_)
 refine mE (jG m.vars h3) (by simp [go_sem,dLI]) (by simp [go_sem]) (IQ _) rfl (by simp [go_sem]) ?_
 exact wv (h:=hQ _ _ (by simp [go_sem,Y,dLI]))
def Ed (t:Types)(r:Rule)(h:Host)(m:Mat):Int :=
 if fN t r.left.graph h.graph m.m r.inj≠0 then 1
 else if (d9 t r.left h m.m).2≠0 then (d9 t r.left h m.m).2
 else if (d9 t r.left h m.m).1≠m.vars then 11 else 0
theorem LZ (t:Types)(r:Rule)(h:Host)(m:Mat):qL t r h m=if Ed t r h m≠0 then Ed t r h m else qV (lQ r.left.graph h.graph m.m) h.graph r.keep m.m:=by
 unfold qL Ed
 by_cases h1:fN t r.left.graph h.graph m.m r.inj≠0
 .rw [if_pos h1,if_pos h1];simp
 .rw [if_neg h1,if_neg h1]
  by_cases h2:(d9 t r.left h m.m).2≠0
  .rw [if_pos h2,if_pos h2,if_pos h2]
  .rw [if_neg h2,if_neg h2]
   by_cases h3:(d9 t r.left h m.m).1≠m.vars
   .rw [if_pos h3,if_pos h3];simp
   .rw [if_neg h3,if_neg h3];simp
theorem Jt (t:Types)(ht:t.ok)(r:Rule)(h:Host)(m:Mat):Pure Tryz.prog 138 [t.d,r.d,h.d,m.d] (dI (Ed t r h m)):=by
 refine Tz.pK ⟨λ_=>false,λ_=>[]⟩ Tryz.func138 rfl (λQ hQ=>?_)
 have Y:=wa @Rule.d.eq_1 (wa @Rule.c.eq_1 (wa @Pattern.c.eq_1 (wa @Host.d.eq_1 (wa @Host.c.eq_1 (wa @Mat.d.eq_1 (wa @Mat.c.eq_1 (wa @Graph.c.eq_1 @Part.c.eq_1)))))))
 refine wv (h:=aB (vJ t ht r.left.graph h.graph m.m r.inj) wl ?_)
 refine dP (λh1=>?_) λh1=>?_
 .have hM:Ed t r h m=1:=by unfold Ed;rw [if_pos (bW h1)]
  exact wv (h:=hQ _ _ (by simp [go_sem,hM]))
 .have hM:Ed t r h m=if (d9 t r.left h m.m).2≠0 then (d9 t r.left h m.m).2 else if (d9 t r.left h m.m).1≠m.vars then 11 else 0:=by unfold Ed;rw [if_neg (bW h1)]
  refine wv (h:=aB (wO t ht r.left h m.m) wl ?_)
  refine dP (λh4=>?_) λh4=>?_
  .rw [if_pos (bW h4)] at hM
   exact wv (h:=hQ _ _ (by simp [go_sem,hM]))
  .rw [if_neg (bW h4)] at hM
   refine wo (h:=aB (k7 (d9 t r.left h m.m).1 m.vars) wl ?_)
   refine fA (λh6=>?_) λh6=>?_
   .rw [if_pos (bW h6)] at hM
    exact wv (h:=hQ _ _ (by simp [go_sem,hM]))
   .rw [if_neg (bW h6)] at hM
    exact wv (h:=hQ _ _ (by simp [go_sem,hM]))
theorem Nt (t:Types)(ht:t.ok)(r:Rule)(hr:r.ok)(h:Host):Pure Tryz.prog 57 [t.d,r.d,h.d] (dI (iI t r h)):=by
 refine Tz.pK ⟨λ_=>false,λ_=>[]⟩ Tryz.func57 rfl (λQ hQ=>?_)
 have Y:=trivial
 refine wv (h:=aB (l7 t ht) wl ?_)
 refine dP (λh2=>?_) λh2=>?_
 .have hE:ruleF t r=(cZ t).2:=by unfold ruleF;rw [if_pos (bW h2)]
  have hG:iI t r h=(cZ t).2:=by unfold iI;rw [if_pos (by rw [hE];simpa using h2),hE]
  exact wv (h:=hQ _ _ (by simp [go_sem,hG]))
 .refine wv (h:=aB (NH t ht r hr) wl ?_)
  refine dP (λh5=>?_) λh5=>?_
  .have hG:iI t r h=ruleF t r:=by unfold iI;rw [if_pos (bW h5)]
   exact wv (h:=hQ _ _ (by simp [go_sem,hG]))
  .have hG:iI t r h=iF t h:=by unfold iI;rw [if_neg (bW h5)]
   refine wv (h:=aB (AE t ht h) wl ?_)
   exact wv (h:=hQ _ _ (by simp [go_sem,hG,iF]))
mutual
def Cond.bnd (B:Nat):Cond→Prop
 | .mk k l m p=>(m.nodes.length≤B∧m.edges.length≤B)∧Cond.bnds B l
def Cond.bnds (B:Nat):List Cond→Prop
 | []=>True
 | c :: l=>c.bnd B∧Cond.bnds B l
end
theorem HX (B:Nat)(l:List Cond):Cond.bnds B l↔∀ c∈l,c.bnd B:=by
 induction l with
 | nil=>simp [Cond.bnds]
 | cons a l ih=>simp [Cond.bnds,ih]
theorem Cl (B:Nat)(c:Cond):c.bnd B↔(c.map.nodes.length<=B/\c.map.edges.length<=B)/\∀ k∈c.kids,k.bnd B:=by cases c;simp [Cond.bnd,HX,Cond.kids,Cond.map]
theorem Cond.bnd_le {B:Nat}(hB:B<=1000000000000000):∀ c:Cond,c.bnd B->c.le:=by
 refine i9 λc ih h=>?_
 obtain ⟨h1,h2⟩:=(Cl B c).1 h
 exact (D0 c).2 ⟨⟨aD,aD⟩,λk hk=>ih k hk (h2 k hk)⟩
def Rule.bnd (B:Nat)(x:Rule):Prop:=(x.keep.nodes.length<=B/\x.keep.edges.length<=B)/\(x.into.nodes.length<=B/\x.into.edges.length<=B)/\x.cond.bnd B
theorem Rule.bnd_le {B:Nat}(hB:B<=1000000000000000){r:Rule}(h:r.bnd B):r.le:=by
 obtain ⟨⟨h1,h2⟩,⟨h3,h4⟩,h5⟩:=h
 exact ⟨⟨aD,aD⟩,⟨aD,aD⟩,Cond.bnd_le hB _ h5⟩
section
variable {H:Type} {enc:TypeId × Value→H} {w:World} {base:Nat} {spare:Nat→Bool} {held:Bool} {bulk:DataW H→Nat} {B:Nat}
theorem WL (hB:Bulk bulk):∀ n,Opens enc Tryz.prog w base spare held bulk B n 9 cS (λ_=>True):=λn=>(J2 hB Tryz.underlying9).map id (λ_=>rfl) (λ_ _=>trivial)
theorem Is:∀ n,Opens enc Tryz.prog w base spare held bulk B n 3 cI (λ_=>True):=λn=>(Ir Tryz.underlying3).map id (λ_=>rfl) (λ_ _=>trivial)
theorem WW (hB:Bulk bulk):∀ n,Opens enc Tryz.prog w base spare held bulk B n 116 (λl:List ByteArray=>[D.list (l.map cS)]) (λl=>l.length<=B/\∀ a∈l,(λ_=>True) a)
 | 0=>Opens.zero
 | n+1=>iO hB Tryz.underlying116 (WL hB n)
theorem WV (hB:Bulk bulk):∀ n,Opens enc Tryz.prog w base spare held bulk B n 118 Attr.c (λ_=>True)
 | 0=>Opens.zero
 | n+1=>(eH hB Tryz.underlying118 (by kernel_rfl) (aY (WL hB n) (aY (Is n) (aY (Is n) (aY (WW hB n) fQ))))).map (λp=>⟨p.1,p.2.1,p.2.2.1,p.2.2.2.1⟩) (λp=>rfl) (λp h=>trivial)
theorem WX (hB:Bulk bulk):∀ n,Opens enc Tryz.prog w base spare held bulk B n 113 (λl:List Attr=>[D.list (l.map Attr.c)]) (λl=>l.length<=B/\∀ a∈l,(λ_=>True) a)
 | 0=>Opens.zero
 | n+1=>iO hB Tryz.underlying113 (WV hB n)
theorem WS (hB:Bulk bulk):∀ n,Opens enc Tryz.prog w base spare held bulk B n 172 NodeTy.c (λx=>x.attrs.length<=B)
 | 0=>Opens.zero
 | n+1=>(eH hB Tryz.underlying172 (by kernel_rfl) (aY (WL hB n) (aY (Is n) (aY (op4 n) (aY (WX hB n) fQ))))).map (λp=>⟨p.1,p.2.1,p.2.2.1,p.2.2.2.1⟩) (λp=>rfl) (λp h=>h.2.2.2.1.1)
theorem ZZ (hB:Bulk bulk):∀ n,Opens enc Tryz.prog w base spare held bulk B n 22 (λl:List NodeTy=>[D.list (l.map NodeTy.c)]) (λl=>l.length<=B/\∀ a∈l,(λx=>x.attrs.length<=B) a)
 | 0=>Opens.zero
 | n+1=>iO hB Tryz.underlying22 (WS hB n)
theorem WR (hB:Bulk bulk):∀ n,Opens enc Tryz.prog w base spare held bulk B n 174 EdgeTy.c (λ_=>True)
 | 0=>Opens.zero
 | n+1=>(eH hB Tryz.underlying174 (by kernel_rfl) (aY (WL hB n) (aY (Is n) (aY (Is n) (aY (Is n) (aY (Is n) (aY (Is n) (aY (Is n) fQ)))))))).map (λp=>⟨p.1,p.2.1,p.2.2.1,p.2.2.2.1,p.2.2.2.2.1,p.2.2.2.2.2.1,p.2.2.2.2.2.2.1⟩) (λp=>rfl) (λp h=>trivial)
theorem ZY (hB:Bulk bulk):∀ n,Opens enc Tryz.prog w base spare held bulk B n 23 (λl:List EdgeTy=>[D.list (l.map EdgeTy.c)]) (λl=>l.length<=B/\∀ a∈l,(λ_=>True) a)
 | 0=>Opens.zero
 | n+1=>iO hB Tryz.underlying23 (WR hB n)
theorem ZX (hB:Bulk bulk):∀ n,Opens enc Tryz.prog w base spare held bulk B n 25 Types.c (λx=>x.nodes.length<=B/\x.edges.length<=B/\∀ n∈x.nodes,n.attrs.length<=B)
 | 0=>Opens.zero
 | n+1=>(eH hB Tryz.underlying25 (by kernel_rfl) (aY (ZZ hB n) (aY (ZY hB n) fQ))).map (λp=>⟨p.1,p.2.1⟩) (λp=>rfl) (λp h=>⟨h.1.1,h.2.1.1,h.1.2⟩)
theorem Qr (hB:Bulk bulk):∀ n,Opens enc Tryz.prog w base spare held bulk B n 26 (λl:List Int=>[D.list (l.map cI)]) (λl=>l.length<=B/\∀ a∈l,(λ_=>True) a)
 | 0=>Opens.zero
 | n+1=>iO hB Tryz.underlying26 (Is n)
theorem WU (hB:Bulk bulk):∀ n,Opens enc Tryz.prog w base spare held bulk B n 122 Edge.c (λ_=>True)
 | 0=>Opens.zero
 | n+1=>(eH hB Tryz.underlying122 (by kernel_rfl) (aY (Is n) (aY (Is n) (aY (Is n) fQ)))).map (λp=>⟨p.1,p.2.1,p.2.2.1⟩) (λp=>rfl) (λp h=>trivial)
theorem ZW (hB:Bulk bulk):∀ n,Opens enc Tryz.prog w base spare held bulk B n 27 (λl:List Edge=>[D.list (l.map Edge.c)]) (λl=>l.length<=B/\∀ a∈l,(λ_=>True) a)
 | 0=>Opens.zero
 | n+1=>iO hB Tryz.underlying27 (WU hB n)
theorem WO (hB:Bulk bulk):∀ n,Opens enc Tryz.prog w base spare held bulk B n 29 Graph.c (λx=>x.nodes.length<=B/\x.edges.length<=B)
 | 0=>Opens.zero
 | n+1=>(eH hB Tryz.underlying29 (by kernel_rfl) (aY (Qr hB n) (aY (ZW hB n) fQ))).map (λp=>⟨p.1,p.2.1⟩) (λp=>rfl) (λp h=>⟨h.1.1,h.2.1.1⟩)
theorem Rw (hB:Bulk bulk):∀ n,Opens enc Tryz.prog w base spare held bulk B n 157 Term.c (λ_=>True)
 | 0=>Opens.zero
 | n+1=>(eH hB Tryz.underlying157 (by kernel_rfl) (aY (Is n) (aY (Is n) fQ))).map (λp=>⟨p.1,p.2.1⟩) (λp=>rfl) (λp h=>trivial)
theorem WT (hB:Bulk bulk):∀ n,Opens enc Tryz.prog w base spare held bulk B n 159 Slot.c (λ_=>True)
 | 0=>Opens.zero
 | n+1=>(eH hB Tryz.underlying159 (by kernel_rfl) (aY (Is n) (aY (Is n) (aY (Rw hB n) fQ)))).map (λp=>⟨p.1,p.2.1,p.2.2.1⟩) (λp=>by simp [Slot.c,Term.c,cI,dI]) (λp h=>trivial)
theorem ZV (hB:Bulk bulk):∀ n,Opens enc Tryz.prog w base spare held bulk B n 30 (λl:List Slot=>[D.list (l.map Slot.c)]) (λl=>l.length<=B/\∀ a∈l,(λ_=>True) a)
 | 0=>Opens.zero
 | n+1=>iO hB Tryz.underlying30 (WT hB n)
theorem WQ (hB:Bulk bulk):∀ n,Opens enc Tryz.prog w base spare held bulk B n 254 Test.c (λ_=>True)
 | 0=>Opens.zero
 | n+1=>(eH hB Tryz.underlying254 (by kernel_rfl) (aY (Is n) (aY (Rw hB n) (aY (Rw hB n) fQ)))).map (λp=>⟨p.1,p.2.1,p.2.2.1⟩) (λp=>by simp [Test.c,Term.c,cI,dI]) (λp h=>trivial)
theorem ZU (hB:Bulk bulk):∀ n,Opens enc Tryz.prog w base spare held bulk B n 31 (λl:List Test=>[D.list (l.map Test.c)]) (λl=>l.length<=B/\∀ a∈l,(λ_=>True) a)
 | 0=>Opens.zero
 | n+1=>iO hB Tryz.underlying31 (WQ hB n)
theorem Ur (hB:Bulk bulk):∀ n,Opens enc Tryz.prog w base spare held bulk B n 33 Pattern.c (λ_=>True)
 | 0=>Opens.zero
 | n+1=>(eH hB Tryz.underlying33 (by kernel_rfl) (aY (WO hB n) (aY (ZV hB n) (aY (Is n) (aY (ZU hB n) fQ))))).map (λp=>⟨p.1,p.2.1,p.2.2.1,p.2.2.2.1⟩) (λp=>by simp [Pattern.c,Graph.c,cI,dI]) (λp h=>trivial)
theorem ZT (hB:Bulk bulk):∀ n,Opens enc Tryz.prog w base spare held bulk B n 35 Part.c (λx=>x.nodes.length<=B/\x.edges.length<=B)
 | 0=>Opens.zero
 | n+1=>(eH hB Tryz.underlying35 (by kernel_rfl) (aY (Qr hB n) (aY (Qr hB n) fQ))).map (λp=>⟨p.1,p.2.1⟩) (λp=>rfl) (λp h=>⟨h.1.1,h.2.1.1⟩)
theorem Rv (hB:Bulk bulk):∀ n,Opens enc Tryz.prog w base spare held bulk B n 36 Part.c (λx=>x.nodes.length<=B/\x.edges.length<=B)
 | 0=>Opens.zero
 | n+1=>(eH hB Tryz.underlying36 (by kernel_rfl) (aY (Qr hB n) (aY (Qr hB n) fQ))).map (λp=>⟨p.1,p.2.1⟩) (λp=>rfl) (λp h=>⟨h.1.1,h.2.1.1⟩)
theorem WN (hB:Bulk bulk):∀ n,Opens enc Tryz.prog w base spare held bulk B n 39 Cond.c (λc=>c.bnd B)
 | 0=>Opens.zero
 | n+1 =>
  have hk:Opens enc Tryz.prog w base spare held bulk B n 37 (λl:List Cond=>[D.list (l.map Cond.c)]) (λl=>l.length<=B/\∀ a∈l,Cond.bnd B a):=match n with
   | 0=>Opens.zero
   | m+1=>iO hB Tryz.underlying37 ((WN hB (m+1)).mono (Nat.le_succ m))
  (eH hB Tryz.underlying39 (by kernel_rfl) (aY (Is n) (aY hk (aY (Rv hB n) (aY (Ur hB n) fQ))))).map (λp=>Cond.mk p.1 p.2.1 p.2.2.1 p.2.2.2.1) (λp=>by simp [Cond.c,Cond.cs_eq,Part.c,Pattern.c,cI,dI]) (λp h=>(Cl B _).2 ⟨h.2.2.1,h.2.1.2⟩)
theorem ZR (hB:Bulk bulk):∀ n,Opens enc Tryz.prog w base spare held bulk B n 41 Rule.c (λx=>(x.keep.nodes.length<=B/\x.keep.edges.length<=B)/\(x.into.nodes.length<=B/\x.into.edges.length<=B)/\x.cond.bnd B)
 | 0=>Opens.zero
 | n+1=>(eH hB Tryz.underlying41 (by kernel_rfl) (aY (WL hB n) (aY (Ur hB n) (aY (Ur hB n) (aY (ZT hB n) (aY (Rv hB n) (aY (op4 n) (aY (WN hB n) fQ)))))))).map (λp=>⟨p.1,p.2.1,p.2.2.1,p.2.2.2.1,p.2.2.2.2.1,p.2.2.2.2.2.1,p.2.2.2.2.2.2.1⟩) (λp=>by simp [Rule.c,Pattern.c,Part.c,Cond.c_eq,cS,cI,dI]) (λp h=>⟨h.2.2.2.1,h.2.2.2.2.1,h.2.2.2.2.2.2.1⟩)
end
theorem F1 {t:Types}(hv:t.valid):∀ c:Nat,c<t.nodes.length->∀ (b:Nat) (a:Int),mem (t.line c) (b:Int)=true->mem (t.line b) a=true->mem (t.line c) a=true:=by
 intro c
 induction c using Nat.strongRecOn with
 | _ c ih =>
 intro hc b a hb ha
 have hpar:=hv.parent c _ (aA hc)
 have hr:=yB t c hc (hv.parentsOK c)
 rw [hr,uM,c4] at hb
 rcases hb with hb|hb
 .by_cases h0:0<=t.nodes[c].parent
  .rw [if_pos h0] at hb
   rw [hr,uM,c4,if_pos h0]
   exact .inl (ih _ aD aD b a hb ha)
  .rw [if_neg h0,vT] at hb;cases hb
 .have:b=c:=by simp at hb;omega
  subst this;exact ha
theorem QN {t:Types}(hv:(cZ t).2=0){ty a b a' b':Int}(h:n3 t ty a b=true)(ha:v7 t a a'=true)(hb:v7 t b b'=true)(ra:0<=a'/\a'<t.nodes.length)(rb:0<=b'/\b'<t.nodes.length):n3 t ty a' b'=true:=by
 have hval:=nC hv
 unfold n3 at h ⊢
 simp only [aR,decide_eq_true_eq] at h ⊢
 obtain ⟨⟨h1,h2⟩,h3,h4⟩:=h
 obtain ⟨_,a0,b0⟩:=qF h1
 unfold v7 at ha hb
 rw [show a=((a.toNat:Nat):Int) by omega] at ha
 rw [show b=((b.toNat:Nat):Int) by omega] at hb
 refine ⟨⟨?_,h2⟩,F1 hval _ aD a.toNat _ ha h3,F1 hval _ aD b.toNat _ hb h4⟩
 simp [given2F,hv,insideF,ra,rb]
section
variable {t:Types} {r:Rule} {h:Host} {m:Mat}
theorem Tf {l l':List Int}{es:List Edge}{g:Graph}{n:Int}(h0:0<=n)(hn:n<l.length)(hg:g.nodes=l++l'):gN g n=l[n.toNat]?.getD 0:=by
 unfold gN;rw [hg,aQ aD]
theorem StepIn.edge (S:StepIn t r h m):∀ x∈(b7 t r h m).graph.edges,((0<=x.type/\x.type<t.edges.length)/\(0<=x.from_/\x.from_<(b7 t r h m).graph.nodes.length)/\(0<=x.to_/\x.to_<(b7 t r h m).graph.nodes.length)) /\
  n3 t x.type (gN (b7 t r h m).graph x.from_) (gN (b7 t r h m).graph x.to_)=true:=λx hx=>by
 have hbN:=S.bareN
 have hbin:=S.bin
 rw [S.bareE,aV,bA,bA] at hx
 rcases hx with ⟨k,hk,rfl⟩|⟨k,hk,rfl⟩
 .have hr:=S.ein k hk
  have hy:=UZ hr.1 hr.2
  obtain ⟨e1,e2⟩:=S.ho.ed _ hy
  have hgi:=(eL S.ho.gg).2 _ hy
  obtain ⟨s1,s2⟩:=xC S.sub hk
  obtain ⟨p1,p2,_⟩:=Rt S.nasc s1
  obtain ⟨q1,q2,_⟩:=Rt S.nasc s2
  have key:∀ v:Int,v∈(bU r h m).nodes->tL (bU r h m).nodes v<(bU r h m).nodes.length->iA (bU r h m).nodes (tL (bU r h m).nodes v)=v->gN (b7 t r h m).graph (tL (bU r h m).nodes v)=gN h.graph v:=λv hv hp hi=>by
   rw [Tf (es:=[]) aD (bW hp) hbN,show ((tL (bU r h m).nodes v:Nat):Int).toNat=tL (bU r h m).nodes v by omega,aN]
   unfold iA at hi
   rw [show ((tL (bU r h m).nodes v:Nat):Int).toNat=tL (bU r h m).nodes v by omega,aA hp,Option.getD_some] at hi
   rw [aA hp,dQ,Option.getD_some,hi]
  have hl:(b7 t r h m).graph.nodes.length=(bU r h m).nodes.length+r.freshN.length:=by rw [hbN];simp
  rw [RV]
  refine ⟨⟨⟨hgi.1.1,e1⟩,⟨by simp only;omega,by simp only;omega⟩,by simp only;omega,by simp only;omega⟩,?_⟩
  simp only
  rw [key _ s1 p1 p2,key _ s2 q1 q2];exact e2
 .have hr:=lF hk
  have hk2:k.toNat<r.right.graph.edges.length:=aD
  have hy:=(nT S.hR.gr S.hR.tr).2 _ (aC hk2)
  rw [aA hk2,Option.getD_some]
  obtain ⟨y,hye⟩:=cF (r.right.graph.edges[k.toNat])
  rw [<- hye] at hy ⊢
  have hf:y.from_.toNat<r.right.graph.nodes.length:=aD
  have ht:y.to_.toNat<r.right.graph.nodes.length:=aD
  obtain ⟨n1,c1,l1,b1⟩:=S.com hf
  obtain ⟨n2,c2,l2,b2⟩:=S.com ht
  unfold freshE
  rw [c1,c2]
  simp only [Option.getD_some]
  have hfit:n3 t y.type r.right.graph.nodes[y.from_.toNat] r.right.graph.nodes[y.to_.toNat]=true:=by
   have:=S.hR.mkb
   unfold x9 at this
   rw [aR,c9,c9,wU,wU] at this
   have h1:=this.2 k hk
   unfold unfitB at h1
   rw [aA hk2,Option.getD_some,<- hye] at h1
   unfold gN at h1
   rw [aA hf,aA ht] at h1
   simpa using h1
  have e1:gN (b7 t r h m).graph (n1:Int)=(b7 t r h m).graph.nodes[n1]:=by simp [gN,aA l1]
  have e2:gN (b7 t r h m).graph (n2:Int)=(b7 t r h m).graph.nodes[n2]:=by simp [gN,aA l2]
  refine ⟨⟨⟨hy.1.1,hy.1.2⟩,⟨aD,aD⟩,aD,aD⟩,?_⟩
  rw [e1,e2]
  exact QN S.hR.vf hfit b1 b2 (hbin _ (aC l1)) (hbin _ (aC l2))
theorem RR {x:Host}(hv:(cZ t).2=0)(hn:x.graph.nodes.length<=40)(he:x.graph.edges.length<=80)(hl:x.values.length=x.graph.nodes.length)(hb:∀ a∈x.graph.nodes,0<=a/\a<t.nodes.length)
  (hnd:∀ (n:Nat) (h1:n<x.graph.nodes.length) (h2:n<x.values.length),g9 t x.graph.nodes[n] x.values[n]=0)
  (hed:∀ y∈x.graph.edges,((0<=y.type/\y.type<t.edges.length)/\(0<=y.from_/\y.from_<x.graph.nodes.length)/\(0<=y.to_/\y.to_<x.graph.nodes.length))/\n3 t y.type (gN x.graph y.from_) (gN x.graph y.to_)=true):iF t x=0:=by
 have hf:=(nC hv).fewN
 have hf2:=(nC hv).fewE
 have hg:graphF x.graph=0:=QL hn he (λa ha=>by have:=hb a ha;omega) λy hy=>by
  obtain ⟨⟨a1,a2,a3⟩,_⟩:=hed y hy
  exact ⟨aD,a2,a3⟩
 have h1:(gP (Gk t x) 0 x.graph.nodes.length).2=0:=by
  rw [s8]
  refine mQ _ _ λj _ hj=>?_
  have hj1:j<x.graph.nodes.length:=aD
  unfold Gk
  rw [aA hj1,aA (aD:j<x.values.length),Option.getD_some,Option.getD_some]
  exact hnd j hj1 aD
 unfold iF nZ
 rw [if_neg aD,if_neg aD,if_neg aD,if_neg aD,s8]
 refine mQ _ _ λj _ hj=>?_
 have hj1:j<x.graph.edges.length:=aD
 obtain ⟨a1,a2⟩:=hed _ (aC hj1)
 unfold QK
 rw [aA hj1,Option.getD_some,if_neg aD,if_pos a2]
theorem O8 {g:Graph}{c:Part}{vs:List Int}:∀ (l:List Slot) (vals:List (List Int)),vals.length=g.nodes.length->(∀ (n:Nat) (h1:n<g.nodes.length) (h2:n<vals.length),g9 t g.nodes[n] vals[n]=0) ->
  (∀ s∈l,xZ t g c vs s=false)->(∀ s∈l,0<=s.attr)->∀ (n:Nat) (h1:n<g.nodes.length) (h2:n<(tJ c vs l vals).length),g9 t g.nodes[n] (tJ c vs l vals)[n]=0
 | [],vals,_,hx,_,_=>λn h1 h2=>hx n h1 h2
 | s :: l,vals,hl,hx,ho,ha=>by
  refine O8 l (vals.set (fJ c s) ((vals[fJ c s]?.getD []).set s.attr.toNat (c8 s.term vs))) (by rw [iZ];exact hl) (λn h1 h2=>?_) (λs hs=>ho s (by simp [hs])) (λs hs=>ha s (by simp [hs]))
  rw [iZ] at h2
  have hI:=hx n h1 h2
  rw [zI]
  split
  .rename_i hs'
   subst hs'
   rw [aA h2,Option.getD_some]
   obtain ⟨a1,a2,a3,a4⟩:=r5 hI
   unfold g9
   rw [if_neg aD,if_neg (by rw [a2];simp),if_neg (by rw [iZ];omega)]
   refine mQ _ _ λj _ hj=>?_
   have hja:j<(bL t g.nodes[fJ c s]).length:=aD
   unfold BF
   rw [aA hja,Option.getD_some]
   by_cases hj2:s.attr.toNat=j
   .have e:((vals[fJ c s]).set s.attr.toNat (c8 s.term vs))[j]?=some (c8 s.term vs):=by rw [<- hj2];exact List.getElem?_set_self aD
    rw [e,Option.getD_some,if_neg]
    have hO:=ho s bV
    unfold xZ at hO
    rw [aA h1,Option.getD_some,hj2,aA hja,Option.getD_some,Bool.or_eq_false_iff,decide_eq_false_iff_not,decide_eq_false_iff_not] at hO
    omega
   .rw [List.getElem?_set_ne hj2,aA (aD:j<(vals[fJ c s]).length),Option.getD_some,if_neg]
    have:=a4 j aD hja
    omega
  .exact hI
theorem StepIn.after (S:StepIn t r h m)(hp:sJ t (b7 t r h m).graph (fB r h m) m.vars r.right.slots=0)(hn:(b7 t r h m).graph.nodes.length<=40)(he:(b7 t r h m).graph.edges.length<=80):iF t (cX t r h m)=0:=by
 have ho:∀ s∈r.right.slots,xZ t (b7 t r h m).graph (fB r h m) m.vars s=false:=by
  unfold sJ at hp
  split at hp
  .cases hp
  .split at hp
   .cases hp
   .rename_i h2
    rw [Bool.not_eq_true,wU] at h2
    exact λs hs=>by simpa using h2 s hs
 exact RR S.hR.vf hn he (by show (tJ _ _ _ _).length=_;rw [(oN _ _ _ _).1];exact S.vlen) S.bin (λn h1 h2=>O8 _ _ S.vlen S.node ho (λs hs=>(S.hR.slots s hs).2.1.1) n h1 h2) S.edge
end
mutual
def mP:Cond→Bool
 | .mk k l m p=>BD l&&decide ((p.graph.nodes.length:Int)+p.graph.edges.length≤6)
def BD:List Cond→Bool
 | []=>true
 | c :: l=>mP c&&BD l
end
theorem Md (l:List Cond):BD l=l.all mP:=by
 induction l with
 | nil=>simp [BD]
 | cons a l ih=>simp [BD,ih]
theorem Az (c:Cond):mP c=(c.kids.all mP&&decide ((c.pattern.graph.nodes.length:Int)+c.pattern.graph.edges.length<=6)):=by
 cases c;simp only [mP,Md,Cond.kids,Cond.pattern];try rfl
theorem tU {α:Type}(l:List α)(p:α->Bool){i:Nat}(h:i<l.length):(l.take (i+1)).all p=((l.take i).all p&&p l[i]):=by
 rw [aE h,A0];simp
theorem JT:∀ c:Cond,c.ok->Pure Tryz.prog 133 [.agg c.c] (.bool (mP c)):=by
 refine i9 λc ih hc=>?_
 obtain ⟨hs,hk⟩:=(qH c).1 hc
 have p1:=hs.p1
 have p2:=hs.p2
 refine Tz.pK ⟨λ_=>false,λ_=>[]⟩ Tryz.func133 rfl (λQ hQ=>?_)
 have Y:=@Cond.c_eq
 refine wv (h:=bF (λi e H=>(e 1=.adr c.c/\e 3=dI i)/\(i<=c.kids.length)/\((c.kids.take i).all mP=true)) (λi=>c.kids.length - i) 0 ⟨wg,wi,(by rfl)⟩ λI0 hI0 i e H hi0=>?_)
 obtain ⟨E0,hi,ha⟩:=hi0
 have Y:=wa Y E0
 refine wv (h:=?_)
 repeat first|intro _|refine ⟨eO,?_⟩
 refine wq (λh2=>?_) λh2=>?_
 .have Y:=wa Y (wa h2 (aA h2))
  refine wo (h:=aB ((by have:=ih _ (aC h2) (hk _ (aC h2));rwa [Cond.c_eq] at this)) wl ?_)
  refine wv (h:=?_)
  repeat first|intro _|refine ⟨eO,?_⟩
  refine wq (λh4=>?_) λh4=>?_
  .refine wv (h:=?_)
   have hF:mP c=false:=by
    have:c.kids.all mP=false:=by
     rw [bH];intro h;exact absurd (cO.1 h _ (aC h2)) (bW h4)
    rw [Az,this];rfl
   exact hQ _ _ (by simp [go_sem,hF])
  .exact wo (h:=wx hI0 (i+1) ⟨wg,wj,(by rw [tU _ _ h2,ha];simpa using h4)⟩)
 .have hA:c.kids.all mP=true:=by rw [aH aD] at ha;exact ha
  have hF:mP c=decide ((c.pattern.graph.nodes.length:Int)+c.pattern.graph.edges.length<=6):=by rw [Az,hA];rfl
  exact wo (h:=hQ _ _ (by simp [go_sem,hF]))
def V5 (p q:Pattern):Int:=((14 ^ (q.graph.nodes.length - p.graph.nodes.length) * 18 ^ (q.graph.edges.length - p.graph.edges.length):Nat):Int)
def Iz (k:Int)(p' p:Pattern):Pattern:=if k=5 then p' else p
mutual
def mF:Cond→Pattern→Bool
 | .mk k l m p',p=>GS l (Iz k p' p)&&decide (V5 p (Iz k p' p)≤5000)
def GS:List Cond→Pattern→Bool
 | [],_=>true
 | c :: l,q=>mF c q&&GS l q
end
theorem OL (l:List Cond)(q:Pattern):GS l q=l.all λc=>mF c q:=by
 induction l with
 | nil=>simp [GS]
 | cons a l ih=>simp [GS,ih]
theorem zE (c:Cond)(p:Pattern):mF c p=((c.kids.all λk=>mF k (Iz c.kind c.pattern p))&&decide (V5 p (Iz c.kind c.pattern p)<=5000)):=by
 cases c;simp only [mF,OL,Cond.kids,Cond.pattern,Cond.kind];try rfl
theorem rF {a j:Nat}(ha:1<=a)(hj:j<=6):a ^ j<=a ^ 6/\1<=a ^ j:=⟨Nat.pow_le_pow_right ha hj,by first|exact Nat.one_le_pow _ _ ha|exact Nat.pow_pos ha|exact Nat.pos_pow_of_pos _ ha⟩
theorem Js (q:Pattern):q.c.take 5=q.c:=rfl
theorem Hu:∀ c:Cond,c.ok->mP c=true->∀ p:Pattern,p.graph.nodes.length<=1000000->p.graph.edges.length<=1000000->Pure Tryz.prog 134 [p.d,.agg c.c,dI 14,dI 18] (.bool (mF c p)):=by
 refine i9 λc ih hc hn p hp1 hp2=>?_
 obtain ⟨hs,hk⟩:=(qH c).1 hc
 have q1:=hs.p1
 have q2:=hs.p2
 rw [Az] at hn
 simp only [aR,decide_eq_true_eq,cO] at hn
 obtain ⟨q,hq⟩:=dZ (Iz c.kind c.pattern p)
 have hqs:q.graph.nodes.length - p.graph.nodes.length<=6/\q.graph.edges.length - p.graph.edges.length<=6/\q.graph.nodes.length<=1000000/\q.graph.edges.length<=1000000:=by
  rw [<- hq];unfold Iz;split<;>omega
 refine Tz.pK ⟨λt=>t==9,λ_=>[]⟩ Tryz.func134 rfl (λQ hQ=>?_)
 have Y:=@Cond.c_eq
 refine dP (λh2=>?_) λh2=>?_
 .have hqc:c.pattern=q:=by rw [<- hq];exact (if_pos h2).symm
  refine wp (h:=bF (λi e H=>∃ w:Nat,(e 4=.adr p.c/\e 5=.adr c.c/\e 2=dI 14/\e 3=dI 18/\e 9=.ptr 0 1 0 0/\e 10=dI w/\e 11=dI i)/\(H.get 0=some ⟨33,5,[q.c],false⟩)/\(0<H.next)/\(p.graph.nodes.length<=i)/\(i<=q.graph.nodes.length\/i=p.graph.nodes.length)/\(w=14 ^ (i - p.graph.nodes.length))) (λi=>q.graph.nodes.length - i) p.graph.nodes.length ⟨1,wg,(by simp [go_sem,hqc,Js]),wn,wi,wi,(by simp)⟩ λI0 hI0 i e H hi0=>?_)
  obtain ⟨w,E0,g0_0,n0_0,hi,hi2,hw⟩:=hi0
  have Y:=wa Y (wa E0 (wa g0_0 (cD n0_0)))
  refine wv (h:=?_)
  repeat first|intro _|refine ⟨eQ,?_⟩
  refine wq (λh6=>?_) λh6=>?_
  .have hwb:=(rF (a:=14) (j:=i - p.graph.nodes.length) aD aD).1
   rw [<- hw] at hwb
   have hwb':w<=7529536:=hwb
   have Y:=wa Y h6
   exact wp (h:=wx hI0 (i+1) ⟨(w * 14),wg,(by simp [go_sem,Y]),wn,wj,wj,(by rw [(aD:i+1 - p.graph.nodes.length=(i - p.graph.nodes.length)+1),Nat.pow_succ,hw])⟩)
  .have hw':w=14 ^ (q.graph.nodes.length - p.graph.nodes.length):=by rw [hw];congr 1;omega
   have hwb:=(rF (a:=14) (j:=q.graph.nodes.length - p.graph.nodes.length) aD hqs.1).1
   rw [<- hw'] at hwb
   have hwb':w<=7529536:=hwb
   refine wp (h:=bF (λk e H=>∃ v:Nat,(e 4=.adr p.c/\e 5=.adr c.c/\e 2=dI 14/\e 3=dI 18/\e 9=.ptr 0 1 0 0/\e 10=dI v/\e 12=dI k)/\(H.get 0=some ⟨33,5,[q.c],false⟩)/\(0<H.next)/\(p.graph.edges.length<=k)/\(k<=q.graph.edges.length\/k=p.graph.edges.length)/\(v=w * 18 ^ (k - p.graph.edges.length))) (λk=>q.graph.edges.length - k) p.graph.edges.length ⟨w,wg,(by simp [go_sem,Y]),wn,wi,wi,(by simp)⟩ λI2 hI2 k e H hi2=>?_)
   obtain ⟨v,E2,g0_2,n0_2,hk1,hk2,hv⟩:=hi2
   have Y:=wa Y (wa E2 (wa g0_2 (cD n0_2)))
   refine wv (h:=?_)
   repeat first|intro _|refine ⟨eQ,?_⟩
   refine wq (λh10=>?_) λh10=>?_
   .have hvb:=(rF (a:=18) (j:=k - p.graph.edges.length) aD aD).1
    have hvb':v<=7529536 * 34012224:=by rw [hv];exact jY hwb' hvb
    have Y:=wa Y h10
    exact wp (h:=wx hI2 (k+1) ⟨(v * 18),wg,(by simp [go_sem,Y]),wn,wj,wj,(by rw [(aD:k+1 - p.graph.edges.length=(k - p.graph.edges.length)+1),Nat.pow_succ,hv,Nat.mul_assoc])⟩)
   .have hv':v=w * 18 ^ (q.graph.edges.length - p.graph.edges.length):=by rw [hv];congr 2;omega
    refine wv (h:=bF (λj e H=>(e 4=.adr p.c/\e 5=.adr c.c/\e 2=dI 14/\e 3=dI 18/\e 9=.ptr 0 1 0 0/\e 10=dI v/\e 13=dI j)/\(H.get 0=some ⟨33,5,[q.c],false⟩)/\(0<H.next)/\(j<=c.kids.length)/\((c.kids.take j).all (λx=>mF x q)=true)) (λj=>c.kids.length - j) 0 ⟨wg,(by simp [go_sem,Y]),wn,wi,(by rfl)⟩ λI4 hI4 j e H hi4=>?_)
    obtain ⟨E4,g0_4,n0_4,hj,ha⟩:=hi4
    have Y:=wa Y (wa E4 (wa g0_4 (cD n0_4)))
    refine wv (h:=?_)
    repeat first|intro _|refine ⟨eQ,?_⟩
    refine wq (λh14=>?_) λh14=>?_
    .have Y:=wa Y (wa h14 (wa (aA h14) @Js))
     refine wp (h:=aJ ((by have hz:=ih _ (aC h14) (hk _ (aC h14)) (hn.1 _ (aC h14)) q hqs.2.2.1 hqs.2.2.2;rwa [Cond.c_eq] at hz)) wl ?_)
     refine wv (h:=?_)
     repeat first|intro _|refine ⟨eQ,?_⟩
     refine wq (λh16=>?_) λh16=>?_
     .refine wv (h:=?_)
      have hF:mF c p=false:=by
       have:(c.kids.all λx=>mF x q)=false:=by
        rw [bH];intro h;exact absurd (cO.1 h _ (aC h14)) (bW h16)
       rw [zE,hq,this];rfl
      exact hQ _ _ (by simp [go_sem,hF])
     .exact wp (h:=wx hI4 (j+1) ⟨wg,(by simp [go_sem,Y]),wn,wj,(by rw [tU _ _ h14,ha];simpa using h16)⟩)
    .have hA:(c.kids.all λx=>mF x q)=true:=by rw [aH aD] at ha;exact ha
     have hF:mF c p=decide ((v:Int)<=5000):=by rw [zE,hq,hA,hv',hw'];rfl
     exact wv (h:=hQ _ _ (by simp [go_sem,hF]))
 .have hqc:p=q:=by rw [<- hq];exact (if_neg h2).symm
  refine wp (h:=bF (λi e H=>∃ w:Nat,(e 4=.adr p.c/\e 5=.adr c.c/\e 2=dI 14/\e 3=dI 18/\e 9=.ptr 0 1 0 0/\e 10=dI w/\e 11=dI i)/\(H.get 0=some ⟨33,5,[q.c],false⟩)/\(0<H.next)/\(p.graph.nodes.length<=i)/\(i<=q.graph.nodes.length\/i=p.graph.nodes.length)/\(w=14 ^ (i - p.graph.nodes.length))) (λi=>q.graph.nodes.length - i) p.graph.nodes.length ⟨1,wg,(by simp [go_sem,hqc,Js]),wn,wi,wi,(by simp)⟩ λI0 hI0 i e H hi0=>?_)
  obtain ⟨w,E0,g0_0,n0_0,hi,hi2,hw⟩:=hi0
  have Y:=wa Y (wa E0 (wa g0_0 (cD n0_0)))
  refine wv (h:=?_)
  repeat first|intro _|refine ⟨eQ,?_⟩
  refine wq (λh6=>?_) λh6=>?_
  .have hwb:=(rF (a:=14) (j:=i - p.graph.nodes.length) aD aD).1
   rw [<- hw] at hwb
   have hwb':w<=7529536:=hwb
   have Y:=wa Y h6
   exact wp (h:=wx hI0 (i+1) ⟨(w * 14),wg,(by simp [go_sem,Y]),wn,wj,wj,(by rw [(aD:i+1 - p.graph.nodes.length=(i - p.graph.nodes.length)+1),Nat.pow_succ,hw])⟩)
  .have hw':w=14 ^ (q.graph.nodes.length - p.graph.nodes.length):=by rw [hw];congr 1;omega
   have hwb:=(rF (a:=14) (j:=q.graph.nodes.length - p.graph.nodes.length) aD hqs.1).1
   rw [<- hw'] at hwb
   have hwb':w<=7529536:=hwb
   refine wp (h:=bF (λk e H=>∃ v:Nat,(e 4=.adr p.c/\e 5=.adr c.c/\e 2=dI 14/\e 3=dI 18/\e 9=.ptr 0 1 0 0/\e 10=dI v/\e 12=dI k)/\(H.get 0=some ⟨33,5,[q.c],false⟩)/\(0<H.next)/\(p.graph.edges.length<=k)/\(k<=q.graph.edges.length\/k=p.graph.edges.length)/\(v=w * 18 ^ (k - p.graph.edges.length))) (λk=>q.graph.edges.length - k) p.graph.edges.length ⟨w,wg,(by simp [go_sem,Y]),wn,wi,wi,(by simp)⟩ λI2 hI2 k e H hi2=>?_)
   obtain ⟨v,E2,g0_2,n0_2,hk1,hk2,hv⟩:=hi2
   have Y:=wa Y (wa E2 (wa g0_2 (cD n0_2)))
   refine wv (h:=?_)
   repeat first|intro _|refine ⟨eQ,?_⟩
   refine wq (λh10=>?_) λh10=>?_
   .have hvb:=(rF (a:=18) (j:=k - p.graph.edges.length) aD aD).1
    have hvb':v<=7529536 * 34012224:=by rw [hv];exact jY hwb' hvb
    have Y:=wa Y h10
    exact wp (h:=wx hI2 (k+1) ⟨(v * 18),wg,(by simp [go_sem,Y]),wn,wj,wj,(by rw [(aD:k+1 - p.graph.edges.length=(k - p.graph.edges.length)+1),Nat.pow_succ,hv,Nat.mul_assoc])⟩)
   .have hv':v=w * 18 ^ (q.graph.edges.length - p.graph.edges.length):=by rw [hv];congr 2;omega
    refine wv (h:=bF (λj e H=>(e 4=.adr p.c/\e 5=.adr c.c/\e 2=dI 14/\e 3=dI 18/\e 9=.ptr 0 1 0 0/\e 10=dI v/\e 13=dI j)/\(H.get 0=some ⟨33,5,[q.c],false⟩)/\(0<H.next)/\(j<=c.kids.length)/\((c.kids.take j).all (λx=>mF x q)=true)) (λj=>c.kids.length - j) 0 ⟨wg,(by simp [go_sem,Y]),wn,wi,(by rfl)⟩ λI4 hI4 j e H hi4=>?_)
    obtain ⟨E4,g0_4,n0_4,hj,ha⟩:=hi4
    have Y:=wa Y (wa E4 (wa g0_4 (cD n0_4)))
    refine wv (h:=?_)
    repeat first|intro _|refine ⟨eQ,?_⟩
    refine wq (λh14=>?_) λh14=>?_
    .have Y:=wa Y (wa h14 (wa (aA h14) @Js))
     refine wp (h:=aJ ((by have hz:=ih _ (aC h14) (hk _ (aC h14)) (hn.1 _ (aC h14)) q hqs.2.2.1 hqs.2.2.2;rwa [Cond.c_eq] at hz)) wl ?_)
     refine wv (h:=?_)
     repeat first|intro _|refine ⟨eQ,?_⟩
     refine wq (λh16=>?_) λh16=>?_
     .refine wv (h:=?_)
      have hF:mF c p=false:=by
       have:(c.kids.all λx=>mF x q)=false:=by
        rw [bH];intro h;exact absurd (cO.1 h _ (aC h14)) (bW h16)
       rw [zE,hq,this];rfl
      exact hQ _ _ (by simp [go_sem,hF])
     .exact wp (h:=wx hI4 (j+1) ⟨wg,(by simp [go_sem,Y]),wn,wj,(by rw [tU _ _ h14,ha];simpa using h16)⟩)
    .have hA:(c.kids.all λx=>mF x q)=true:=by rw [aH aD] at ha;exact ha
     have hF:mF c p=decide ((v:Int)<=5000):=by rw [zE,hq,hA,hv',hw'];rfl
     exact wv (h:=hQ _ _ (by simp [go_sem,hF]))
def ED (t:Types)(p:Pattern)(c:Cond)(h:Host):Bool:=fewC c&&fewP p&&BT h&&(decide (condF t p c≠0)||(light21 t p h&&mP c&&decide ((h.graph.nodes.length:Int)<=6)&&decide ((h.graph.edges.length:Int)<=8)&&mF c p))
theorem LE (t:Types)(ht:t.ok)(p:Pattern)(c:Cond)(hc:c.le)(h:Host):Pure Tryz.prog 55 [t.d,p.d,.agg c.c,h.d] (.bool (ED t p c h)):=by
 refine Tz.pK ⟨λ_=>false,λ_=>[]⟩ Tryz.func55 rfl (λQ hQ=>?_)
 have Y:=wa @Host.c.eq_1 (wa @Pattern.c.eq_1 @Cond.c_eq)
 refine wo (h:=aB ((by have hz:=Ij c hc;rwa [Cond.c_eq] at hz)) wl ?_)
 refine wo (h:=aG (λhg=>uC p) (λhg=>wl) ?_)
 refine wo (h:=aG (λhg=>CG h) (λhg=>wl) ?_)
 refine fA (λh1=>?_) λh1=>?_
 .have hF:(fewC c&&fewP p&&BT h)=false:=by cases ha:fewC c<;>cases hb:fewP p<;>cases hd:BT h<;>simp [ha,hb,hd] at h1<;>rfl
  exact wv (h:=hQ _ _ (by simp [go_sem,ED,hF]))
 .have hF:fewC c=true/\fewP p=true/\BT h=true:=by cases ha:fewC c<;>cases hb:fewP p<;>cases hd:BT h<;>simp [ha,hb,hd] at h1<;>exact ⟨rfl,rfl,rfl⟩
  have hO:c.ok/\c.size<=1000000:=by
   have h6:=hF.1
   simp [fewC] at h6
   have h7:=F8 c 40 aD h6
   exact ⟨h7.1,aD⟩
  have hO2:p.graph.nodes.length<=1000000/\p.graph.edges.length<=1000000:=by
   have h6:=hF.2.1
   simp [fewP,fewG] at h6
   omega
  refine wo (h:=aB ((by have hz:=Du t ht p c hO.1 hO.2;rwa [Cond.c_eq] at hz)) wl ?_)
  refine wo (h:=aG (λhg=>LI t ht p h) (λhg=>wl) ?_)
  refine wo (h:=aG (λhg=>(by have hz:=JT c hO.1;rwa [Cond.c_eq] at hz)) (λhg=>wl) ?_)
  refine wo (h:=aG (λhg=>(by have hz:=Hu c hO.1 (by simp at hg;simp_all) p hO2.1 hO2.2;rwa [Cond.c_eq] at hz)) (λhg=>wl) ?_)
  exact wo (h:=hQ _ _ (by simp [go_sem,ED,hF.1,hF.2.1,hF.2.2]))
def light26 (t:Types)(r:Rule)(h:Host):Bool:=uS t&&fewR r&&ED t r.left r.cond h
theorem PK (t:Types)(ht:t.ok)(r:Rule)(hr:r.ok)(h:Host)(m:Mat){v:Stp26}{e:Int}(hv:v=fP t r h m)(he:e=nF t r h m):Pure Tryz.prog 16 [t.d,r.d,h.d,m.d] (.tup [.agg v.c,dI e]):=by
 subst hv he;exact Lw t ht r hr h m
theorem Rk (l:List Stp26):D.clLL (l.map Stp26.c)=true:=dL _ Stp26.cl l
attribute [go_sem] Rk
end Go.Abs
end
