/- search.refute's closure grow: the tree of a part, walked. -/
import Derived.Test.YtmmhnfghklppiaaGreatUk38
import Derived.Test.YtmmhnfghklppiaaGreatUk26
import Derived.Test.YtmmhnfghklppiaaGreatUk29
import Derived.Test.YtmmhnfghklppiaaGreatUk28
import Derived.Test.YtmmhnfghklppiaaGreatUk24
namespace Go.Proofs.YtmmhnfghklppiaaGreat.Vm
open Go
set_option linter.unusedSimpArgs false
set_option linter.unusedVariables false
set_option maxHeartbeats 8000000
set_option maxRecDepth 4000
theorem zlq:G.shared 73=true:=by decide
def CP (p:Problem) (mb ob pb gb:Nat):List AV:=[.pure (.ptr false p.cells 0),.box mb 0,.box ob 0,.box pb 0,.box gb 0]
structure uu (p:Problem) (g:List Nat) (mb ob pb gb bs:Nat) (M:AV) (H:Heap) (V:AV) (out:List Node):Prop where
 m:H.get mb=.cells true [M]
 mo:bP aF 1 H M (JD p.facts.xs g)
 o:H.get ob=.cells true [V]
 gr:aC Node.cells 4 H V out
 pt:H.get pb=.cells true [.pure (lD g)]
 gw:H.get gb=.cells true [.func 73 (CP p mb ob pb gb)]
 mlo:∀ id,Names M id->id < bs/\id≠ob
 sep:∀ id,Names V id->bs<=id
 bs:bs<=H.nx
structure Xa (mb ob pb gb bs:Nat):Prop where
 m:mb < bs
 o:ob < bs
 p:pb < bs
 g:gb < bs
 mo:mb≠ob
 po:pb≠ob
 go:gb≠ob
structure lL (ob:Nat) (H H':Heap) (V V':AV) (out:List Node):Prop where
 same:Sm (fun j=>j=ob\/Names V j) H H'
 at_:H'.get ob=.cells true [V']
 gr:aC Node.cells 4 H' V' out
 new:∀ id,Names V' id->Names V id\/H.nx<=id
theorem lL.trans {ob:Nat} {H H1 H2:Heap} {V V1 V2:AV} {o1 o2:List Node} (h:lL ob H H1 V V1 o1) (h':lL ob H1 H2 V1 V2 o2):lL ob H H2 V V2 o2 :=
 ⟨h.same.trans h'.same fun j hj hn=>by
  rcases hn with hn|hn
  .exact .inl hn
  .rcases h.new j hn with h1|h1
   .exact .inr h1
   .omega,h'.at_,h'.gr,fun id hn=>by
  rcases h'.new id hn with h1|h1
  .exact h.new id h1
  .exact .inr (by have:=h.same.nx;omega)⟩
theorem lL.in {p:Problem} {g:List Nat} {mb ob pb gb bs:Nat} {M V V':AV} {H H':Heap} {o1 o2:List Node} (hb:Xa mb ob pb gb bs) (h:uu p g mb ob pb gb bs M H V o1) (h':lL ob H H' V V' o2):uu p g mb ob pb gb bs M H' V' o2:=by
 have key:∀ j,j < bs->j≠ob->H'.get j=H.get j:=fun j h1 h2=>h'.same.get j (by have:=h.bs;omega) fun h3=>by
  rcases h3 with h3|h3
  .exact h2 h3
  .have:=h.sep j h3;omega
 exact ⟨by rw [key mb hb.m hb.mo];exact h.m,h.mo.keep fun id ⟨n,hn⟩=>by
   have:=h.mlo id ⟨_,_,_,hn⟩;exact key id this.1 this.2,h'.at_,h'.gr,by rw [key pb hb.p hb.po];exact h.pt,by rw [key gb hb.g hb.go];exact h.gw,h.mlo,fun id hn=>by
   rcases h'.new id hn with h1|h1
   .exact h.sep id h1
   .have:=h.bs;omega,by have:=h.bs;have:=h'.same.nx;omega⟩
def wm (H:Heap) (ob bs:Nat) (v:AV) (l:List Box):Prop:=(∃ s:Sl Box,s.xs=l/\v=.pure (s.pv Box.cells 4))\/∃ id,v=.row id 4 0 l.length/\id≠ob/\id < bs/\H.get id=.cells true (zq Box.cells l)
theorem wm.frz {H:Heap} {ob bs:Nat} {v:AV} {l:List Box} (h:wm H ob bs v l):∃ s:Sl Box,s.xs=l/\FrzK H true 12 v (s.pv Box.cells 4):=by
 rcases h with ⟨s,h1,rfl⟩|⟨id,rfl,_,_,hg⟩
 .exact ⟨s,h1,.pure _⟩
 .exact Ha (n:=10) (f:=Box.cells) (sz:=4) (fun _=>rfl) hg rfl
theorem wm.keep {H H':Heap} {ob bs:Nat} {v:AV} {l:List Box} (h:wm H ob bs v l) (hk:∀ j,j < bs->j≠ob->H'.get j=H.get j):wm H' ob bs v l:=by
 rcases h with h|⟨id,h1,h2,h3,hg⟩
 .exact .inl h
 .exact .inr ⟨id,h1,h2,h3,(hk id h3 h2).trans hg⟩
structure JP (p:Problem) (g:List Nat):Prop where
 ok:ak p
 ne:g≠[]
 lt:∀ i∈g,i < p.boxes.xs.length
 few:g.length<=12
theorem zjS {p:Problem} {g:List Nat} {mb ob pb gb bs:Nat} {M V V4:AV} {H Hs H4:Heap} {out:List Node} {a:Node} (hi:uu p g mb ob pb gb bs M H V out) (j5:aC Node.cells 4 H4 V4 (out++[a])) (ha:After V Hs V4 H4) (hs:Sm (fun _=>False) H Hs):lL ob H (H4.set ob (.cells true [V4])) V V4 (out++[a]):=by
 have G8:=zo hi.o;have h1:=hs.nx;have h2:=ha.nx;exact ⟨Sm.set (Sm.trans (hs.mono fun _ _ h=>h.elim) (⟨ha.nx,ha.get⟩:Sm (Names V) Hs H4) fun j _ h=>.inr h) (.inl (.inl rfl)),zn (by omega),j5.set (fun hn=>by have:=ha.new ob hn;omega) _,fun id hn=>.inr (by have:=ha.new id hn;omega)⟩
theorem uu.sm {p:Problem} {g:List Nat} {mb ob pb gb bs:Nat} {M V:AV} {H h:Heap} {out:List Node} (hi:uu p g mb ob pb gb bs M H V out) (hs:Sm (fun _=>False) H h):uu p g mb ob pb gb bs M h V out:=by
 have key:∀ j,j < H.nx->h.get j=H.get j:=fun j h1=>hs.get j h1 (fun h=>h);exact ⟨by rw [key mb (zo hi.m)];exact hi.m,hi.mo.keep fun id ⟨n,hn⟩=>key id (hi.mo.names_lt ⟨_,_,_,hn⟩),by rw [key ob (zo hi.o)];exact hi.o,⟨hi.gr.1.keep fun id ⟨n,hn⟩=>key id (hi.gr.1.names_lt ⟨_,_,_,hn⟩),hi.gr.2⟩,by rw [key pb (zo hi.pt)];exact hi.pt,by rw [key gb (zo hi.gw)];exact hi.gw,hi.mlo,hi.sep,by have:=hi.bs;have:=hs.nx;omega⟩
theorem lL.pre {ob:Nat} {H h H':Heap} {V V':AV} {o:List Node} (hs:Sm (fun _=>False) H h) (h':lL ob h H' V V' o):lL ob H H' V V' o :=
 ⟨(hs.mono fun _ _ h=>h.elim).trans h'.same fun _ _ h=>h,h'.at_,h'.gr,fun id hn=>by
  rcases h'.new id hn with h1|h1
  .exact .inl h1
  .exact .inr (by have:=hs.nx;omega)⟩
theorem ZB {p:Problem} {g:List Nat} {mb ob pb gb bs:Nat} {M V:AV} {H h:Heap} {out:List Node} (hi:uu p g mb ob pb gb bs M H V out) (hs:Sm (fun _=>False) H h):lL ob H h V V out :=
 ⟨hs.mono fun _ _ h=>h.elim,(hi.sm hs).o,(hi.sm hs).gr,fun _ h=>.inl h⟩
theorem zjw {p:Problem} {g:List Nat} {l:List Box} {i ax:Nat} {t:Int} (hw:Wf l) (hg:∀ i∈g,i < l.length) (bC:g≠[]) (h:C8 (Gy p.facts.xs g) (Ai g) l=some (i,ax,t)):jE l i ax t:=by
 unfold C8 at h
 cases hS:Gy p.facts.xs g l with
 | some s =>
  obtain ⟨a,k⟩:=s;rw [hS] at h;simp only [Option.some.injEq,Prod.mk.injEq] at h;obtain ⟨rfl,rfl,rfl⟩:=h;have hm:=pG.1 (List.mem_of_find?_eq_some hS);have hb:=List.find?_some hS;have aT:a < l.length:=hg a hm.1;simp only [MO,Bool.and_eq_true,decide_eq_true_eq] at hb;have hk:=hm.2;simp only at hk;have h1:=hb.1;rw [getElem!_pos l a aT] at h1 ⊢
  refine ⟨aT,by omega,?_,?_⟩
  .split<;>omega
  .split<;>omega
 | none =>
  rw [hS] at h;simp only at h
  split at h
  .simp at h
  .rename_i KL;simp only [Option.some.injEq,Prod.mk.injEq] at h;obtain ⟨rfl,rfl,rfl⟩:=h;obtain ⟨w1,w2,_⟩:=zgQ bC hw hg;have aT:=hg _ w1;have Ez:=hw _ (List.getElem_mem aT);rw [getElem!_pos l _ aT] at KL ⊢;have hle:(bA l[(Ai g l).1] (Ai g l).2).lo<=(bA l[(Ai g l).1] (Ai g l).2).hi:=by
    unfold ja at Ez;unfold bA
    split<;>omega
   exact ⟨aT,w2,by omega,by omega⟩
theorem zr7 {cl:Callee} {b:Bool} {A B:aX} {env:Env} {H:Heap} {Q Mid:fO->Env->Heap->Prop} {u} (hA:b=true->wp cl A env H Mid .mk) (hB:b=false->wp cl B env H Mid .mk) (hR:∀ x e h,Mid x e h->Q x e h):qo b (wp cl A env H Q .mk) (wp cl B env H Q .mk) u:=by
 cases b with
 | true=>exact (zpB).2 ((hA rfl).mono hR)
 | false=>exact (zid).2 ((hB rfl).mono hR)
def GMid (p:Problem) (H:Heap) (v:AV) (mb ob pb gb i ax:Nat) (t:Int) (x:fO) (e:Env) (h:Heap):Prop:=x=.normal/\e 0=v/\e 1=.pure (.ptr false p.cells 0)/\e 2=.box mb 0/\e 3=.box ob 0/\e 4=.box pb 0/\e 5=.box gb 0/\e 8=.box H.nx 0/\e 10=.pure (.int .i64 t)/\Sm (fun _=>False) H h/\H.nx < h.nx/\∃ hb,h.get H.nx=.cells true [.pure (.int .i64 i),.pure (.int .i64 ax),.pure (.bool hb)]
theorem zpC {p:Problem} {g:List Nat} (hp:JP p g) {mb ob pb gb bs m F:Nat} (hb:Xa mb ob pb gb bs) {M:AV}
  (ih:∀ (H:Heap) (l:List Box) (V:AV) (out:List Node),iU l < m->aR l p.boxes.xs->Wf l->out.length+(xk p g m l).length<=30000000->uu p g mb ob pb gb bs M H V out ->
   ∃ H',Vm.call G (F+10) (.fn 73) ([.pure ((Sl.mk false l).pv Box.cells 4)]++CP p mb ob pb gb) H=some (.aQ [],H')/\∃ V',lL ob H H' V V' (out++xk p g m l))
  (H:Heap) (v:AV) (l:List Box) (V:AV) (out:List Node) (hm:iU l < m+1) (hs:aR l p.boxes.xs) (hw:Wf l) (hv:wm H ob bs v l) (fF:out.length+(xk p g (m+1) l).length<=30000000) (hi:uu p g mb ob pb gb bs M H V out) :
  ∃ H',Vm.call G (F+10+1) (.fn 73) ([v]++CP p mb ob pb gb) H=some (.aQ [],H')/\∃ V',lL ob H H' V V' (out++xk p g (m+1) l):=by
 have ok:=hp.ok;have nb:=ok.nb;have nf:=ok.nf;have Dh:l.length=p.boxes.xs.length:=hs.1;have KA:v.cells=[v]/\v.one=true:=by
  rcases hv with ⟨s,_,rfl⟩|⟨id,rfl,_⟩
  .exact ⟨by simp,by simp⟩
  .exact ⟨rfl,rfl⟩
 have pq:=KA.1;have aV:=KA.2;have wL:=hi.gr.1.one;have JA:=wL.1;have JB:=wL.2;have hMo:=hi.mo.one;have hMo1:=hMo.1;have hMo2:=hMo.2;have hmn:=zo hi.m;have G8:=zo hi.o;have hpn:=zo hi.pt;have G7:=zo hi.gw;have g1:=hi.m;have g2:=hi.o;have g3:=hi.pt;have g4:=hi.gw;obtain ⟨sl,ED,JQ⟩:=hv.frz;obtain ⟨sm,Q7,M9⟩:=VA (f:=aF) (sz:=1) (n:=10) (fun _=>rfl) hi.mo;have hmi:vS p.facts.xs sm.xs:=by rw [Q7];exact ziU _ _
 have wH:sm.xs.length < 1000:=by rw [Q7];have:=zqf p.facts.xs g;omega
 have mD:zG (zt G (F+10)) H (.pure (.func 74 [])) [.pure (p.facts.pv Fact.cells 9),M,v]=some (.val (.pure (.int .i64 (fI p.facts.xs l (JD p.facts.xs g))))):=by
  have:=KH sh74 (.cons (.pure _) (.cons M9 (.cons JQ .nil))) (e74 (F+4) p.facts sm sl hmi wH (fun f hf=>Qk ok (by rw [ED];exact hs) (by rw [ED];exact hw) hf)) rfl;rw [ED,Q7] at this;exact this
 have main:∃ v' H',Vm.call G (F+10+1) (.fn 73) ([v]++CP p mb ob pb gb) H=some (v',H')/\(v'=.aQ []/\∃ V',lL ob H H' V V' (out++xk p g (m+1) l)):=by
  refine F8 rfl g73 rfl ?_
  generalize hT:xk p g (m+1) l=T at *;unfold xk LD at hT
  by_cases h0:0<=fI p.facts.xs l (JD p.facts.xs g)
  .rw [if_pos h0] at hT;generalize fI p.facts.xs l (JD p.facts.xs g)=B at *;have IC:out.length < 30000000:=by rw [<- hT] at fF;simp at fF;omega
   have Dj:=Hide.mk hi;have ZC:=Hide.mk hT;clear ih hT JQ M9 hi;(repeat' first|simp [*,zb,c73,CP,Problem.cells]|(apply za<;>intro _ h<;>try simp [-Nat.le_zero_eq] at h))
   refine Fp (f:=Node.cells) (sz:=4) (l:=out) ((Dj.h.gr).alloc _) (fun _=>rfl) (by decide) (fun _=>rfl) (by unfold zu;omega) ⟨⟨B,0,0,0⟩,by simp [Node.cells],?_⟩
   intro V4 H4 j5 xz;have k2:H4.get ob=.cells true [V]:=by rw [xz.get ob (by simp;omega) (fun hn=>by have:=Dj.h.sep ob hn;have:=hb.o;omega),zi G8];exact g2
   have hon4:ob < H4.nx:=by have:=xz.nx;simp at this;omega
   have uR:=Hide.mk (zjS Dj.h j5 xz (Sm.alloc (Sm.refl _ _)));have o4:=j5.1.one;have Tq:=o4.1;have Tt:=o4.2;rw [ZC.h] at uR;clear j5 xz o4 Dj hv mD;(repeat' first|simp [*,zb]|(apply za<;>intro _ h<;>try simp [-Nat.le_zero_eq] at h));exact ⟨_,uR.h⟩
  .rw [if_neg h0] at hT;generalize fI p.facts.xs l (JD p.facts.xs g)=B at *;have hnat:l.length<=12:=by omega
   have ou:∀ i∈g,i < l.length:=fun i hi=>by rw [Dh];exact hp.lt i hi
   have iG:zG (zt G (F+10)) H (.pure (.func 75 [])) [.pure (.agg p.cells),v,.pure (lD g)]=some (.val (.pure (.aQ [.agg (MS (Gy p.facts.xs g l)).cells,.bool (Gy p.facts.xs g l).isSome]))):=by
    have:=KH sh75 (.cons (.pure _) (.cons JQ (.cons (.pure _) .nil))) (e75 (F+3) p ok sl g (by rw [ED];exact hs) (by rw [ED];exact hw) (by rw [ED];exact ou) hp.few) rfl;rw [ED] at this;exact this
   have bX:=Ed ok hs hw;have Xb:∀ b∈l,MQ b:=fun b hb'=>by
    have:=aH.1 (bX b hb');unfold MQ pJ;omega
   have ZE:∀ o o',zG (zt G (F+10)) ((H.alloc o).set H.nx o') (.pure (.func 77 [])) [v,.pure (lD g)]=some (.val (.pure (.aQ [.int .i64 ((Ai g l).1:Nat),.int .i64 ((Ai g l).2:Nat)]))):=fun o o'=>by
    obtain ⟨s2,sN,pF⟩:=(hv.keep (H':=(H.alloc o).set H.nx o') fun j h1 h2=>by
     have:=hi.bs;rw [zg (by omega),zi (by omega)]).frz
    have:=KH sh77 (.cons pF (.cons (.pure _) .nil)) (e77 (F+8) s2 g (by rw [sN];exact ou) hp.ne (by rw [sN];exact Xb) hp.few) rfl;rw [sN] at this;exact this
   obtain ⟨S,hS⟩:∃ S,Gy p.facts.xs g l=S:=⟨_,rfl⟩
   obtain ⟨⟨wi,wk⟩,hW⟩:∃ w,Ai g l=w:=⟨_,rfl⟩
   obtain ⟨w1,w2,_⟩:=zgQ hp.ne hw ou;rw [hW] at w1 w2 ZE;simp only at w1 w2 ZE;have pI:=ou _ w1;rw [hS] at iG;have MX:pb≠H.nx:=by omega
   have hwo:ob≠H.nx:=by omega
   have hwg:gb≠H.nx:=by omega
   have Ve:mb≠H.nx:=by omega
   have Xc:H.nx≠ob:=by omega
   cases qg:C8 (Gy p.facts.xs g) (Ai g) l with
   | none =>
    cases S with
    | some sk =>
     unfold C8 at qg;rw [hS] at qg;simp at qg
    | none =>
     rw [qg] at hT;unfold C8 at qg;rw [hS] at qg;simp only at qg;rw [hW] at qg;simp only at qg;have aT:wi < l.length:=pI;rw [getElem!_pos l wi aT] at qg
     by_cases KL:(bA l[wi] wk).lo=(bA l[wi] wk).hi
     case neg=>rw [if_neg KL] at qg;simp at qg
     simp only at hT;have Dj:=Hide.mk hi;have xm:=aH.1 (bX _ (List.getElem_mem aT));have nM:wk=0\/wk=1:=by omega
     simp only [MS,Side.cells,Option.isSome_none,Problem.cells] at iG;subst hT;clear qg hS bX Xb w1 w2 pI Dh hi JQ M9 ih hW;rcases nM with rfl|rfl
     .simp only [bA,if_true,if_false,Nat.one_ne_zero] at KL;rcases hv with ⟨s,rfl,rfl⟩|⟨id,rfl,sH,jD,hg⟩
      .have ho:=GI (F+9);have Am:=pR (k:=.i64) (f:=Box.cells) (sz:=4) (s:=s) aT;(repeat' first|simp [*,zb,c73,CP,Problem.cells,Side.cells,Box.cells,Span.cells]|(apply za<;>intro _ h<;>try simp [-Nat.le_zero_eq] at h));exact ⟨V,ZB Dj.h (by repeat (first|exact Sm.refl _ _|refine Sm.alloc ?_|refine Sm.set ?_ (.inr (by first|omega|simp|(simp;omega)))))⟩
      .have ho:=Fq (F+9);have uw:=zo hg;have uh:id≠H.nx:=by omega
       have CK:H.nx≠id:=by omega
       have l0:=zC (own:=true) (f:=Box.cells) (sz:=4) (l:=l) (i:=wi) (size:=1) (off:=0) (fun _=>rfl) aT (by decide);have l1:=zC (own:=true) (f:=Box.cells) (sz:=4) (l:=l) (i:=wi) (size:=1) (off:=1) (fun _=>rfl) aT (by decide);have l2:=zC (own:=true) (f:=Box.cells) (sz:=4) (l:=l) (i:=wi) (size:=1) (off:=2) (fun _=>rfl) aT (by decide);have l3:=zC (own:=true) (f:=Box.cells) (sz:=4) (l:=l) (i:=wi) (size:=1) (off:=3) (fun _=>rfl) aT (by decide);rw [Nat.add_zero] at l0;have e3':wi*4+2+1=wi*4+3:=rfl;(repeat' first|simp [*,zb,c73,CP,Problem.cells,Side.cells,Box.cells,Span.cells]|(apply za<;>intro _ h<;>try simp [-Nat.le_zero_eq] at h));exact ⟨V,ZB Dj.h (by repeat (first|exact Sm.refl _ _|refine Sm.alloc ?_|refine Sm.set ?_ (.inr (by first|omega|simp|(simp;omega)))))⟩
     .simp only [bA,if_true,if_false,Nat.one_ne_zero] at KL;rcases hv with ⟨s,rfl,rfl⟩|⟨id,rfl,sH,jD,hg⟩
      .have ho:=GI (F+9);have Am:=pR (k:=.i64) (f:=Box.cells) (sz:=4) (s:=s) aT;(repeat' first|simp [*,zb,c73,CP,Problem.cells,Side.cells,Box.cells,Span.cells]|(apply za<;>intro _ h<;>try simp [-Nat.le_zero_eq] at h));exact ⟨V,ZB Dj.h (by repeat (first|exact Sm.refl _ _|refine Sm.alloc ?_|refine Sm.set ?_ (.inr (by first|omega|simp|(simp;omega)))))⟩
      .have ho:=Fq (F+9);have uw:=zo hg;have uh:id≠H.nx:=by omega
       have CK:H.nx≠id:=by omega
       have l0:=zC (own:=true) (f:=Box.cells) (sz:=4) (l:=l) (i:=wi) (size:=1) (off:=0) (fun _=>rfl) aT (by decide);have l1:=zC (own:=true) (f:=Box.cells) (sz:=4) (l:=l) (i:=wi) (size:=1) (off:=1) (fun _=>rfl) aT (by decide);have l2:=zC (own:=true) (f:=Box.cells) (sz:=4) (l:=l) (i:=wi) (size:=1) (off:=2) (fun _=>rfl) aT (by decide);have l3:=zC (own:=true) (f:=Box.cells) (sz:=4) (l:=l) (i:=wi) (size:=1) (off:=3) (fun _=>rfl) aT (by decide);rw [Nat.add_zero] at l0;have e3':wi*4+2+1=wi*4+3:=rfl;(repeat' first|simp [*,zb,c73,CP,Problem.cells,Side.cells,Box.cells,Span.cells]|(apply za<;>intro _ h<;>try simp [-Nat.le_zero_eq] at h));exact ⟨V,ZB Dj.h (by repeat (first|exact Sm.refl _ _|refine Sm.alloc ?_|refine Sm.set ?_ (.inr (by first|omega|simp|(simp;omega)))))⟩
   | some c =>
    obtain ⟨i,ax,t⟩:=c;have SB:=zjw hw ou hp.ne qg;rw [qg] at hT;simp only at hT;have MK:∃ b' s1 s2 s3,S.isSome=b'/\MS S=⟨s1,s2,s3⟩:=⟨_,_,_,_,rfl,rfl⟩
    obtain ⟨bS,s1,s2,s3,TF,Na⟩:=MK;rw [TF,Na] at iG;simp only [Problem.cells,Side.cells] at iG;have ZC:=Hide.mk hT;have Nb:=Hide.mk qg;have Dj:=Hide.mk hi;have pK:=Hide.mk SB;clear hT hi SB qg JQ M9;simp [-Nat.le_zero_eq, *,zb,c73,CP,Problem.cells,Side.cells]
    refine zr7 (Mid:=GMid p H v mb ob pb gb i ax t) (fun sF=>?_) (fun pg=>?_) fun x e h hM=>?_
    .subst sF
     cases S with
     | none=>simp at TF
     | some sk =>
      obtain ⟨a,k⟩:=sk;have hc:=Nb.h;unfold C8 at hc;rw [hS] at hc;simp only [Option.some.injEq,Prod.mk.injEq] at hc;obtain ⟨c1,c2,c3⟩:=hc;have hm:=pG.1 (List.mem_of_find?_eq_some hS);have aT:a < l.length:=ou a hm.1;rw [getElem!_pos l a aT] at c3;have xm:=aH.1 (bX _ (List.getElem_mem aT));simp only [MS,Fv,Side.mk.injEq] at Na;obtain ⟨d1,d2,d3⟩:=Na;have nE:k=0\/k=1\/k=2\/k=3:=by have:=hm.2;simp only at this;omega
      clear hS TF bX Xb ZE hW w1 w2 pI hm Nb Dh;subst c1;rcases nE with rfl|rfl|rfl|rfl
      .simp [bA] at c2 c3 d2 d3;subst c2 c3 d1 d2 d3;rcases hv with ⟨s,rfl,rfl⟩|⟨id,rfl,sH,jD,hg⟩
       .have ho:=GI (F+9);have Am:=pR (k:=.i64) (f:=Box.cells) (sz:=4) (s:=s) aT;(repeat' first|simp [*,zb,Box.cells,Span.cells]|(apply za<;>intro _ h<;>try simp [-Nat.le_zero_eq] at h));exact ⟨rfl,by simp [zb],by simp [zb],by simp [zb],by simp [zb],by simp [zb],by simp [zb],by simp [zb],by simp [zb],(by repeat (first|exact Sm.refl _ _|refine Sm.alloc ?_|refine Sm.set ?_ (.inr (by first|omega|simp|(simp;omega))))),by simp,_,by simp;rfl⟩
       .have ho:=Fq (F+9);have uw:=zo hg;have uh:id≠H.nx:=by omega
        have CK:H.nx≠id:=by omega
        have l0:=zC (own:=true) (f:=Box.cells) (sz:=4) (l:=l) (i:=a) (size:=1) (off:=0) (fun _=>rfl) aT (by decide);have l1:=zC (own:=true) (f:=Box.cells) (sz:=4) (l:=l) (i:=a) (size:=1) (off:=1) (fun _=>rfl) aT (by decide);have l2:=zC (own:=true) (f:=Box.cells) (sz:=4) (l:=l) (i:=a) (size:=1) (off:=2) (fun _=>rfl) aT (by decide);have l3:=zC (own:=true) (f:=Box.cells) (sz:=4) (l:=l) (i:=a) (size:=1) (off:=3) (fun _=>rfl) aT (by decide);rw [Nat.add_zero] at l0;have e3':a*4+2+1=a*4+3:=rfl;(repeat' first|simp [*,zb,Box.cells,Span.cells]|(apply za<;>intro _ h<;>try simp [-Nat.le_zero_eq] at h));exact ⟨rfl,by simp [zb],by simp [zb],by simp [zb],by simp [zb],by simp [zb],by simp [zb],by simp [zb],by simp [zb],(by repeat (first|exact Sm.refl _ _|refine Sm.alloc ?_|refine Sm.set ?_ (.inr (by first|omega|simp|(simp;omega))))),by simp,_,by simp;rfl⟩
      .simp [bA] at c2 c3 d2 d3;subst c2 c3 d1 d2 d3;have w1:IntKind.i64.wrap (l[a].x.hi - 1)=l[a].x.hi - 1:=wrap64 (by omega) (by omega);rcases hv with ⟨s,rfl,rfl⟩|⟨id,rfl,sH,jD,hg⟩
       .have ho:=GI (F+9);have Am:=pR (k:=.i64) (f:=Box.cells) (sz:=4) (s:=s) aT;(repeat' first|simp [*,zb,Box.cells,Span.cells]|(apply za<;>intro _ h<;>try simp [-Nat.le_zero_eq] at h));exact ⟨rfl,by simp [zb],by simp [zb],by simp [zb],by simp [zb],by simp [zb],by simp [zb],by simp [zb],by simp [zb],(by repeat (first|exact Sm.refl _ _|refine Sm.alloc ?_|refine Sm.set ?_ (.inr (by first|omega|simp|(simp;omega))))),by simp,_,by simp;rfl⟩
       .have ho:=Fq (F+9);have uw:=zo hg;have uh:id≠H.nx:=by omega
        have CK:H.nx≠id:=by omega
        have l0:=zC (own:=true) (f:=Box.cells) (sz:=4) (l:=l) (i:=a) (size:=1) (off:=0) (fun _=>rfl) aT (by decide);have l1:=zC (own:=true) (f:=Box.cells) (sz:=4) (l:=l) (i:=a) (size:=1) (off:=1) (fun _=>rfl) aT (by decide);have l2:=zC (own:=true) (f:=Box.cells) (sz:=4) (l:=l) (i:=a) (size:=1) (off:=2) (fun _=>rfl) aT (by decide);have l3:=zC (own:=true) (f:=Box.cells) (sz:=4) (l:=l) (i:=a) (size:=1) (off:=3) (fun _=>rfl) aT (by decide);rw [Nat.add_zero] at l0;have e3':a*4+2+1=a*4+3:=rfl;(repeat' first|simp [*,zb,Box.cells,Span.cells]|(apply za<;>intro _ h<;>try simp [-Nat.le_zero_eq] at h));exact ⟨rfl,by simp [zb],by simp [zb],by simp [zb],by simp [zb],by simp [zb],by simp [zb],by simp [zb],by simp [zb],(by repeat (first|exact Sm.refl _ _|refine Sm.alloc ?_|refine Sm.set ?_ (.inr (by first|omega|simp|(simp;omega))))),by simp,_,by simp;rfl⟩
      .simp [bA] at c2 c3 d2 d3;subst c2 c3 d1 d2 d3;rcases hv with ⟨s,rfl,rfl⟩|⟨id,rfl,sH,jD,hg⟩
       .have ho:=GI (F+9);have Am:=pR (k:=.i64) (f:=Box.cells) (sz:=4) (s:=s) aT;(repeat' first|simp [*,zb,Box.cells,Span.cells]|(apply za<;>intro _ h<;>try simp [-Nat.le_zero_eq] at h));exact ⟨rfl,by simp [zb],by simp [zb],by simp [zb],by simp [zb],by simp [zb],by simp [zb],by simp [zb],by simp [zb],(by repeat (first|exact Sm.refl _ _|refine Sm.alloc ?_|refine Sm.set ?_ (.inr (by first|omega|simp|(simp;omega))))),by simp,_,by simp;rfl⟩
       .have ho:=Fq (F+9);have uw:=zo hg;have uh:id≠H.nx:=by omega
        have CK:H.nx≠id:=by omega
        have l0:=zC (own:=true) (f:=Box.cells) (sz:=4) (l:=l) (i:=a) (size:=1) (off:=0) (fun _=>rfl) aT (by decide);have l1:=zC (own:=true) (f:=Box.cells) (sz:=4) (l:=l) (i:=a) (size:=1) (off:=1) (fun _=>rfl) aT (by decide);have l2:=zC (own:=true) (f:=Box.cells) (sz:=4) (l:=l) (i:=a) (size:=1) (off:=2) (fun _=>rfl) aT (by decide);have l3:=zC (own:=true) (f:=Box.cells) (sz:=4) (l:=l) (i:=a) (size:=1) (off:=3) (fun _=>rfl) aT (by decide);rw [Nat.add_zero] at l0;have e3':a*4+2+1=a*4+3:=rfl;(repeat' first|simp [*,zb,Box.cells,Span.cells]|(apply za<;>intro _ h<;>try simp [-Nat.le_zero_eq] at h));exact ⟨rfl,by simp [zb],by simp [zb],by simp [zb],by simp [zb],by simp [zb],by simp [zb],by simp [zb],by simp [zb],(by repeat (first|exact Sm.refl _ _|refine Sm.alloc ?_|refine Sm.set ?_ (.inr (by first|omega|simp|(simp;omega))))),by simp,_,by simp;rfl⟩
      .simp [bA] at c2 c3 d2 d3;subst c2 c3 d1 d2 d3;have w1:IntKind.i64.wrap (l[a].y.hi - 1)=l[a].y.hi - 1:=wrap64 (by omega) (by omega);rcases hv with ⟨s,rfl,rfl⟩|⟨id,rfl,sH,jD,hg⟩
       .have ho:=GI (F+9);have Am:=pR (k:=.i64) (f:=Box.cells) (sz:=4) (s:=s) aT;(repeat' first|simp [*,zb,Box.cells,Span.cells]|(apply za<;>intro _ h<;>try simp [-Nat.le_zero_eq] at h));exact ⟨rfl,by simp [zb],by simp [zb],by simp [zb],by simp [zb],by simp [zb],by simp [zb],by simp [zb],by simp [zb],(by repeat (first|exact Sm.refl _ _|refine Sm.alloc ?_|refine Sm.set ?_ (.inr (by first|omega|simp|(simp;omega))))),by simp,_,by simp;rfl⟩
       .have ho:=Fq (F+9);have uw:=zo hg;have uh:id≠H.nx:=by omega
        have CK:H.nx≠id:=by omega
        have l0:=zC (own:=true) (f:=Box.cells) (sz:=4) (l:=l) (i:=a) (size:=1) (off:=0) (fun _=>rfl) aT (by decide);have l1:=zC (own:=true) (f:=Box.cells) (sz:=4) (l:=l) (i:=a) (size:=1) (off:=1) (fun _=>rfl) aT (by decide);have l2:=zC (own:=true) (f:=Box.cells) (sz:=4) (l:=l) (i:=a) (size:=1) (off:=2) (fun _=>rfl) aT (by decide);have l3:=zC (own:=true) (f:=Box.cells) (sz:=4) (l:=l) (i:=a) (size:=1) (off:=3) (fun _=>rfl) aT (by decide);rw [Nat.add_zero] at l0;have e3':a*4+2+1=a*4+3:=rfl;(repeat' first|simp [*,zb,Box.cells,Span.cells]|(apply za<;>intro _ h<;>try simp [-Nat.le_zero_eq] at h));exact ⟨rfl,by simp [zb],by simp [zb],by simp [zb],by simp [zb],by simp [zb],by simp [zb],by simp [zb],by simp [zb],(by repeat (first|exact Sm.refl _ _|refine Sm.alloc ?_|refine Sm.set ?_ (.inr (by first|omega|simp|(simp;omega))))),by simp,_,by simp;rfl⟩
    .subst pg
     cases S with
     | some sk=>simp at TF
     | none =>
      have hc:=Nb.h;unfold C8 at hc;rw [hS] at hc;simp only at hc;rw [hW] at hc;simp only at hc;have aT:wi < l.length:=pI;rw [getElem!_pos l wi aT] at hc
      by_cases KL:(bA l[wi] wk).lo=(bA l[wi] wk).hi
      .rw [if_pos KL] at hc;simp at hc
      rw [if_neg KL] at hc;simp only [Option.some.injEq,Prod.mk.injEq] at hc;obtain ⟨c1,c2,c3⟩:=hc;have xm:=aH.1 (bX _ (List.getElem_mem aT));simp only [MS,Side.mk.injEq] at Na;obtain ⟨d1,d2,d3⟩:=Na;have nM:wk=0\/wk=1:=by omega
      clear hS TF bX Xb w1 w2 Nb pI Dh;subst c1 d1 d2 d3;rcases nM with rfl|rfl
      .simp only [bA,if_true,if_false,Nat.one_ne_zero] at c3 KL;subst c2 c3;have q1:Int.tdiv (l[wi].x.hi - l[wi].x.lo) 2=(l[wi].x.hi - l[wi].x.lo) / 2:=Int.tdiv_eq_ediv_of_nonneg (by omega);have u1:IntKind.i64.wrap (l[wi].x.hi - l[wi].x.lo)=l[wi].x.hi - l[wi].x.lo:=wrap64 (by omega) (by omega);have u2:IntKind.i64.wrap ((l[wi].x.hi - l[wi].x.lo) / 2)=(l[wi].x.hi - l[wi].x.lo) / 2:=wrap64 (by omega) (by omega);have u3:IntKind.i64.wrap (l[wi].x.lo+(l[wi].x.hi - l[wi].x.lo) / 2)=l[wi].x.lo+(l[wi].x.hi - l[wi].x.lo) / 2:=wrap64 (by omega) (by omega);rcases hv with ⟨s,rfl,rfl⟩|⟨id,rfl,sH,jD,hg⟩
       .have ho:=GI (F+9);have Am:=pR (k:=.i64) (f:=Box.cells) (sz:=4) (s:=s) aT;(repeat' first|simp [*,zb,Box.cells,Span.cells]|(apply za<;>intro _ h<;>try simp [-Nat.le_zero_eq] at h));exact ⟨rfl,by simp [zb],by simp [zb],by simp [zb],by simp [zb],by simp [zb],by simp [zb],by simp [zb],by simp [zb],(by repeat (first|exact Sm.refl _ _|refine Sm.alloc ?_|refine Sm.set ?_ (.inr (by first|omega|simp|(simp;omega))))),by simp,_,by simp;rfl⟩
       .have ho:=Fq (F+9);have uw:=zo hg;have uh:id≠H.nx:=by omega
        have CK:H.nx≠id:=by omega
        have l0:=zC (own:=true) (f:=Box.cells) (sz:=4) (l:=l) (i:=wi) (size:=1) (off:=0) (fun _=>rfl) aT (by decide);have l1:=zC (own:=true) (f:=Box.cells) (sz:=4) (l:=l) (i:=wi) (size:=1) (off:=1) (fun _=>rfl) aT (by decide);have l2:=zC (own:=true) (f:=Box.cells) (sz:=4) (l:=l) (i:=wi) (size:=1) (off:=2) (fun _=>rfl) aT (by decide);have l3:=zC (own:=true) (f:=Box.cells) (sz:=4) (l:=l) (i:=wi) (size:=1) (off:=3) (fun _=>rfl) aT (by decide);rw [Nat.add_zero] at l0;have e3':wi*4+2+1=wi*4+3:=rfl;(repeat' first|simp [*,zb,Box.cells,Span.cells]|(apply za<;>intro _ h<;>try simp [-Nat.le_zero_eq] at h));exact ⟨rfl,by simp [zb],by simp [zb],by simp [zb],by simp [zb],by simp [zb],by simp [zb],by simp [zb],by simp [zb],(by repeat (first|exact Sm.refl _ _|refine Sm.alloc ?_|refine Sm.set ?_ (.inr (by first|omega|simp|(simp;omega))))),by simp,_,by simp;rfl⟩
      .simp only [bA,if_true,if_false,Nat.one_ne_zero] at c3 KL;subst c2 c3;have q1:Int.tdiv (l[wi].y.hi - l[wi].y.lo) 2=(l[wi].y.hi - l[wi].y.lo) / 2:=Int.tdiv_eq_ediv_of_nonneg (by omega);have u1:IntKind.i64.wrap (l[wi].y.hi - l[wi].y.lo)=l[wi].y.hi - l[wi].y.lo:=wrap64 (by omega) (by omega);have u2:IntKind.i64.wrap ((l[wi].y.hi - l[wi].y.lo) / 2)=(l[wi].y.hi - l[wi].y.lo) / 2:=wrap64 (by omega) (by omega);have u3:IntKind.i64.wrap (l[wi].y.lo+(l[wi].y.hi - l[wi].y.lo) / 2)=l[wi].y.lo+(l[wi].y.hi - l[wi].y.lo) / 2:=wrap64 (by omega) (by omega);rcases hv with ⟨s,rfl,rfl⟩|⟨id,rfl,sH,jD,hg⟩
       .have ho:=GI (F+9);have Am:=pR (k:=.i64) (f:=Box.cells) (sz:=4) (s:=s) aT;(repeat' first|simp [*,zb,Box.cells,Span.cells]|(apply za<;>intro _ h<;>try simp [-Nat.le_zero_eq] at h));exact ⟨rfl,by simp [zb],by simp [zb],by simp [zb],by simp [zb],by simp [zb],by simp [zb],by simp [zb],by simp [zb],(by repeat (first|exact Sm.refl _ _|refine Sm.alloc ?_|refine Sm.set ?_ (.inr (by first|omega|simp|(simp;omega))))),by simp,_,by simp;rfl⟩
       .have ho:=Fq (F+9);have uw:=zo hg;have uh:id≠H.nx:=by omega
        have CK:H.nx≠id:=by omega
        have l0:=zC (own:=true) (f:=Box.cells) (sz:=4) (l:=l) (i:=wi) (size:=1) (off:=0) (fun _=>rfl) aT (by decide);have l1:=zC (own:=true) (f:=Box.cells) (sz:=4) (l:=l) (i:=wi) (size:=1) (off:=1) (fun _=>rfl) aT (by decide);have l2:=zC (own:=true) (f:=Box.cells) (sz:=4) (l:=l) (i:=wi) (size:=1) (off:=2) (fun _=>rfl) aT (by decide);have l3:=zC (own:=true) (f:=Box.cells) (sz:=4) (l:=l) (i:=wi) (size:=1) (off:=3) (fun _=>rfl) aT (by decide);rw [Nat.add_zero] at l0;have e3':wi*4+2+1=wi*4+3:=rfl;(repeat' first|simp [*,zb,Box.cells,Span.cells]|(apply za<;>intro _ h<;>try simp [-Nat.le_zero_eq] at h));exact ⟨rfl,by simp [zb],by simp [zb],by simp [zb],by simp [zb],by simp [zb],by simp [zb],by simp [zb],by simp [zb],(by repeat (first|exact Sm.refl _ _|refine Sm.alloc ?_|refine Sm.set ?_ (.inr (by first|omega|simp|(simp;omega))))),by simp,_,by simp;rfl⟩
    .obtain ⟨rfl,e0,e1,e2,e3,e4,e5,e8,e10,Ag,bU,hbb,S9⟩:=hM;have OJ:=Dj.h.sm Ag;have hbse:=Dj.h.bs;have bC:=Ag.nx;have hoh:ob < h.nx:=by omega
     have hgh:gb < h.nx:=by omega
     have k2:=OJ.o;have k4:=OJ.gw;have X6:wm h ob bs v l:=hv.keep fun j h1 h2=>Ag.get j (by omega) (fun h=>h);have aT:=pK.h.il;have rz:=pK.h.al;have htO:pJ t:=by
      have h1:=pK.h.lo;have h2:=pK.h.hi;have xm:=aH.1 (bX _ (List.getElem_mem aT));unfold pJ;unfold bA at h1 h2
      by_cases e:ax=0
      .simp only [e,if_true] at h1 h2;omega
      .simp only [e,if_false] at h1 h2;omega
     have GK:Hide (∀ (H':Heap) (ab:Bool),(∀ j,j < bs->j≠ob->H'.get j=h.get j)->zG (zt G (F+10)) H' (.pure (.func 78 [])) [v,.pure (.int .i64 (i:Nat)),.pure (.int .i64 (ax:Nat)),.pure (.int .i64 t),.pure (.bool ab)]=some (.val (.pure ((Sl.mk false (GH l i ax t ab)).pv Box.cells 4)))):=⟨fun H' ab hk=>by
      obtain ⟨s2,sN,pF⟩:=(X6.keep hk).frz;have:=KH sh78 (.cons pF (.cons (.pure _) (.cons (.pure _) (.cons (.pure _) (.cons (.pure _) .nil))))) (e78 (F+8) s2 i ax t ab (by rw [sN];exact aT) rz (by rw [sN];omega) htO) (YY _);rw [sN] at this;exact this⟩
     have m1:=U4 pK.h;have m2:=U5 pK.h;obtain ⟨z1,z2,z3,z4⟩:=Yt (hw _ (List.getElem_mem aT)) pK.h.lo pK.h.hi;have q1:=(aR.refl l).set (i:=i) z3;have q2:=(aR.refl l).set (i:=i) z4;rw [List.set_getElem_self,<- He aT] at q1;rw [List.set_getElem_self,<- Hf aT] at q2;have j1:=hw.set (i:=i) z1;have j2:=hw.set (i:=i) z2;rw [<- He aT] at j1;rw [<- Hf aT] at j2;have hTe:T=⟨-1,i,ax,t⟩::(xk p g m (fM l i ax t)++xk p g m (pV l i ax t)):=ZC.h.symm;have hsz2:out.length+(1+((xk p g m (fM l i ax t)).length+(xk p g m (pV l i ax t)).length))<=30000000:=by
      rw [hTe] at fF;simp only [List.length_cons,List.length_append] at fF;omega
     have ih1:=Hide.mk fun (H:Heap) (V:AV) (out:List Node)=>ih H (fM l i ax t) V out (by omega) (q1.trans hs) j1;have ih2:=Hide.mk fun (H:Heap) (V:AV) (out:List Node)=>ih H (pV l i ax t) V out (by omega) (q2.trans hs) j2;have hTeH:=Hide.mk hTe;have cA:=Hide.mk fun (H':Heap)=>GK.h H' false;have cB:=Hide.mk fun (H':Heap)=>GK.h H' true;have ec1:GH l i ax t false=fM l i ax t:=rfl;have ec2:GH l i ax t true=pV l i ax t:=rfl;rw [ec1] at cA;rw [ec2] at cB;have uQ:=Hide.mk OJ;have IC:out.length < 30000000:=by omega
     clear ih m1 m2 z1 z2 z3 z4 q1 q2 j1 j2 ZC hTe OJ GK ec1 ec2 iG ZE mD bX Xb g1 g2 g3 g4 hS TF Na hW Dh fF hm hs hw hv;generalize xk p g m (fM l i ax t)=T1 at *;generalize xk p g m (pV l i ax t)=T2 at *;generalize fM l i ax t=L1 at *;generalize pV l i ax t=L2 at *;(repeat' first|simp [*,zb]|(apply za<;>intro _ h<;>try simp [-Nat.le_zero_eq] at h))
     refine Fp (f:=Node.cells) (sz:=4) (l:=out) ((uQ.h.gr).alloc _) (fun _=>rfl) (by decide) (fun _=>rfl) (by unfold zu;omega) ⟨⟨-1,i,ax,t⟩,by simp [Node.cells],?_⟩
     intro V4 H4 j5 xz;have hnob:¬ Names V ob:=fun hn=>by have:=uQ.h.sep ob hn;have:=hb.o;omega
     have hnnx:¬ Names V H.nx:=fun hn=>by have:=Dj.h.gr.1.names_lt hn;omega
     have r2:H4.get ob=.cells true [V]:=by rw [xz.get ob (by simp;omega) hnob,zi hoh];exact k2
     have r3:H4.get H.nx=.cells true [.pure (.int .i64 i),.pure (.int .i64 ax),.pure (.bool hbb)]:=by rw [xz.get H.nx (by simp;omega) hnnx,zi bU];exact S9
     have hn4:h.nx < H4.nx:=by have:=xz.nx;simp at this;omega
     have hon4:ob < H4.nx:=by omega
     have hxn4:H.nx < H4.nx:=by omega
     have uR:=zjS uQ.h j5 xz (Sm.alloc (Sm.refl _ _));have ZF:=uR.in hb uQ.h;have gg4:=ZF.gw;have c1:=cA.h (H4.set ob (.cells true [V4])) fun j h1 h2=>uR.same.get j (by omega) fun h3=>by
      rcases h3 with h3|h3
      .exact h2 h3
      .have:=uQ.h.sep j h3;omega
     have Xd:∀ id,Names V4 id->h.nx < id:=fun id hn=>by have:=xz.new id hn;simp at this;omega
     have Xe:=ih1.h _ V4 (out++[⟨-1,i,ax,t⟩]) (by simp;omega) ZF;have o4:=j5.1.one;have Tq:=o4.1;have Tt:=o4.2;have Gt:=Hide.mk uR;have Xf:=Hide.mk ZF;have Xg:=Hide.mk Xe;have OL:=Hide.mk Xd;rw [zg (by intro e;exact hb.go e)] at gg4;have ego:=hb.go;have hgn4:gb < H4.nx:=by omega
     clear j5 xz o4 uR ZF ih1 Xe Xd cA S9 k2 k4;(repeat' first|simp [*,zb]|(apply za<;>intro _ h<;>try simp [-Nat.le_zero_eq] at h))
     refine Da (n:=F+9) zlq (AU Xg.h ?_)
     rintro H5 ⟨V5,o5⟩;have gi5:=o5.in hb Xf.h;have s5:H5.get H.nx=.cells true [.pure (.int .i64 i),.pure (.int .i64 ax),.pure (.bool hbb)]:=by
      rw [o5.same.get H.nx (by rw [lM];exact hxn4) (fun hE=>by
       rcases hE with hE|hE
       .exact Xc hE
       .have:=OL.h _ hE;omega),zg Xc]
      exact r3
     have n5:=o5.same.nx;rw [lM] at n5;have hxn5:H.nx < H5.nx:=by omega
     have c2:=cB.h H5 fun j h1 h2=>(o5.same.get j (by rw [lM];omega) fun h3=>by
      rcases h3 with h3|h3
      .exact h2 h3
      .have:=OL.h j h3;omega).trans (Gt.h.same.get j (by omega) fun h3=>by
      rcases h3 with h3|h3
      .exact h2 h3
      .have:=uQ.h.sep j h3;omega)
     have gg5:=gi5.gw;have hgn5:gb < H5.nx:=by omega
     have Xh:=ih2.h _ V5 (out++[⟨-1,i,ax,t⟩]++T1) (by simp;omega) gi5;have Xi:=Hide.mk Xh;have Zl:=Hide.mk (Gt.h.trans o5);clear o5 gi5 ih2 Xh cB r2 r3 gg4 c1 Gt Xf Xg;(repeat' first|simp [*,zb]|(apply za<;>intro _ h<;>try simp [-Nat.le_zero_eq] at h))
     refine Da (n:=F+9) zlq (AU Xi.h ?_)
     rintro H6 ⟨V6,o6⟩;have hg6:=Hide.mk ((Zl.h.trans o6).pre Ag);clear o6 Zl Xi c2 s5 gg5;(repeat' first|simp [*,zb]|(apply za<;>intro _ h<;>try simp [-Nat.le_zero_eq] at h));exact ⟨V6,by have:=hg6.h;rw [hTeH.h];simpa [List.append_assoc] using this⟩
 obtain ⟨v',H',h1,rfl,h2⟩:=main;exact ⟨H',h1,h2⟩
theorem zj1 {p:Problem} {g:List Nat} (hp:JP p g) {mb ob pb gb bs:Nat} (hb:Xa mb ob pb gb bs) {M:AV}:∀ (m n:Nat) (H:Heap) (v:AV) (l:List Box) (V:AV) (out:List Node),iU l < m->aR l p.boxes.xs->Wf l->wm H ob bs v l->out.length+(xk p g m l).length<=30000000->uu p g mb ob pb gb bs M H V out ->
  ∃ H',Vm.call G (n+m+10) (.fn 73) ([v]++CP p mb ob pb gb) H=some (.aQ [],H')/\∃ V',lL ob H H' V V' (out++xk p g m l)
 | 0,n,H,v,l,V,out,hm,_,_,_,_,_=>absurd hm (Nat.not_lt_zero _)
 | m+1,n,H,v,l,V,out,hm,hs,hw,hv,hl,hi =>
  zpC hp (m:=m) (F:=n+m) hb (fun H l V out hm hs hw hl hi=>zj1 hp hb m n H _ l V out hm hs hw (.inl ⟨_,rfl,rfl⟩) hl hi) H v l V out hm hs hw hv hl hi
end Go.Proofs.YtmmhnfghklppiaaGreat.Vm
