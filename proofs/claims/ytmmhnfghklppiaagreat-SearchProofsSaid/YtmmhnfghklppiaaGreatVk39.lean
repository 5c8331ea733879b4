/- search.refute's closure grow: the tree of a part, walked. -/
import Derived.Test.YtmmhnfghklppiaaGreatVk38
import Derived.Test.YtmmhnfghklppiaaGreatVk26
import Derived.Test.YtmmhnfghklppiaaGreatVk29
import Derived.Test.YtmmhnfghklppiaaGreatVk28
import Derived.Test.YtmmhnfghklppiaaGreatVk24
namespace Go.Proofs.YtmmhnfghklppiaaGreat.Vm
open Go
set_option linter.unusedSimpArgs false
set_option linter.unusedVariables false
set_option maxHeartbeats 8000000
set_option maxRecDepth 4000
theorem zkD:G.shared 73=true:=by decide
def xL (p:Problem) (mb ob pb gb:Nat):List AV:=[.pure (.ptr false p.cells 0),.box mb 0,.box ob 0,.box pb 0,.box gb 0]
structure qM (p:Problem) (g:List Nat) (mb ob pb gb bs:Nat) (M:AV) (H:Heap) (V:AV) (out:List Node):Prop where
 m:H.get mb=.cells true [M]
 mo:aZ aD 1 H M (FM p.facts.xs g)
 o:H.get ob=.cells true [V]
 gr:aC Node.cells 4 H V out
 pt:H.get pb=.cells true [.pure (lM g)]
 gw:H.get gb=.cells true [.func 73 (xL p mb ob pb gb)]
 mlo:∀ id,Names M id->id < bs/\id≠ob
 sep:∀ id,Names V id->bs<=id
 bs:bs<=H.nx
structure SF (mb ob pb gb bs:Nat):Prop where
 m:mb < bs
 o:ob < bs
 p:pb < bs
 g:gb < bs
 mo:mb≠ob
 po:pb≠ob
 go:gb≠ob
structure jG (ob:Nat) (H H':Heap) (V V':AV) (out:List Node):Prop where
 same:Sm (fun j=>j=ob\/Names V j) H H'
 at_:H'.get ob=.cells true [V']
 gr:aC Node.cells 4 H' V' out
 new:∀ id,Names V' id->Names V id\/H.nx<=id
theorem jG.trans {ob:Nat} {H H1 H2:Heap} {V V1 V2:AV} {o1 o2:List Node} (h:jG ob H H1 V V1 o1) (h':jG ob H1 H2 V1 V2 o2):jG ob H H2 V V2 o2 :=
 ⟨h.same.trans h'.same fun j hj hn=>by
  rcases hn with hn|hn
  .exact .inl hn
  .rcases h.new j hn with h1|h1
   .exact .inr h1
   .omega,h'.at_,h'.gr,fun id hn=>by
  rcases h'.new id hn with h1|h1
  .exact h.new id h1
  .exact .inr (by have:=h.same.nx;omega)⟩
theorem jG.in {p:Problem} {g:List Nat} {mb ob pb gb bs:Nat} {M V V':AV} {H H':Heap} {o1 o2:List Node} (hb:SF mb ob pb gb bs) (h:qM p g mb ob pb gb bs M H V o1) (h':jG ob H H' V V' o2):qM p g mb ob pb gb bs M H' V' o2:=by
 have key:∀ j,j < bs->j≠ob->H'.get j=H.get j:=fun j h1 h2=>h'.same.get j (by have:=h.bs;omega) fun h3=>by
  rcases h3 with h3|h3
  .exact h2 h3
  .have:=h.sep j h3;omega
 exact ⟨by rw [key mb hb.m hb.mo];exact h.m,h.mo.keep fun id ⟨n,hn⟩=>by
   have:=h.mlo id ⟨_,_,_,hn⟩;exact key id this.1 this.2,h'.at_,h'.gr,by rw [key pb hb.p hb.po];exact h.pt,by rw [key gb hb.g hb.go];exact h.gw,h.mlo,fun id hn=>by
   rcases h'.new id hn with h1|h1
   .exact h.sep id h1
   .have:=h.bs;omega,by have:=h.bs;have:=h'.same.nx;omega⟩
def sD (H:Heap) (ob bs:Nat) (v:AV) (l:List Box):Prop:=(∃ s:Sl Box,s.xs=l/\v=.pure (s.pv Box.cells 4))\/∃ id,v=.row id 4 0 l.length/\id≠ob/\id < bs/\H.get id=.cells true (zm Box.cells l)
theorem sD.frz {H:Heap} {ob bs:Nat} {v:AV} {l:List Box} (h:sD H ob bs v l):∃ s:Sl Box,s.xs=l/\FrzK H true 12 v (s.pv Box.cells 4):=by
 rcases h with ⟨s,h1,rfl⟩|⟨id,rfl,_,_,hg⟩
 .exact ⟨s,h1,.pure _⟩
 .exact Gs (n:=10) (f:=Box.cells) (sz:=4) (fun _=>rfl) hg rfl
theorem sD.keep {H H':Heap} {ob bs:Nat} {v:AV} {l:List Box} (h:sD H ob bs v l) (hk:∀ j,j < bs->j≠ob->H'.get j=H.get j):sD H' ob bs v l:=by
 rcases h with h|⟨id,h1,h2,h3,hg⟩
 .exact .inl h
 .exact .inr ⟨id,h1,h2,h3,(hk id h3 h2).trans hg⟩
structure FV (p:Problem) (g:List Nat):Prop where
 ok:af p
 ne:g≠[]
 lt:∀ i∈g,i < p.boxes.xs.length
 few:g.length<=12
theorem zjF {p:Problem} {g:List Nat} {mb ob pb gb bs:Nat} {M V V4:AV} {H Hs H4:Heap} {out:List Node} {a:Node} (hi:qM p g mb ob pb gb bs M H V out) (l6:aC Node.cells 4 H4 V4 (out++[a])) (ha:After V Hs V4 H4) (hs:Sm (fun _=>False) H Hs):jG ob H (H4.set ob (.cells true [V4])) V V4 (out++[a]):=by
 have DL:=zu hi.o;have h1:=hs.nx;have h2:=ha.nx;exact ⟨Sm.set (Sm.trans (hs.mono fun _ _ h=>h.elim) (⟨ha.nx,ha.get⟩:Sm (Names V) Hs H4) fun j _ h=>.inr h) (.inl (.inl rfl)),zo (by omega),l6.set (fun hn=>by have:=ha.new ob hn;omega) _,fun id hn=>.inr (by have:=ha.new id hn;omega)⟩
theorem qM.sm {p:Problem} {g:List Nat} {mb ob pb gb bs:Nat} {M V:AV} {H h:Heap} {out:List Node} (hi:qM p g mb ob pb gb bs M H V out) (hs:Sm (fun _=>False) H h):qM p g mb ob pb gb bs M h V out:=by
 have key:∀ j,j < H.nx->h.get j=H.get j:=fun j h1=>hs.get j h1 (fun h=>h);exact ⟨by rw [key mb (zu hi.m)];exact hi.m,hi.mo.keep fun id ⟨n,hn⟩=>key id (hi.mo.names_lt ⟨_,_,_,hn⟩),by rw [key ob (zu hi.o)];exact hi.o,⟨hi.gr.1.keep fun id ⟨n,hn⟩=>key id (hi.gr.1.names_lt ⟨_,_,_,hn⟩),hi.gr.2⟩,by rw [key pb (zu hi.pt)];exact hi.pt,by rw [key gb (zu hi.gw)];exact hi.gw,hi.mlo,hi.sep,by have:=hi.bs;have:=hs.nx;omega⟩
theorem jG.pre {ob:Nat} {H h H':Heap} {V V':AV} {o:List Node} (hs:Sm (fun _=>False) H h) (h':jG ob h H' V V' o):jG ob H H' V V' o :=
 ⟨(hs.mono fun _ _ h=>h.elim).trans h'.same fun _ _ h=>h,h'.at_,h'.gr,fun id hn=>by
  rcases h'.new id hn with h1|h1
  .exact .inl h1
  .exact .inr (by have:=hs.nx;omega)⟩
theorem Vj {p:Problem} {g:List Nat} {mb ob pb gb bs:Nat} {M V:AV} {H h:Heap} {out:List Node} (hi:qM p g mb ob pb gb bs M H V out) (hs:Sm (fun _=>False) H h):jG ob H h V V out :=
 ⟨hs.mono fun _ _ h=>h.elim,(hi.sm hs).o,(hi.sm hs).gr,fun _ h=>.inl h⟩
theorem ziW {p:Problem} {g:List Nat} {l:List Box} {i ax:Nat} {t:Int} (hw:Wf l) (hg:∀ i∈g,i < l.length) (bL:g≠[]) (h:x9 (Dl p.facts.xs g) (vC g) l=some (i,ax,t)):iU l i ax t:=by
 unfold x9 at h
 cases hS:Dl p.facts.xs g l with
 | some s =>
  obtain ⟨a,k⟩:=s;rw [hS] at h;simp only [Option.some.injEq,Prod.mk.injEq] at h;obtain ⟨rfl,rfl,rfl⟩:=h;have hm:=mZ.1 (List.mem_of_find?_eq_some hS);have hb:=List.find?_some hS;have aU:a < l.length:=hg a hm.1;simp only [I1,Bool.and_eq_true,decide_eq_true_eq] at hb;have hk:=hm.2;simp only at hk;have h1:=hb.1;rw [getElem!_pos l a aU] at h1 ⊢
  refine ⟨aU,by omega,?_,?_⟩
  .split<;>omega
  .split<;>omega
 | none =>
  rw [hS] at h;simp only at h
  split at h
  .simp at h
  .rename_i GN;simp only [Option.some.injEq,Prod.mk.injEq] at h;obtain ⟨rfl,rfl,rfl⟩:=h;obtain ⟨w1,w2,_⟩:=ZU bL hw hg;have aU:=hg _ w1;have Vk:=hw _ (List.getElem_mem aU);rw [getElem!_pos l _ aU] at GN ⊢;have hle:(bK l[(vC g l).1] (vC g l).2).lo<=(bK l[(vC g l).1] (vC g l).2).hi:=by
    unfold jq at Vk;unfold bK
    split<;>omega
   exact ⟨aU,w2,by omega,by omega⟩
theorem zqz {cl:Callee} {b:Bool} {A B:aP} {env:Env} {H:Heap} {Q Mid:bW->Env->Heap->Prop} {u} (hA:b=true->wp cl A env H Mid .mk) (hB:b=false->wp cl B env H Mid .mk) (hR:∀ x e h,Mid x e h->Q x e h):nR b (wp cl A env H Q .mk) (wp cl B env H Q .mk) u:=by
 cases b with
 | true=>exact (zo0).2 ((hA rfl).mono hR)
 | false=>exact (zhD).2 ((hB rfl).mono hR)
def GMid (p:Problem) (H:Heap) (v:AV) (mb ob pb gb i ax:Nat) (t:Int) (x:bW) (e:Env) (h:Heap):Prop:=x=.normal/\e 0=v/\e 1=.pure (.ptr false p.cells 0)/\e 2=.box mb 0/\e 3=.box ob 0/\e 4=.box pb 0/\e 5=.box gb 0/\e 8=.box H.nx 0/\e 10=.pure (.int .i64 t)/\Sm (fun _=>False) H h/\H.nx < h.nx/\∃ hb,h.get H.nx=.cells true [.pure (.int .i64 i),.pure (.int .i64 ax),.pure (.bool hb)]
theorem zph {p:Problem} {g:List Nat} (hp:FV p g) {mb ob pb gb bs m F:Nat} (hb:SF mb ob pb gb bs) {M:AV}
  (ih:∀ (H:Heap) (l:List Box) (V:AV) (out:List Node),fU l < m->aL l p.boxes.xs->Wf l->out.length+(sP p g m l).length<=200000000000->qM p g mb ob pb gb bs M H V out ->
   ∃ H',Vm.call G (F+10) (.fn 73) ([.pure ((Sl.mk false l).pv Box.cells 4)]++xL p mb ob pb gb) H=some (.aM [],H')/\∃ V',jG ob H H' V V' (out++sP p g m l))
  (H:Heap) (v:AV) (l:List Box) (V:AV) (out:List Node) (hm:fU l < m+1) (hs:aL l p.boxes.xs) (hw:Wf l) (hv:sD H ob bs v l) (fE:out.length+(sP p g (m+1) l).length<=200000000000) (hi:qM p g mb ob pb gb bs M H V out) :
  ∃ H',Vm.call G (F+10+1) (.fn 73) ([v]++xL p mb ob pb gb) H=some (.aM [],H')/\∃ V',jG ob H H' V V' (out++sP p g (m+1) l):=by
 have ok:=hp.ok;have nb:=ok.nb;have nf:=ok.nf;have Ed:l.length=p.boxes.xs.length:=hs.1;have Ea:v.cells=[v]/\v.one=true:=by
  rcases hv with ⟨s,_,rfl⟩|⟨id,rfl,_⟩
  .exact ⟨by simp,by simp⟩
  .exact ⟨rfl,rfl⟩
 have NP:=Ea.1;have fQ:=Ea.2;have vR:=hi.gr.1.one;have IX:=vR.1;have IY:=vR.2;have hMo:=hi.mo.one;have hMo1:=hMo.1;have hMo2:=hMo.2;have hmn:=zu hi.m;have DL:=zu hi.o;have hpn:=zu hi.pt;have DK:=zu hi.gw;have g1:=hi.m;have g2:=hi.o;have g3:=hi.pt;have g4:=hi.gw;obtain ⟨sl,Be,FW⟩:=hv.frz;obtain ⟨sm,Nk,Jd⟩:=Q3 (f:=aD) (sz:=1) (n:=10) (fun _=>rfl) hi.mo;have hmi:rY p.facts.xs sm.xs:=by rw [Nk];exact ZR _ _
 have sK:sm.xs.length < 1000:=by rw [Nk];have:=zoP p.facts.xs g;omega
 have vk:zD (zn G (F+10)) H (.pure (.func 74 [])) [.pure (p.facts.pv Fact.cells 9),M,v]=some (.val (.pure (.int .i64 (bR p.facts.xs l (FM p.facts.xs g))))):=by
  have:=GL sh74 (.cons (.pure _) (.cons Jd (.cons FW .nil))) (e74 (F+4) p.facts sm sl hmi sK (fun f hf=>OE ok (by rw [Be];exact hs) (by rw [Be];exact hw) hf)) rfl;rw [Be,Nk] at this;exact this
 have main:∃ v' H',Vm.call G (F+10+1) (.fn 73) ([v]++xL p mb ob pb gb) H=some (v',H')/\(v'=.aM []/\∃ V',jG ob H H' V V' (out++sP p g (m+1) l)):=by
  refine Gq rfl g73 rfl ?_
  generalize hT:sP p g (m+1) l=T at *;unfold sP Ib at hT
  by_cases h0:0<=bR p.facts.xs l (FM p.facts.xs g)
  .rw [if_pos h0] at hT;generalize bR p.facts.xs l (FM p.facts.xs g)=B at *;have Jv:out.length < 200000000000:=by rw [<- hT] at fE;simp at fE;omega
   have Dx:=Hide.mk hi;have Vl:=Hide.mk hT;clear ih hT FW Jd hi;(repeat' first|simp [*,za,c73,xL,Problem.cells]|(apply zb<;>intro _ h<;>try simp [-Nat.le_zero_eq] at h))
   refine EY (f:=Node.cells) (sz:=4) (l:=out) ((Dx.h.gr).alloc _) (fun _=>rfl) (by decide) (fun _=>rfl) (by unfold zl;omega) ⟨⟨B,0,0,0⟩,by simp [Node.cells],?_⟩
   intro V4 H4 l6 tY;have k2:H4.get ob=.cells true [V]:=by rw [tY.get ob (by simp;omega) (fun hn=>by have:=Dx.h.sep ob hn;have:=hb.o;omega),ze DL];exact g2
   have hon4:ob < H4.nx:=by have:=tY.nx;simp at this;omega
   have qX:=Hide.mk (zjF Dx.h l6 tY (Sm.alloc (Sm.refl _ _)));have o4:=l6.1.one;have KD:=o4.1;have KE:=o4.2;rw [Vl.h] at qX;clear l6 tY o4 Dx hv vk;(repeat' first|simp [*,za]|(apply zb<;>intro _ h<;>try simp [-Nat.le_zero_eq] at h));exact ⟨_,qX.h⟩
  .rw [if_neg h0] at hT;generalize bR p.facts.xs l (FM p.facts.xs g)=B at *;have hnat:l.length<=12:=by omega
   have mF:∀ i∈g,i < l.length:=fun i hi=>by rw [Ed];exact hp.lt i hi
   have iN:zD (zn G (F+10)) H (.pure (.func 75 [])) [.pure (.agg p.cells),v,.pure (lM g)]=some (.val (.pure (.aM [.agg (I6 (Dl p.facts.xs g l)).cells,.bool (Dl p.facts.xs g l).isSome]))):=by
    have:=GL sh75 (.cons (.pure _) (.cons FW (.cons (.pure _) .nil))) (e75 (F+3) p ok sl g (by rw [Be];exact hs) (by rw [Be];exact hw) (by rw [Be];exact mF) hp.few) rfl;rw [Be] at this;exact this
   have bI:=Iu ok hs hw;have SG:∀ b∈l,I4 b:=fun b jf=>by
    have:=aJ.1 (bI b jf);unfold I4 vD;omega
   have Vn:∀ o o',zD (zn G (F+10)) ((H.alloc o).set H.nx o') (.pure (.func 77 [])) [v,.pure (lM g)]=some (.val (.pure (.aM [.int .i64 ((vC g l).1:Nat),.int .i64 ((vC g l).2:Nat)]))):=fun o o'=>by
    obtain ⟨s2,wK,J7⟩:=(hv.keep (H':=(H.alloc o).set H.nx o') fun j h1 h2=>by
     have:=hi.bs;rw [zh (by omega),ze (by omega)]).frz
    have:=GL sh77 (.cons J7 (.cons (.pure _) .nil)) (e77 (F+8) s2 g (by rw [wK];exact mF) hp.ne (by rw [wK];exact SG) hp.few) rfl;rw [wK] at this;exact this
   obtain ⟨S,hS⟩:∃ S,Dl p.facts.xs g l=S:=⟨_,rfl⟩
   obtain ⟨⟨wi,wk⟩,hW⟩:∃ w,vC g l=w:=⟨_,rfl⟩
   obtain ⟨w1,w2,_⟩:=ZU hp.ne hw mF;rw [hW] at w1 w2 Vn;simp only at w1 w2 Vn;have oq:=mF _ w1;rw [hS] at iN;have I9:pb≠H.nx:=by omega
   have hwo:ob≠H.nx:=by omega
   have hwg:gb≠H.nx:=by omega
   have QL:mb≠H.nx:=by omega
   have SH:H.nx≠ob:=by omega
   cases nK:x9 (Dl p.facts.xs g) (vC g) l with
   | none =>
    cases S with
    | some sk =>
     unfold x9 at nK;rw [hS] at nK;simp at nK
    | none =>
     rw [nK] at hT;unfold x9 at nK;rw [hS] at nK;simp only at nK;rw [hW] at nK;simp only at nK;have aU:wi < l.length:=oq;rw [getElem!_pos l wi aU] at nK
     by_cases GN:(bK l[wi] wk).lo=(bK l[wi] wk).hi
     case neg=>rw [if_neg GN] at nK;simp at nK
     simp only at hT;have Dx:=Hide.mk hi;have Dr:=aJ.1 (bI _ (List.getElem_mem aU));have qg:wk=0\/wk=1:=by omega
     simp only [I6,Side.cells,Option.isSome_none,Problem.cells] at iN;subst hT;clear nK hS bI SG w1 w2 oq Ed hi FW Jd ih hW;rcases qg with rfl|rfl
     .simp only [bK,if_true,if_false,Nat.one_ne_zero] at GN;rcases hv with ⟨s,rfl,rfl⟩|⟨id,rfl,rP,jJ,hg⟩
      .have ho:=Ec (F+9);have vF:=vM (k:=.i64) (f:=Box.cells) (sz:=4) (s:=s) aU;(repeat' first|simp [*,za,c73,xL,Problem.cells,Side.cells,Box.cells,Span.cells]|(apply zb<;>intro _ h<;>try simp [-Nat.le_zero_eq] at h));exact ⟨V,Vj Dx.h (by repeat (first|exact Sm.refl _ _|refine Sm.alloc ?_|refine Sm.set ?_ (.inr (by first|omega|simp|(simp;omega)))))⟩
      .have ho:=CY (F+9);have qO:=zu hg;have qy:id≠H.nx:=by omega
       have Bf:H.nx≠id:=by omega
       have l0:=zz (own:=true) (f:=Box.cells) (sz:=4) (l:=l) (i:=wi) (size:=1) (off:=0) (fun _=>rfl) aU (by decide);have l1:=zz (own:=true) (f:=Box.cells) (sz:=4) (l:=l) (i:=wi) (size:=1) (off:=1) (fun _=>rfl) aU (by decide);have l2:=zz (own:=true) (f:=Box.cells) (sz:=4) (l:=l) (i:=wi) (size:=1) (off:=2) (fun _=>rfl) aU (by decide);have l3:=zz (own:=true) (f:=Box.cells) (sz:=4) (l:=l) (i:=wi) (size:=1) (off:=3) (fun _=>rfl) aU (by decide);rw [Nat.add_zero] at l0;have e3':wi*4+2+1=wi*4+3:=rfl;(repeat' first|simp [*,za,c73,xL,Problem.cells,Side.cells,Box.cells,Span.cells]|(apply zb<;>intro _ h<;>try simp [-Nat.le_zero_eq] at h));exact ⟨V,Vj Dx.h (by repeat (first|exact Sm.refl _ _|refine Sm.alloc ?_|refine Sm.set ?_ (.inr (by first|omega|simp|(simp;omega)))))⟩
     .simp only [bK,if_true,if_false,Nat.one_ne_zero] at GN;rcases hv with ⟨s,rfl,rfl⟩|⟨id,rfl,rP,jJ,hg⟩
      .have ho:=Ec (F+9);have vF:=vM (k:=.i64) (f:=Box.cells) (sz:=4) (s:=s) aU;(repeat' first|simp [*,za,c73,xL,Problem.cells,Side.cells,Box.cells,Span.cells]|(apply zb<;>intro _ h<;>try simp [-Nat.le_zero_eq] at h));exact ⟨V,Vj Dx.h (by repeat (first|exact Sm.refl _ _|refine Sm.alloc ?_|refine Sm.set ?_ (.inr (by first|omega|simp|(simp;omega)))))⟩
      .have ho:=CY (F+9);have qO:=zu hg;have qy:id≠H.nx:=by omega
       have Bf:H.nx≠id:=by omega
       have l0:=zz (own:=true) (f:=Box.cells) (sz:=4) (l:=l) (i:=wi) (size:=1) (off:=0) (fun _=>rfl) aU (by decide);have l1:=zz (own:=true) (f:=Box.cells) (sz:=4) (l:=l) (i:=wi) (size:=1) (off:=1) (fun _=>rfl) aU (by decide);have l2:=zz (own:=true) (f:=Box.cells) (sz:=4) (l:=l) (i:=wi) (size:=1) (off:=2) (fun _=>rfl) aU (by decide);have l3:=zz (own:=true) (f:=Box.cells) (sz:=4) (l:=l) (i:=wi) (size:=1) (off:=3) (fun _=>rfl) aU (by decide);rw [Nat.add_zero] at l0;have e3':wi*4+2+1=wi*4+3:=rfl;(repeat' first|simp [*,za,c73,xL,Problem.cells,Side.cells,Box.cells,Span.cells]|(apply zb<;>intro _ h<;>try simp [-Nat.le_zero_eq] at h));exact ⟨V,Vj Dx.h (by repeat (first|exact Sm.refl _ _|refine Sm.alloc ?_|refine Sm.set ?_ (.inr (by first|omega|simp|(simp;omega)))))⟩
   | some c =>
    obtain ⟨i,ax,t⟩:=c;have Ov:=ziW hw mF hp.ne nK;rw [nK] at hT;simp only at hT;have IU:∃ b' s1 s2 s3,S.isSome=b'/\I6 S=⟨s1,s2,s3⟩:=⟨_,_,_,_,rfl,rfl⟩
    obtain ⟨bS,s1,s2,s3,OX,OY⟩:=IU;rw [OX,OY] at iN;simp only [Problem.cells,Side.cells] at iN;have Vl:=Hide.mk hT;have Je:=Hide.mk nK;have Dx:=Hide.mk hi;have KO:=Hide.mk Ov;clear hT hi Ov nK FW Jd;simp [-Nat.le_zero_eq, *,za,c73,xL,Problem.cells,Side.cells]
    refine zqz (Mid:=GMid p H v mb ob pb gb i ax t) (fun wD=>?_) (fun uV=>?_) fun x e h hM=>?_
    .subst wD
     cases S with
     | none=>simp at OX
     | some sk =>
      obtain ⟨a,k⟩:=sk;have hc:=Je.h;unfold x9 at hc;rw [hS] at hc;simp only [Option.some.injEq,Prod.mk.injEq] at hc;obtain ⟨c1,c2,c3⟩:=hc;have hm:=mZ.1 (List.mem_of_find?_eq_some hS);have aU:a < l.length:=mF a hm.1;rw [getElem!_pos l a aU] at c3;have Dr:=aJ.1 (bI _ (List.getElem_mem aU));simp only [I6,BR,Side.mk.injEq] at OY;obtain ⟨d1,d2,d3⟩:=OY;have uz:k=0\/k=1\/k=2\/k=3:=by have:=hm.2;simp only at this;omega
      clear hS OX bI SG Vn hW w1 w2 oq hm Je Ed;subst c1;rcases uz with rfl|rfl|rfl|rfl
      .simp [bK] at c2 c3 d2 d3;subst c2 c3 d1 d2 d3;rcases hv with ⟨s,rfl,rfl⟩|⟨id,rfl,rP,jJ,hg⟩
       .have ho:=Ec (F+9);have vF:=vM (k:=.i64) (f:=Box.cells) (sz:=4) (s:=s) aU;(repeat' first|simp [*,za,Box.cells,Span.cells]|(apply zb<;>intro _ h<;>try simp [-Nat.le_zero_eq] at h));exact ⟨rfl,by simp [za],by simp [za],by simp [za],by simp [za],by simp [za],by simp [za],by simp [za],by simp [za],(by repeat (first|exact Sm.refl _ _|refine Sm.alloc ?_|refine Sm.set ?_ (.inr (by first|omega|simp|(simp;omega))))),by simp,_,by simp;rfl⟩
       .have ho:=CY (F+9);have qO:=zu hg;have qy:id≠H.nx:=by omega
        have Bf:H.nx≠id:=by omega
        have l0:=zz (own:=true) (f:=Box.cells) (sz:=4) (l:=l) (i:=a) (size:=1) (off:=0) (fun _=>rfl) aU (by decide);have l1:=zz (own:=true) (f:=Box.cells) (sz:=4) (l:=l) (i:=a) (size:=1) (off:=1) (fun _=>rfl) aU (by decide);have l2:=zz (own:=true) (f:=Box.cells) (sz:=4) (l:=l) (i:=a) (size:=1) (off:=2) (fun _=>rfl) aU (by decide);have l3:=zz (own:=true) (f:=Box.cells) (sz:=4) (l:=l) (i:=a) (size:=1) (off:=3) (fun _=>rfl) aU (by decide);rw [Nat.add_zero] at l0;have e3':a*4+2+1=a*4+3:=rfl;(repeat' first|simp [*,za,Box.cells,Span.cells]|(apply zb<;>intro _ h<;>try simp [-Nat.le_zero_eq] at h));exact ⟨rfl,by simp [za],by simp [za],by simp [za],by simp [za],by simp [za],by simp [za],by simp [za],by simp [za],(by repeat (first|exact Sm.refl _ _|refine Sm.alloc ?_|refine Sm.set ?_ (.inr (by first|omega|simp|(simp;omega))))),by simp,_,by simp;rfl⟩
      .simp [bK] at c2 c3 d2 d3;subst c2 c3 d1 d2 d3;have w1:IntKind.i64.wrap (l[a].x.hi - 1)=l[a].x.hi - 1:=wrap64 (by omega) (by omega);rcases hv with ⟨s,rfl,rfl⟩|⟨id,rfl,rP,jJ,hg⟩
       .have ho:=Ec (F+9);have vF:=vM (k:=.i64) (f:=Box.cells) (sz:=4) (s:=s) aU;(repeat' first|simp [*,za,Box.cells,Span.cells]|(apply zb<;>intro _ h<;>try simp [-Nat.le_zero_eq] at h));exact ⟨rfl,by simp [za],by simp [za],by simp [za],by simp [za],by simp [za],by simp [za],by simp [za],by simp [za],(by repeat (first|exact Sm.refl _ _|refine Sm.alloc ?_|refine Sm.set ?_ (.inr (by first|omega|simp|(simp;omega))))),by simp,_,by simp;rfl⟩
       .have ho:=CY (F+9);have qO:=zu hg;have qy:id≠H.nx:=by omega
        have Bf:H.nx≠id:=by omega
        have l0:=zz (own:=true) (f:=Box.cells) (sz:=4) (l:=l) (i:=a) (size:=1) (off:=0) (fun _=>rfl) aU (by decide);have l1:=zz (own:=true) (f:=Box.cells) (sz:=4) (l:=l) (i:=a) (size:=1) (off:=1) (fun _=>rfl) aU (by decide);have l2:=zz (own:=true) (f:=Box.cells) (sz:=4) (l:=l) (i:=a) (size:=1) (off:=2) (fun _=>rfl) aU (by decide);have l3:=zz (own:=true) (f:=Box.cells) (sz:=4) (l:=l) (i:=a) (size:=1) (off:=3) (fun _=>rfl) aU (by decide);rw [Nat.add_zero] at l0;have e3':a*4+2+1=a*4+3:=rfl;(repeat' first|simp [*,za,Box.cells,Span.cells]|(apply zb<;>intro _ h<;>try simp [-Nat.le_zero_eq] at h));exact ⟨rfl,by simp [za],by simp [za],by simp [za],by simp [za],by simp [za],by simp [za],by simp [za],by simp [za],(by repeat (first|exact Sm.refl _ _|refine Sm.alloc ?_|refine Sm.set ?_ (.inr (by first|omega|simp|(simp;omega))))),by simp,_,by simp;rfl⟩
      .simp [bK] at c2 c3 d2 d3;subst c2 c3 d1 d2 d3;rcases hv with ⟨s,rfl,rfl⟩|⟨id,rfl,rP,jJ,hg⟩
       .have ho:=Ec (F+9);have vF:=vM (k:=.i64) (f:=Box.cells) (sz:=4) (s:=s) aU;(repeat' first|simp [*,za,Box.cells,Span.cells]|(apply zb<;>intro _ h<;>try simp [-Nat.le_zero_eq] at h));exact ⟨rfl,by simp [za],by simp [za],by simp [za],by simp [za],by simp [za],by simp [za],by simp [za],by simp [za],(by repeat (first|exact Sm.refl _ _|refine Sm.alloc ?_|refine Sm.set ?_ (.inr (by first|omega|simp|(simp;omega))))),by simp,_,by simp;rfl⟩
       .have ho:=CY (F+9);have qO:=zu hg;have qy:id≠H.nx:=by omega
        have Bf:H.nx≠id:=by omega
        have l0:=zz (own:=true) (f:=Box.cells) (sz:=4) (l:=l) (i:=a) (size:=1) (off:=0) (fun _=>rfl) aU (by decide);have l1:=zz (own:=true) (f:=Box.cells) (sz:=4) (l:=l) (i:=a) (size:=1) (off:=1) (fun _=>rfl) aU (by decide);have l2:=zz (own:=true) (f:=Box.cells) (sz:=4) (l:=l) (i:=a) (size:=1) (off:=2) (fun _=>rfl) aU (by decide);have l3:=zz (own:=true) (f:=Box.cells) (sz:=4) (l:=l) (i:=a) (size:=1) (off:=3) (fun _=>rfl) aU (by decide);rw [Nat.add_zero] at l0;have e3':a*4+2+1=a*4+3:=rfl;(repeat' first|simp [*,za,Box.cells,Span.cells]|(apply zb<;>intro _ h<;>try simp [-Nat.le_zero_eq] at h));exact ⟨rfl,by simp [za],by simp [za],by simp [za],by simp [za],by simp [za],by simp [za],by simp [za],by simp [za],(by repeat (first|exact Sm.refl _ _|refine Sm.alloc ?_|refine Sm.set ?_ (.inr (by first|omega|simp|(simp;omega))))),by simp,_,by simp;rfl⟩
      .simp [bK] at c2 c3 d2 d3;subst c2 c3 d1 d2 d3;have w1:IntKind.i64.wrap (l[a].y.hi - 1)=l[a].y.hi - 1:=wrap64 (by omega) (by omega);rcases hv with ⟨s,rfl,rfl⟩|⟨id,rfl,rP,jJ,hg⟩
       .have ho:=Ec (F+9);have vF:=vM (k:=.i64) (f:=Box.cells) (sz:=4) (s:=s) aU;(repeat' first|simp [*,za,Box.cells,Span.cells]|(apply zb<;>intro _ h<;>try simp [-Nat.le_zero_eq] at h));exact ⟨rfl,by simp [za],by simp [za],by simp [za],by simp [za],by simp [za],by simp [za],by simp [za],by simp [za],(by repeat (first|exact Sm.refl _ _|refine Sm.alloc ?_|refine Sm.set ?_ (.inr (by first|omega|simp|(simp;omega))))),by simp,_,by simp;rfl⟩
       .have ho:=CY (F+9);have qO:=zu hg;have qy:id≠H.nx:=by omega
        have Bf:H.nx≠id:=by omega
        have l0:=zz (own:=true) (f:=Box.cells) (sz:=4) (l:=l) (i:=a) (size:=1) (off:=0) (fun _=>rfl) aU (by decide);have l1:=zz (own:=true) (f:=Box.cells) (sz:=4) (l:=l) (i:=a) (size:=1) (off:=1) (fun _=>rfl) aU (by decide);have l2:=zz (own:=true) (f:=Box.cells) (sz:=4) (l:=l) (i:=a) (size:=1) (off:=2) (fun _=>rfl) aU (by decide);have l3:=zz (own:=true) (f:=Box.cells) (sz:=4) (l:=l) (i:=a) (size:=1) (off:=3) (fun _=>rfl) aU (by decide);rw [Nat.add_zero] at l0;have e3':a*4+2+1=a*4+3:=rfl;(repeat' first|simp [*,za,Box.cells,Span.cells]|(apply zb<;>intro _ h<;>try simp [-Nat.le_zero_eq] at h));exact ⟨rfl,by simp [za],by simp [za],by simp [za],by simp [za],by simp [za],by simp [za],by simp [za],by simp [za],(by repeat (first|exact Sm.refl _ _|refine Sm.alloc ?_|refine Sm.set ?_ (.inr (by first|omega|simp|(simp;omega))))),by simp,_,by simp;rfl⟩
    .subst uV
     cases S with
     | some sk=>simp at OX
     | none =>
      have hc:=Je.h;unfold x9 at hc;rw [hS] at hc;simp only at hc;rw [hW] at hc;simp only at hc;have aU:wi < l.length:=oq;rw [getElem!_pos l wi aU] at hc
      by_cases GN:(bK l[wi] wk).lo=(bK l[wi] wk).hi
      .rw [if_pos GN] at hc;simp at hc
      rw [if_neg GN] at hc;simp only [Option.some.injEq,Prod.mk.injEq] at hc;obtain ⟨c1,c2,c3⟩:=hc;have Dr:=aJ.1 (bI _ (List.getElem_mem aU));simp only [I6,Side.mk.injEq] at OY;obtain ⟨d1,d2,d3⟩:=OY;have qg:wk=0\/wk=1:=by omega
      clear hS OX bI SG w1 w2 Je oq Ed;subst c1 d1 d2 d3;rcases qg with rfl|rfl
      .simp only [bK,if_true,if_false,Nat.one_ne_zero] at c3 GN;subst c2 c3;have q1:Int.tdiv (l[wi].x.hi - l[wi].x.lo) 2=(l[wi].x.hi - l[wi].x.lo) / 2:=Int.tdiv_eq_ediv_of_nonneg (by omega);have u1:IntKind.i64.wrap (l[wi].x.hi - l[wi].x.lo)=l[wi].x.hi - l[wi].x.lo:=wrap64 (by omega) (by omega);have u2:IntKind.i64.wrap ((l[wi].x.hi - l[wi].x.lo) / 2)=(l[wi].x.hi - l[wi].x.lo) / 2:=wrap64 (by omega) (by omega);have u3:IntKind.i64.wrap (l[wi].x.lo+(l[wi].x.hi - l[wi].x.lo) / 2)=l[wi].x.lo+(l[wi].x.hi - l[wi].x.lo) / 2:=wrap64 (by omega) (by omega);rcases hv with ⟨s,rfl,rfl⟩|⟨id,rfl,rP,jJ,hg⟩
       .have ho:=Ec (F+9);have vF:=vM (k:=.i64) (f:=Box.cells) (sz:=4) (s:=s) aU;(repeat' first|simp [*,za,Box.cells,Span.cells]|(apply zb<;>intro _ h<;>try simp [-Nat.le_zero_eq] at h));exact ⟨rfl,by simp [za],by simp [za],by simp [za],by simp [za],by simp [za],by simp [za],by simp [za],by simp [za],(by repeat (first|exact Sm.refl _ _|refine Sm.alloc ?_|refine Sm.set ?_ (.inr (by first|omega|simp|(simp;omega))))),by simp,_,by simp;rfl⟩
       .have ho:=CY (F+9);have qO:=zu hg;have qy:id≠H.nx:=by omega
        have Bf:H.nx≠id:=by omega
        have l0:=zz (own:=true) (f:=Box.cells) (sz:=4) (l:=l) (i:=wi) (size:=1) (off:=0) (fun _=>rfl) aU (by decide);have l1:=zz (own:=true) (f:=Box.cells) (sz:=4) (l:=l) (i:=wi) (size:=1) (off:=1) (fun _=>rfl) aU (by decide);have l2:=zz (own:=true) (f:=Box.cells) (sz:=4) (l:=l) (i:=wi) (size:=1) (off:=2) (fun _=>rfl) aU (by decide);have l3:=zz (own:=true) (f:=Box.cells) (sz:=4) (l:=l) (i:=wi) (size:=1) (off:=3) (fun _=>rfl) aU (by decide);rw [Nat.add_zero] at l0;have e3':wi*4+2+1=wi*4+3:=rfl;(repeat' first|simp [*,za,Box.cells,Span.cells]|(apply zb<;>intro _ h<;>try simp [-Nat.le_zero_eq] at h));exact ⟨rfl,by simp [za],by simp [za],by simp [za],by simp [za],by simp [za],by simp [za],by simp [za],by simp [za],(by repeat (first|exact Sm.refl _ _|refine Sm.alloc ?_|refine Sm.set ?_ (.inr (by first|omega|simp|(simp;omega))))),by simp,_,by simp;rfl⟩
      .simp only [bK,if_true,if_false,Nat.one_ne_zero] at c3 GN;subst c2 c3;have q1:Int.tdiv (l[wi].y.hi - l[wi].y.lo) 2=(l[wi].y.hi - l[wi].y.lo) / 2:=Int.tdiv_eq_ediv_of_nonneg (by omega);have u1:IntKind.i64.wrap (l[wi].y.hi - l[wi].y.lo)=l[wi].y.hi - l[wi].y.lo:=wrap64 (by omega) (by omega);have u2:IntKind.i64.wrap ((l[wi].y.hi - l[wi].y.lo) / 2)=(l[wi].y.hi - l[wi].y.lo) / 2:=wrap64 (by omega) (by omega);have u3:IntKind.i64.wrap (l[wi].y.lo+(l[wi].y.hi - l[wi].y.lo) / 2)=l[wi].y.lo+(l[wi].y.hi - l[wi].y.lo) / 2:=wrap64 (by omega) (by omega);rcases hv with ⟨s,rfl,rfl⟩|⟨id,rfl,rP,jJ,hg⟩
       .have ho:=Ec (F+9);have vF:=vM (k:=.i64) (f:=Box.cells) (sz:=4) (s:=s) aU;(repeat' first|simp [*,za,Box.cells,Span.cells]|(apply zb<;>intro _ h<;>try simp [-Nat.le_zero_eq] at h));exact ⟨rfl,by simp [za],by simp [za],by simp [za],by simp [za],by simp [za],by simp [za],by simp [za],by simp [za],(by repeat (first|exact Sm.refl _ _|refine Sm.alloc ?_|refine Sm.set ?_ (.inr (by first|omega|simp|(simp;omega))))),by simp,_,by simp;rfl⟩
       .have ho:=CY (F+9);have qO:=zu hg;have qy:id≠H.nx:=by omega
        have Bf:H.nx≠id:=by omega
        have l0:=zz (own:=true) (f:=Box.cells) (sz:=4) (l:=l) (i:=wi) (size:=1) (off:=0) (fun _=>rfl) aU (by decide);have l1:=zz (own:=true) (f:=Box.cells) (sz:=4) (l:=l) (i:=wi) (size:=1) (off:=1) (fun _=>rfl) aU (by decide);have l2:=zz (own:=true) (f:=Box.cells) (sz:=4) (l:=l) (i:=wi) (size:=1) (off:=2) (fun _=>rfl) aU (by decide);have l3:=zz (own:=true) (f:=Box.cells) (sz:=4) (l:=l) (i:=wi) (size:=1) (off:=3) (fun _=>rfl) aU (by decide);rw [Nat.add_zero] at l0;have e3':wi*4+2+1=wi*4+3:=rfl;(repeat' first|simp [*,za,Box.cells,Span.cells]|(apply zb<;>intro _ h<;>try simp [-Nat.le_zero_eq] at h));exact ⟨rfl,by simp [za],by simp [za],by simp [za],by simp [za],by simp [za],by simp [za],by simp [za],by simp [za],(by repeat (first|exact Sm.refl _ _|refine Sm.alloc ?_|refine Sm.set ?_ (.inr (by first|omega|simp|(simp;omega))))),by simp,_,by simp;rfl⟩
    .obtain ⟨rfl,e0,e1,e2,e3,e4,e5,e8,e10,wS,fD,hbb,OG⟩:=hM;have KN:=Dx.h.sm wS;have hbse:=Dx.h.bs;have bL:=wS.nx;have hoh:ob < h.nx:=by omega
     have hgh:gb < h.nx:=by omega
     have k2:=KN.o;have k4:=KN.gw;have Ub:sD h ob bs v l:=hv.keep fun j h1 h2=>wS.get j (by omega) (fun h=>h);have aU:=KO.h.il;have sM:=KO.h.al;have htO:vD t:=by
      have h1:=KO.h.lo;have h2:=KO.h.hi;have Dr:=aJ.1 (bI _ (List.getElem_mem aU));unfold vD;unfold bK at h1 h2
      by_cases e:ax=0
      .simp only [e,if_true] at h1 h2;omega
      .simp only [e,if_false] at h1 h2;omega
     have Nl:Hide (∀ (H':Heap) (ab:Bool),(∀ j,j < bs->j≠ob->H'.get j=h.get j)->zD (zn G (F+10)) H' (.pure (.func 78 [])) [v,.pure (.int .i64 (i:Nat)),.pure (.int .i64 (ax:Nat)),.pure (.int .i64 t),.pure (.bool ab)]=some (.val (.pure ((Sl.mk false (Dp l i ax t ab)).pv Box.cells 4)))):=⟨fun H' ab hk=>by
      obtain ⟨s2,wK,J7⟩:=(Ub.keep hk).frz;have:=GL sh78 (.cons J7 (.cons (.pure _) (.cons (.pure _) (.cons (.pure _) (.cons (.pure _) .nil))))) (e78 (F+8) s2 i ax t ab (by rw [wK];exact aU) sM (by rw [wK];omega) htO) (UQ _);rw [wK] at this;exact this⟩
     have m1:=QD KO.h;have m2:=QE KO.h;obtain ⟨z1,z2,z3,z4⟩:=Us (hw _ (List.getElem_mem aU)) KO.h.lo KO.h.hi;have q1:=(aL.refl l).set (i:=i) z3;have q2:=(aL.refl l).set (i:=i) z4;rw [List.set_getElem_self,<- DX aU] at q1;rw [List.set_getElem_self,<- DY aU] at q2;have j1:=hw.set (i:=i) z1;have j2:=hw.set (i:=i) z2;rw [<- DX aU] at j1;rw [<- DY aU] at j2;have hTe:T=⟨-1,i,ax,t⟩::(sP p g m (bV l i ax t)++sP p g m (nk l i ax t)):=Vl.h.symm;have hsz2:out.length+(1+((sP p g m (bV l i ax t)).length+(sP p g m (nk l i ax t)).length))<=200000000000:=by
      rw [hTe] at fE;simp only [List.length_cons,List.length_append] at fE;omega
     have ih1:=Hide.mk fun (H:Heap) (V:AV) (out:List Node)=>ih H (bV l i ax t) V out (by omega) (q1.trans hs) j1;have ih2:=Hide.mk fun (H:Heap) (V:AV) (out:List Node)=>ih H (nk l i ax t) V out (by omega) (q2.trans hs) j2;have hTeH:=Hide.mk hTe;have cA:=Hide.mk fun (H':Heap)=>Nl.h H' false;have cB:=Hide.mk fun (H':Heap)=>Nl.h H' true;have ec1:Dp l i ax t false=bV l i ax t:=rfl;have ec2:Dp l i ax t true=nk l i ax t:=rfl;rw [ec1] at cA;rw [ec2] at cB;have sW:=Hide.mk KN;have Jv:out.length < 200000000000:=by omega
     clear ih m1 m2 z1 z2 z3 z4 q1 q2 j1 j2 Vl hTe KN Nl ec1 ec2 iN Vn vk bI SG g1 g2 g3 g4 hS OX OY hW Ed fE hm hs hw hv;generalize sP p g m (bV l i ax t)=T1 at *;generalize sP p g m (nk l i ax t)=T2 at *;generalize bV l i ax t=L1 at *;generalize nk l i ax t=L2 at *;(repeat' first|simp [*,za]|(apply zb<;>intro _ h<;>try simp [-Nat.le_zero_eq] at h))
     refine EY (f:=Node.cells) (sz:=4) (l:=out) ((sW.h.gr).alloc _) (fun _=>rfl) (by decide) (fun _=>rfl) (by unfold zl;omega) ⟨⟨-1,i,ax,t⟩,by simp [Node.cells],?_⟩
     intro V4 H4 l6 tY;have hnob:¬ Names V ob:=fun hn=>by have:=sW.h.sep ob hn;have:=hb.o;omega
     have hnnx:¬ Names V H.nx:=fun hn=>by have:=Dx.h.gr.1.names_lt hn;omega
     have r2:H4.get ob=.cells true [V]:=by rw [tY.get ob (by simp;omega) hnob,ze hoh];exact k2
     have r3:H4.get H.nx=.cells true [.pure (.int .i64 i),.pure (.int .i64 ax),.pure (.bool hbb)]:=by rw [tY.get H.nx (by simp;omega) hnnx,ze fD];exact OG
     have OU:h.nx < H4.nx:=by have:=tY.nx;simp at this;omega
     have hon4:ob < H4.nx:=by omega
     have hxn4:H.nx < H4.nx:=by omega
     have qX:=zjF sW.h l6 tY (Sm.alloc (Sm.refl _ _));have Vo:=qX.in hb sW.h;have gg4:=Vo.gw;have c1:=cA.h (H4.set ob (.cells true [V4])) fun j h1 h2=>qX.same.get j (by omega) fun h3=>by
      rcases h3 with h3|h3
      .exact h2 h3
      .have:=sW.h.sep j h3;omega
     have SI:∀ id,Names V4 id->h.nx < id:=fun id hn=>by have:=tY.new id hn;simp at this;omega
     have SK:=ih1.h _ V4 (out++[⟨-1,i,ax,t⟩]) (by simp;omega) Vo;have o4:=l6.1.one;have KD:=o4.1;have KE:=o4.2;have Df:=Hide.mk qX;have SL:=Hide.mk Vo;have SN:=Hide.mk SK;have KP:=Hide.mk SI;rw [zh (by intro e;exact hb.go e)] at gg4;have ego:=hb.go;have hgn4:gb < H4.nx:=by omega
     clear l6 tY o4 qX Vo ih1 SK SI cA OG k2 k4;(repeat' first|simp [*,za]|(apply zb<;>intro _ h<;>try simp [-Nat.le_zero_eq] at h))
     refine yf (n:=F+9) zkD (vQ SN.h ?_)
     rintro H5 ⟨V5,o5⟩;have gi5:=o5.in hb SL.h;have s5:H5.get H.nx=.cells true [.pure (.int .i64 i),.pure (.int .i64 ax),.pure (.bool hbb)]:=by
      rw [o5.same.get H.nx (by rw [mE];exact hxn4) (fun hE=>by
       rcases hE with hE|hE
       .exact SH hE
       .have:=KP.h _ hE;omega),zh SH]
      exact r3
     have n5:=o5.same.nx;rw [mE] at n5;have hxn5:H.nx < H5.nx:=by omega
     have c2:=cB.h H5 fun j h1 h2=>(o5.same.get j (by rw [mE];omega) fun h3=>by
      rcases h3 with h3|h3
      .exact h2 h3
      .have:=KP.h j h3;omega).trans (Df.h.same.get j (by omega) fun h3=>by
      rcases h3 with h3|h3
      .exact h2 h3
      .have:=sW.h.sep j h3;omega)
     have gg5:=gi5.gw;have hgn5:gb < H5.nx:=by omega
     have SQ:=ih2.h _ V5 (out++[⟨-1,i,ax,t⟩]++T1) (by simp;omega) gi5;have SS:=Hide.mk SQ;have hg5:=Hide.mk (Df.h.trans o5);clear o5 gi5 ih2 SQ cB r2 r3 gg4 c1 Df SL SN;(repeat' first|simp [*,za]|(apply zb<;>intro _ h<;>try simp [-Nat.le_zero_eq] at h))
     refine yf (n:=F+9) zkD (vQ SS.h ?_)
     rintro H6 ⟨V6,o6⟩;have hg6:=Hide.mk ((hg5.h.trans o6).pre wS);clear o6 hg5 SS c2 s5 gg5;(repeat' first|simp [*,za]|(apply zb<;>intro _ h<;>try simp [-Nat.le_zero_eq] at h));exact ⟨V6,by have:=hg6.h;rw [hTeH.h];simpa [List.append_assoc] using this⟩
 obtain ⟨v',H',h1,rfl,h2⟩:=main;exact ⟨H',h1,h2⟩
theorem zjt {p:Problem} {g:List Nat} (hp:FV p g) {mb ob pb gb bs:Nat} (hb:SF mb ob pb gb bs) {M:AV}:∀ (m n:Nat) (H:Heap) (v:AV) (l:List Box) (V:AV) (out:List Node),fU l < m->aL l p.boxes.xs->Wf l->sD H ob bs v l->out.length+(sP p g m l).length<=200000000000->qM p g mb ob pb gb bs M H V out ->
  ∃ H',Vm.call G (n+m+10) (.fn 73) ([v]++xL p mb ob pb gb) H=some (.aM [],H')/\∃ V',jG ob H H' V V' (out++sP p g m l)
 | 0,n,H,v,l,V,out,hm,_,_,_,_,_=>absurd hm (Nat.not_lt_zero _)
 | m+1,n,H,v,l,V,out,hm,hs,hw,hv,hl,hi =>
  zph hp (m:=m) (F:=n+m) hb (fun H l V out hm hs hw hl hi=>zjt hp hb m n H _ l V out hm hs hw (.inl ⟨_,rfl,rfl⟩) hl hi) H v l V out hm hs hw hv hl hi
end Go.Proofs.YtmmhnfghklppiaaGreat.Vm
