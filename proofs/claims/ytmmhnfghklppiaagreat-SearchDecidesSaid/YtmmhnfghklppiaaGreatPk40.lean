/- search.refute's closure grow: the tree of a part, walked. -/
import Derived.Test.YtmmhnfghklppiaaGreatPk39
import Derived.Test.YtmmhnfghklppiaaGreatPk27
import Derived.Test.YtmmhnfghklppiaaGreatPk30
import Derived.Test.YtmmhnfghklppiaaGreatPk29
import Derived.Test.YtmmhnfghklppiaaGreatPk25
namespace Go.Proofs.YtmmhnfghklppiaaGreat.Vm
open Go
set_option linter.unusedSimpArgs false
set_option linter.unusedVariables false
set_option maxHeartbeats 8000000
set_option maxRecDepth 4000
theorem zkw:G.shared 73=true:=by decide
def zcW (p:Problem) (mb ob pb gb:Nat):List AV:=[.pure (.ptr false p.cells 0),.box mb 0,.box ob 0,.box pb 0,.box gb 0]
structure GwIn (p:Problem) (g:List Nat) (mb ob pb gb bs:Nat) (M:AV) (H:Heap) (V:AV) (out:List Node):Prop where
 m:H.get mb=.cells true [M]
 mo:OwnV intF 1 H M (zeT p.facts.xs g)
 o:H.get ob=.cells true [V]
 gr:GrowV Node.cells 4 H V out
 pt:H.get pb=.cells true [.pure (zao g)]
 gw:H.get gb=.cells true [.func 73 (zcW p mb ob pb gb)]
 mlo:∀ id,Names M id->id < bs/\id≠ob
 sep:∀ id,Names V id->bs<=id
 bs:bs<=H.nx
structure GwB (mb ob pb gb bs:Nat):Prop where
 m:mb < bs
 o:ob < bs
 p:pb < bs
 g:gb < bs
 mo:mb≠ob
 po:pb≠ob
 go:gb≠ob
structure GwOut (ob:Nat) (H H':Heap) (V V':AV) (out:List Node):Prop where
 same:Sm (fun j=>j=ob\/Names V j) H H'
 at_:H'.get ob=.cells true [V']
 gr:GrowV Node.cells 4 H' V' out
 new:∀ id,Names V' id->Names V id\/H.nx<=id
theorem GwOut.trans {ob:Nat} {H H1 H2:Heap} {V V1 V2:AV} {o1 o2:List Node} (h:GwOut ob H H1 V V1 o1) (h':GwOut ob H1 H2 V1 V2 o2):GwOut ob H H2 V V2 o2 :=
 ⟨h.same.trans h'.same fun j hj hn=>by
  rcases hn with hn|hn
  ·exact .inl hn
  ·rcases h.new j hn with h1|h1
   ·exact .inr h1
   ·omega,h'.at_,h'.gr,fun id hn=>by
  rcases h'.new id hn with h1|h1
  ·exact h.new id h1
  ·exact .inr (by have:=h.same.nx;omega)⟩
theorem GwOut.in {p:Problem} {g:List Nat} {mb ob pb gb bs:Nat} {M V V':AV} {H H':Heap} {o1 o2:List Node} (hb:GwB mb ob pb gb bs) (h:GwIn p g mb ob pb gb bs M H V o1) (h':GwOut ob H H' V V' o2):GwIn p g mb ob pb gb bs M H' V' o2:=by
 have key:∀ j,j < bs->j≠ob->H'.get j=H.get j:=fun j h1 h2=>h'.same.get j (by have:=h.bs;omega) fun h3=>by
  rcases h3 with h3|h3
  ·exact h2 h3
  ·have:=h.sep j h3;omega
 exact ⟨by rw [key mb hb.m hb.mo];exact h.m,h.mo.keep fun id ⟨n,hn⟩=>by
   have:=h.mlo id ⟨_,_,_,hn⟩;exact key id this.1 this.2,h'.at_,h'.gr,by rw [key pb hb.p hb.po];exact h.pt,by rw [key gb hb.g hb.go];exact h.gw,h.mlo,fun id hn=>by
   rcases h'.new id hn with h1|h1
   ·exact h.sep id h1
   ·have:=h.bs;omega,by have:=h.bs;have:=h'.same.nx;omega⟩
def BoxG (H:Heap) (ob bs:Nat) (v:AV) (l:List Box):Prop:=(∃ s:Sl Box,s.xs=l/\v=.pure (s.pv Box.cells 4))\/∃ id,v=.row id 4 0 l.length/\id≠ob/\id < bs/\H.get id=.cells true (zn Box.cells l)
theorem BoxG.frz {H:Heap} {ob bs:Nat} {v:AV} {l:List Box} (h:BoxG H ob bs v l):∃ s:Sl Box,s.xs=l/\FrzK H true 12 v (s.pv Box.cells 4):=by
 rcases h with ⟨s,h1,rfl⟩|⟨id,rfl,_,_,hg⟩
 ·exact ⟨s,h1,.pure _⟩
 ·exact zcX (n:=10) (f:=Box.cells) (sz:=4) (fun _=>rfl) hg rfl
theorem BoxG.keep {H H':Heap} {ob bs:Nat} {v:AV} {l:List Box} (h:BoxG H ob bs v l) (hk:∀ j,j < bs->j≠ob->H'.get j=H.get j):BoxG H' ob bs v l:=by
 rcases h with h|⟨id,h1,h2,h3,hg⟩
 ·exact .inl h
 ·exact .inr ⟨id,h1,h2,h3,(hk id h3 h2).trans hg⟩
structure GrowP (p:Problem) (g:List Nat):Prop where
 ok:CheckOk p
 ne:g≠[]
 lt:∀ i∈g,i < p.boxes.xs.length
 few:g.length<=12
theorem zkk {p:Problem} {g:List Nat} {mb ob pb gb bs:Nat} {M V V4:AV} {H Hs H4:Heap} {out:List Node} {a:Node} (hi:GwIn p g mb ob pb gb bs M H V out) (hg4:GrowV Node.cells 4 H4 V4 (out++[a])) (ha:After V Hs V4 H4) (hs:Sm (fun _=>False) H Hs):GwOut ob H (H4.set ob (.cells true [V4])) V V4 (out++[a]):=by
 have hon:=zo hi.o;have h1:=hs.nx;have h2:=ha.nx;exact ⟨Sm.set (Sm.trans (hs.mono fun _ _ h=>h.elim) (⟨ha.nx,ha.get⟩:Sm (Names V) Hs H4) fun j _ h=>.inr h) (.inl (.inl rfl)),zq (by omega),hg4.set (fun hn=>by have:=ha.new ob hn;omega) _,fun id hn=>.inr (by have:=ha.new id hn;omega)⟩
theorem GwIn.sm {p:Problem} {g:List Nat} {mb ob pb gb bs:Nat} {M V:AV} {H h:Heap} {out:List Node} (hi:GwIn p g mb ob pb gb bs M H V out) (hs:Sm (fun _=>False) H h):GwIn p g mb ob pb gb bs M h V out:=by
 have key:∀ j,j < H.nx->h.get j=H.get j:=fun j h1=>hs.get j h1 (fun h=>h);exact ⟨by rw [key mb (zo hi.m)];exact hi.m,hi.mo.keep fun id ⟨n,hn⟩=>key id (hi.mo.names_lt ⟨_,_,_,hn⟩),by rw [key ob (zo hi.o)];exact hi.o,⟨hi.gr.1.keep fun id ⟨n,hn⟩=>key id (hi.gr.1.names_lt ⟨_,_,_,hn⟩),hi.gr.2⟩,by rw [key pb (zo hi.pt)];exact hi.pt,by rw [key gb (zo hi.gw)];exact hi.gw,hi.mlo,hi.sep,by have:=hi.bs;have:=hs.nx;omega⟩
theorem GwOut.pre {ob:Nat} {H h H':Heap} {V V':AV} {o:List Node} (hs:Sm (fun _=>False) H h) (h':GwOut ob h H' V V' o):GwOut ob H H' V V' o :=
 ⟨(hs.mono fun _ _ h=>h.elim).trans h'.same fun _ _ h=>h,h'.at_,h'.gr,fun id hn=>by
  rcases h'.new id hn with h1|h1
  ·exact .inl h1
  ·exact .inr (by have:=hs.nx;omega)⟩
theorem zhE {p:Problem} {g:List Nat} {mb ob pb gb bs:Nat} {M V:AV} {H h:Heap} {out:List Node} (hi:GwIn p g mb ob pb gb bs M H V out) (hs:Sm (fun _=>False) H h):GwOut ob H h V V out :=
 ⟨hs.mono fun _ _ h=>h.elim,(hi.sm hs).o,(hi.sm hs).gr,fun _ h=>.inl h⟩
theorem zjm {p:Problem} {g:List Nat} {l:List Box} {i ax:Nat} {t:Int} (hw:Wf l) (hg:∀ i∈g,i < l.length) (hne:g≠[]) (h:zbl (zcI p.facts.xs g) (zcu g) l=some (i,ax,t)):Proper l i ax t:=by
 unfold zbl at h
 cases hS:zcI p.facts.xs g l with
 | some s =>
  obtain ⟨a,k⟩:=s;rw [hS] at h;simp only [Option.some.injEq,Prod.mk.injEq] at h;obtain ⟨rfl,rfl,rfl⟩:=h;have hm:=mem_sides.1 (List.mem_of_find?_eq_some hS);have hb:=List.find?_some hS;have hil:a < l.length:=hg a hm.1;simp only [zeF,Bool.and_eq_true,decide_eq_true_eq] at hb;have hk:=hm.2;simp only at hk;have h1:=hb.1;rw [getElem!_pos l a hil] at h1 ⊢
  refine ⟨hil,by omega,?_,?_⟩
  ·split<;>omega
  ·split<;>omega
 | none =>
  rw [hS] at h;simp only at h
  split at h
  ·simp at h
  ·rename_i hlh;simp only [Option.some.injEq,Prod.mk.injEq] at h;obtain ⟨rfl,rfl,rfl⟩:=h;obtain ⟨w1,w2,_⟩:=zgE hne hw hg;have hil:=hg _ w1;have hwf:=hw _ (List.getElem_mem hil);rw [getElem!_pos l _ hil] at hlh ⊢;have hle:(axS l[(zcu g l).1] (zcu g l).2).lo<=(axS l[(zcu g l).1] (zcu g l).2).hi:=by
    unfold wfB at hwf;unfold axS
    split<;>omega
   exact ⟨hil,w2,by omega,by omega⟩
theorem zrN {cl:Callee} {b:Bool} {A B:VCode} {env:Env} {H:Heap} {Q Mid:VExit->Env->Heap->Prop} {u} (hA:b=true->wp cl A env H Mid .mk) (hB:b=false->wp cl B env H Mid .mk) (hR:∀ x e h,Mid x e h->Q x e h):wpIf b (wp cl A env H Q .mk) (wp cl B env H Q .mk) u:=by
 cases b with
 | true=>exact (zqe).2 ((hA rfl).mono hR)
 | false=>exact (zhN).2 ((hB rfl).mono hR)
def GMid (p:Problem) (H:Heap) (v:AV) (mb ob pb gb i ax:Nat) (t:Int) (x:VExit) (e:Env) (h:Heap):Prop:=x=.normal/\e 0=v/\e 1=.pure (.ptr false p.cells 0)/\e 2=.box mb 0/\e 3=.box ob 0/\e 4=.box pb 0/\e 5=.box gb 0/\e 8=.box H.nx 0/\e 10=.pure (.int .i64 t)/\Sm (fun _=>False) H h/\H.nx < h.nx/\∃ hb,h.get H.nx=.cells true [.pure (.int .i64 i),.pure (.int .i64 ax),.pure (.bool hb)]
theorem zpt {p:Problem} {g:List Nat} (hp:GrowP p g) {mb ob pb gb bs m F:Nat} (hb:GwB mb ob pb gb bs) {M:AV}
  (ih:∀ (H:Heap) (l:List Box) (V:AV) (out:List Node),muL l < m->SubL l p.boxes.xs->Wf l->out.length+(zb3 p g m l).length<=30000000->GwIn p g mb ob pb gb bs M H V out ->
   ∃ H',Vm.call G (F+10) (.fn 73) ([.pure ((Sl.mk false l).pv Box.cells 4)]++zcW p mb ob pb gb) H=some (.tup [],H')/\∃ V',GwOut ob H H' V V' (out++zb3 p g m l))
  (H:Heap) (v:AV) (l:List Box) (V:AV) (out:List Node) (hm:muL l < m+1) (hs:SubL l p.boxes.xs) (hw:Wf l) (hv:BoxG H ob bs v l) (hsz:out.length+(zb3 p g (m+1) l).length<=30000000) (hi:GwIn p g mb ob pb gb bs M H V out) :
  ∃ H',Vm.call G (F+10+1) (.fn 73) ([v]++zcW p mb ob pb gb) H=some (.tup [],H')/\∃ V',GwOut ob H H' V V' (out++zb3 p g (m+1) l):=by
 have ok:=hp.ok;have nb:=ok.nb;have nf:=ok.nf;have hll:l.length=p.boxes.xs.length:=hs.1;have hvn:v.cells=[v]/\v.one=true:=by
  rcases hv with ⟨s,_,rfl⟩|⟨id,rfl,_⟩
  ·exact ⟨by simp,by simp⟩
  ·exact ⟨rfl,rfl⟩
 have hv1:=hvn.1;have hv2:=hvn.2;have hVo:=hi.gr.1.one;have hVo1:=hVo.1;have hVo2:=hVo.2;have hMo:=hi.mo.one;have hMo1:=hMo.1;have hMo2:=hMo.2;have hmn:=zo hi.m;have hon:=zo hi.o;have hpn:=zo hi.pt;have hgn:=zo hi.gw;have g1:=hi.m;have g2:=hi.o;have g3:=hi.pt;have g4:=hi.gw;obtain ⟨sl,hslx,hslf⟩:=hv.frz;obtain ⟨sm,hsmx,hsmf⟩:=zh9 (f:=intF) (sz:=1) (n:=10) (fun _=>rfl) hi.mo;have hmi:okIs p.facts.xs sm.xs:=by rw [hsmx];exact zij _ _
 have hml:sm.xs.length < 1000:=by rw [hsmx];have:=zpM p.facts.xs g;omega
 have hbad:zG (zt G (F+10)) H (.pure (.func 74 [])) [.pure (p.facts.pv Fact.cells 9),M,v]=some (.val (.pure (.int .i64 (badI p.facts.xs l (zeT p.facts.xs g))))):=by
  have:=zb6 sh74 (.cons (.pure _) (.cons hsmf (.cons hslf .nil))) (e74 (F+4) p.facts sm sl hmi hml (fun f hf=>zeG ok (by rw [hslx];exact hs) (by rw [hslx];exact hw) hf)) rfl;rw [hslx,hsmx] at this;exact this
 have main:∃ v' H',Vm.call G (F+10+1) (.fn 73) ([v]++zcW p mb ob pb gb) H=some (v',H')/\(v'=.tup []/\∃ V',GwOut ob H H' V V' (out++zb3 p g (m+1) l)):=by
  refine zbY rfl g73 rfl ?_
  generalize hT:zb3 p g (m+1) l=T at *;unfold zb3 zgd at hT
  by_cases h0:0<=badI p.facts.xs l (zeT p.facts.xs g)
  ·rw [if_pos h0] at hT;generalize badI p.facts.xs l (zeT p.facts.xs g)=B at *;have hol:out.length < 30000000:=by rw [<- hT] at hsz;simp at hsz;omega
   have hiH:=Hide.mk hi;have hTH:=Hide.mk hT;clear ih hT hslf hsmf hi;(repeat' first|simp [*,za,c73,zcW,Problem.cells]|(apply zb<;>intro _ h<;>try simp [-Nat.le_zero_eq] at h))
   refine zaH (f:=Node.cells) (sz:=4) (l:=out) ((hiH.h.gr).alloc _) (fun _=>rfl) (by decide) (fun _=>rfl) (by unfold zu;omega) ⟨⟨B,0,0,0⟩,by simp [Node.cells],?_⟩
   intro V4 H4 hg4 ha4;have k2:H4.get ob=.cells true [V]:=by rw [ha4.get ob (by simp;omega) (fun hn=>by have:=hiH.h.sep ob hn;have:=hb.o;omega),zh hon];exact g2
   have hon4:ob < H4.nx:=by have:=ha4.nx;simp at this;omega
   have hgo:=Hide.mk (zkk hiH.h hg4 ha4 (Sm.alloc (Sm.refl _ _)));have o4:=hg4.1.one;have o4a:=o4.1;have o4b:=o4.2;rw [hTH.h] at hgo;clear hg4 ha4 o4 hiH hv hbad;(repeat' first|simp [*,za]|(apply zb<;>intro _ h<;>try simp [-Nat.le_zero_eq] at h));exact ⟨_,hgo.h⟩
  ·rw [if_neg h0] at hT;generalize badI p.facts.xs l (zeT p.facts.xs g)=B at *;have hnat:l.length<=12:=by omega
   have hgl:∀ i∈g,i < l.length:=fun i hi=>by rw [hll];exact hp.lt i hi
   have hlo:zG (zt G (F+10)) H (.pure (.func 75 [])) [.pure (.agg p.cells),v,.pure (zao g)]=some (.val (.pure (.tup [.agg (zgx (zcI p.facts.xs g l)).cells,.bool (zcI p.facts.xs g l).isSome]))):=by
    have:=zb6 sh75 (.cons (.pure _) (.cons hslf (.cons (.pure _) .nil))) (e75 (F+3) p ok sl g (by rw [hslx];exact hs) (by rw [hslx];exact hw) (by rw [hslx];exact hgl) hp.few) rfl;rw [hslx] at this;exact this
   have hval:=zaQ ok hs hw;have hbo:∀ b∈l,boxO b:=fun b hb'=>by
    have:=valid_iff.1 (hval b hb');unfold boxO okN;omega
   have hwd:∀ o o',zG (zt G (F+10)) ((H.alloc o).set H.nx o') (.pure (.func 77 [])) [v,.pure (zao g)]=some (.val (.pure (.tup [.int .i64 ((zcu g l).1:Nat),.int .i64 ((zcu g l).2:Nat)]))):=fun o o'=>by
    obtain ⟨s2,hs2,hf2⟩:=(hv.keep (H':=(H.alloc o).set H.nx o') fun j h1 h2=>by
     have:=hi.bs;rw [ze (by omega),zh (by omega)]).frz
    have:=zb6 sh77 (.cons hf2 (.cons (.pure _) .nil)) (e77 (F+8) s2 g (by rw [hs2];exact hgl) hp.ne (by rw [hs2];exact hbo) hp.few) rfl;rw [hs2] at this;exact this
   obtain ⟨S,hS⟩:∃ S,zcI p.facts.xs g l=S:=⟨_,rfl⟩
   obtain ⟨⟨wi,wk⟩,hW⟩:∃ w,zcu g l=w:=⟨_,rfl⟩
   obtain ⟨w1,w2,_⟩:=zgE hp.ne hw hgl;rw [hW] at w1 w2 hwd;simp only at w1 w2 hwd;have hwi:=hgl _ w1;rw [hS] at hlo;have hwx:pb≠H.nx:=by omega
   have hwo:ob≠H.nx:=by omega
   have hwg:gb≠H.nx:=by omega
   have hwm:mb≠H.nx:=by omega
   have hwo2:H.nx≠ob:=by omega
   cases hch:zbl (zcI p.facts.xs g) (zcu g) l with
   | none =>
    cases S with
    | some sk =>
     unfold zbl at hch;rw [hS] at hch;simp at hch
    | none =>
     rw [hch] at hT;unfold zbl at hch;rw [hS] at hch;simp only at hch;rw [hW] at hch;simp only at hch;have hil:wi < l.length:=hwi;rw [getElem!_pos l wi hil] at hch
     by_cases hlh:(axS l[wi] wk).lo=(axS l[wi] wk).hi
     case neg=>rw [if_neg hlh] at hch;simp at hch
     simp only at hT;have hiH:=Hide.mk hi;have hbx:=valid_iff.1 (hval _ (List.getElem_mem hil));have hk2:wk=0\/wk=1:=by omega
     simp only [zgx,Side.cells,Option.isSome_none,Problem.cells] at hlo;subst hT;clear hch hS hval hbo w1 w2 hwi hll hi hslf hsmf ih hW;rcases hk2 with rfl|rfl
     ·simp only [axS,if_true,if_false,Nat.one_ne_zero] at hlh;rcases hv with ⟨s,rfl,rfl⟩|⟨id,rfl,hid1,hid2,hg⟩
      ·have ho:=zcZ (F+9);have hadl:=zax (k:=.i64) (f:=Box.cells) (sz:=4) (s:=s) hil;(repeat' first|simp [*,za,c73,zcW,Problem.cells,Side.cells,Box.cells,Span.cells]|(apply zb<;>intro _ h<;>try simp [-Nat.le_zero_eq] at h));exact ⟨V,zhE hiH.h (by repeat (first|exact Sm.refl _ _|refine Sm.alloc ?_|refine Sm.set ?_ (.inr (by first|omega|simp|(simp;omega)))))⟩
      ·have ho:=zeg (F+9);have hidn:=zo hg;have hid3:id≠H.nx:=by omega
       have hid4:H.nx≠id:=by omega
       have l0:=zC (own:=true) (f:=Box.cells) (sz:=4) (l:=l) (i:=wi) (size:=1) (off:=0) (fun _=>rfl) hil (by decide);have l1:=zC (own:=true) (f:=Box.cells) (sz:=4) (l:=l) (i:=wi) (size:=1) (off:=1) (fun _=>rfl) hil (by decide);have l2:=zC (own:=true) (f:=Box.cells) (sz:=4) (l:=l) (i:=wi) (size:=1) (off:=2) (fun _=>rfl) hil (by decide);have l3:=zC (own:=true) (f:=Box.cells) (sz:=4) (l:=l) (i:=wi) (size:=1) (off:=3) (fun _=>rfl) hil (by decide);rw [Nat.add_zero] at l0;have e3':wi*4+2+1=wi*4+3:=rfl;(repeat' first|simp [*,za,c73,zcW,Problem.cells,Side.cells,Box.cells,Span.cells]|(apply zb<;>intro _ h<;>try simp [-Nat.le_zero_eq] at h));exact ⟨V,zhE hiH.h (by repeat (first|exact Sm.refl _ _|refine Sm.alloc ?_|refine Sm.set ?_ (.inr (by first|omega|simp|(simp;omega)))))⟩
     ·simp only [axS,if_true,if_false,Nat.one_ne_zero] at hlh;rcases hv with ⟨s,rfl,rfl⟩|⟨id,rfl,hid1,hid2,hg⟩
      ·have ho:=zcZ (F+9);have hadl:=zax (k:=.i64) (f:=Box.cells) (sz:=4) (s:=s) hil;(repeat' first|simp [*,za,c73,zcW,Problem.cells,Side.cells,Box.cells,Span.cells]|(apply zb<;>intro _ h<;>try simp [-Nat.le_zero_eq] at h));exact ⟨V,zhE hiH.h (by repeat (first|exact Sm.refl _ _|refine Sm.alloc ?_|refine Sm.set ?_ (.inr (by first|omega|simp|(simp;omega)))))⟩
      ·have ho:=zeg (F+9);have hidn:=zo hg;have hid3:id≠H.nx:=by omega
       have hid4:H.nx≠id:=by omega
       have l0:=zC (own:=true) (f:=Box.cells) (sz:=4) (l:=l) (i:=wi) (size:=1) (off:=0) (fun _=>rfl) hil (by decide);have l1:=zC (own:=true) (f:=Box.cells) (sz:=4) (l:=l) (i:=wi) (size:=1) (off:=1) (fun _=>rfl) hil (by decide);have l2:=zC (own:=true) (f:=Box.cells) (sz:=4) (l:=l) (i:=wi) (size:=1) (off:=2) (fun _=>rfl) hil (by decide);have l3:=zC (own:=true) (f:=Box.cells) (sz:=4) (l:=l) (i:=wi) (size:=1) (off:=3) (fun _=>rfl) hil (by decide);rw [Nat.add_zero] at l0;have e3':wi*4+2+1=wi*4+3:=rfl;(repeat' first|simp [*,za,c73,zcW,Problem.cells,Side.cells,Box.cells,Span.cells]|(apply zb<;>intro _ h<;>try simp [-Nat.le_zero_eq] at h));exact ⟨V,zhE hiH.h (by repeat (first|exact Sm.refl _ _|refine Sm.alloc ?_|refine Sm.set ?_ (.inr (by first|omega|simp|(simp;omega)))))⟩
   | some c =>
    obtain ⟨i,ax,t⟩:=c;have hpr:=zjm hw hgl hp.ne hch;rw [hch] at hT;simp only at hT;have hmid:∃ b' s1 s2 s3,S.isSome=b'/\zgx S=⟨s1,s2,s3⟩:=⟨_,_,_,_,rfl,rfl⟩
    obtain ⟨bS,s1,s2,s3,hbS,hSd⟩:=hmid;rw [hbS,hSd] at hlo;simp only [Problem.cells,Side.cells] at hlo;have hTH:=Hide.mk hT;have hchH:=Hide.mk hch;have hiH:=Hide.mk hi;have hpH:=Hide.mk hpr;clear hT hi hpr hch hslf hsmf;simp [-Nat.le_zero_eq, *,za,c73,zcW,Problem.cells,Side.cells]
    refine zrN (Mid:=GMid p H v mb ob pb gb i ax t) (fun hb1=>?_) (fun hb0=>?_) fun x e h hM=>?_
    ·subst hb1
     cases S with
     | none=>simp at hbS
     | some sk =>
      obtain ⟨a,k⟩:=sk;have hc:=hchH.h;unfold zbl at hc;rw [hS] at hc;simp only [Option.some.injEq,Prod.mk.injEq] at hc;obtain ⟨c1,c2,c3⟩:=hc;have hm:=mem_sides.1 (List.mem_of_find?_eq_some hS);have hil:a < l.length:=hgl a hm.1;rw [getElem!_pos l a hil] at c3;have hbx:=valid_iff.1 (hval _ (List.getElem_mem hil));simp only [zgx,zdQ,Side.mk.injEq] at hSd;obtain ⟨d1,d2,d3⟩:=hSd;have hk4:k=0\/k=1\/k=2\/k=3:=by have:=hm.2;simp only at this;omega
      clear hS hbS hval hbo hwd hW w1 w2 hwi hm hchH hll;subst c1;rcases hk4 with rfl|rfl|rfl|rfl
      ·simp [axS] at c2 c3 d2 d3;subst c2 c3 d1 d2 d3;rcases hv with ⟨s,rfl,rfl⟩|⟨id,rfl,hid1,hid2,hg⟩
       ·have ho:=zcZ (F+9);have hadl:=zax (k:=.i64) (f:=Box.cells) (sz:=4) (s:=s) hil;(repeat' first|simp [*,za,Box.cells,Span.cells]|(apply zb<;>intro _ h<;>try simp [-Nat.le_zero_eq] at h));exact ⟨rfl,by simp [za],by simp [za],by simp [za],by simp [za],by simp [za],by simp [za],by simp [za],by simp [za],(by repeat (first|exact Sm.refl _ _|refine Sm.alloc ?_|refine Sm.set ?_ (.inr (by first|omega|simp|(simp;omega))))),by simp,_,by simp;rfl⟩
       ·have ho:=zeg (F+9);have hidn:=zo hg;have hid3:id≠H.nx:=by omega
        have hid4:H.nx≠id:=by omega
        have l0:=zC (own:=true) (f:=Box.cells) (sz:=4) (l:=l) (i:=a) (size:=1) (off:=0) (fun _=>rfl) hil (by decide);have l1:=zC (own:=true) (f:=Box.cells) (sz:=4) (l:=l) (i:=a) (size:=1) (off:=1) (fun _=>rfl) hil (by decide);have l2:=zC (own:=true) (f:=Box.cells) (sz:=4) (l:=l) (i:=a) (size:=1) (off:=2) (fun _=>rfl) hil (by decide);have l3:=zC (own:=true) (f:=Box.cells) (sz:=4) (l:=l) (i:=a) (size:=1) (off:=3) (fun _=>rfl) hil (by decide);rw [Nat.add_zero] at l0;have e3':a*4+2+1=a*4+3:=rfl;(repeat' first|simp [*,za,Box.cells,Span.cells]|(apply zb<;>intro _ h<;>try simp [-Nat.le_zero_eq] at h));exact ⟨rfl,by simp [za],by simp [za],by simp [za],by simp [za],by simp [za],by simp [za],by simp [za],by simp [za],(by repeat (first|exact Sm.refl _ _|refine Sm.alloc ?_|refine Sm.set ?_ (.inr (by first|omega|simp|(simp;omega))))),by simp,_,by simp;rfl⟩
      ·simp [axS] at c2 c3 d2 d3;subst c2 c3 d1 d2 d3;have w1:IntKind.i64.wrap (l[a].x.hi - 1)=l[a].x.hi - 1:=wrap64 (by omega) (by omega);rcases hv with ⟨s,rfl,rfl⟩|⟨id,rfl,hid1,hid2,hg⟩
       ·have ho:=zcZ (F+9);have hadl:=zax (k:=.i64) (f:=Box.cells) (sz:=4) (s:=s) hil;(repeat' first|simp [*,za,Box.cells,Span.cells]|(apply zb<;>intro _ h<;>try simp [-Nat.le_zero_eq] at h));exact ⟨rfl,by simp [za],by simp [za],by simp [za],by simp [za],by simp [za],by simp [za],by simp [za],by simp [za],(by repeat (first|exact Sm.refl _ _|refine Sm.alloc ?_|refine Sm.set ?_ (.inr (by first|omega|simp|(simp;omega))))),by simp,_,by simp;rfl⟩
       ·have ho:=zeg (F+9);have hidn:=zo hg;have hid3:id≠H.nx:=by omega
        have hid4:H.nx≠id:=by omega
        have l0:=zC (own:=true) (f:=Box.cells) (sz:=4) (l:=l) (i:=a) (size:=1) (off:=0) (fun _=>rfl) hil (by decide);have l1:=zC (own:=true) (f:=Box.cells) (sz:=4) (l:=l) (i:=a) (size:=1) (off:=1) (fun _=>rfl) hil (by decide);have l2:=zC (own:=true) (f:=Box.cells) (sz:=4) (l:=l) (i:=a) (size:=1) (off:=2) (fun _=>rfl) hil (by decide);have l3:=zC (own:=true) (f:=Box.cells) (sz:=4) (l:=l) (i:=a) (size:=1) (off:=3) (fun _=>rfl) hil (by decide);rw [Nat.add_zero] at l0;have e3':a*4+2+1=a*4+3:=rfl;(repeat' first|simp [*,za,Box.cells,Span.cells]|(apply zb<;>intro _ h<;>try simp [-Nat.le_zero_eq] at h));exact ⟨rfl,by simp [za],by simp [za],by simp [za],by simp [za],by simp [za],by simp [za],by simp [za],by simp [za],(by repeat (first|exact Sm.refl _ _|refine Sm.alloc ?_|refine Sm.set ?_ (.inr (by first|omega|simp|(simp;omega))))),by simp,_,by simp;rfl⟩
      ·simp [axS] at c2 c3 d2 d3;subst c2 c3 d1 d2 d3;rcases hv with ⟨s,rfl,rfl⟩|⟨id,rfl,hid1,hid2,hg⟩
       ·have ho:=zcZ (F+9);have hadl:=zax (k:=.i64) (f:=Box.cells) (sz:=4) (s:=s) hil;(repeat' first|simp [*,za,Box.cells,Span.cells]|(apply zb<;>intro _ h<;>try simp [-Nat.le_zero_eq] at h));exact ⟨rfl,by simp [za],by simp [za],by simp [za],by simp [za],by simp [za],by simp [za],by simp [za],by simp [za],(by repeat (first|exact Sm.refl _ _|refine Sm.alloc ?_|refine Sm.set ?_ (.inr (by first|omega|simp|(simp;omega))))),by simp,_,by simp;rfl⟩
       ·have ho:=zeg (F+9);have hidn:=zo hg;have hid3:id≠H.nx:=by omega
        have hid4:H.nx≠id:=by omega
        have l0:=zC (own:=true) (f:=Box.cells) (sz:=4) (l:=l) (i:=a) (size:=1) (off:=0) (fun _=>rfl) hil (by decide);have l1:=zC (own:=true) (f:=Box.cells) (sz:=4) (l:=l) (i:=a) (size:=1) (off:=1) (fun _=>rfl) hil (by decide);have l2:=zC (own:=true) (f:=Box.cells) (sz:=4) (l:=l) (i:=a) (size:=1) (off:=2) (fun _=>rfl) hil (by decide);have l3:=zC (own:=true) (f:=Box.cells) (sz:=4) (l:=l) (i:=a) (size:=1) (off:=3) (fun _=>rfl) hil (by decide);rw [Nat.add_zero] at l0;have e3':a*4+2+1=a*4+3:=rfl;(repeat' first|simp [*,za,Box.cells,Span.cells]|(apply zb<;>intro _ h<;>try simp [-Nat.le_zero_eq] at h));exact ⟨rfl,by simp [za],by simp [za],by simp [za],by simp [za],by simp [za],by simp [za],by simp [za],by simp [za],(by repeat (first|exact Sm.refl _ _|refine Sm.alloc ?_|refine Sm.set ?_ (.inr (by first|omega|simp|(simp;omega))))),by simp,_,by simp;rfl⟩
      ·simp [axS] at c2 c3 d2 d3;subst c2 c3 d1 d2 d3;have w1:IntKind.i64.wrap (l[a].y.hi - 1)=l[a].y.hi - 1:=wrap64 (by omega) (by omega);rcases hv with ⟨s,rfl,rfl⟩|⟨id,rfl,hid1,hid2,hg⟩
       ·have ho:=zcZ (F+9);have hadl:=zax (k:=.i64) (f:=Box.cells) (sz:=4) (s:=s) hil;(repeat' first|simp [*,za,Box.cells,Span.cells]|(apply zb<;>intro _ h<;>try simp [-Nat.le_zero_eq] at h));exact ⟨rfl,by simp [za],by simp [za],by simp [za],by simp [za],by simp [za],by simp [za],by simp [za],by simp [za],(by repeat (first|exact Sm.refl _ _|refine Sm.alloc ?_|refine Sm.set ?_ (.inr (by first|omega|simp|(simp;omega))))),by simp,_,by simp;rfl⟩
       ·have ho:=zeg (F+9);have hidn:=zo hg;have hid3:id≠H.nx:=by omega
        have hid4:H.nx≠id:=by omega
        have l0:=zC (own:=true) (f:=Box.cells) (sz:=4) (l:=l) (i:=a) (size:=1) (off:=0) (fun _=>rfl) hil (by decide);have l1:=zC (own:=true) (f:=Box.cells) (sz:=4) (l:=l) (i:=a) (size:=1) (off:=1) (fun _=>rfl) hil (by decide);have l2:=zC (own:=true) (f:=Box.cells) (sz:=4) (l:=l) (i:=a) (size:=1) (off:=2) (fun _=>rfl) hil (by decide);have l3:=zC (own:=true) (f:=Box.cells) (sz:=4) (l:=l) (i:=a) (size:=1) (off:=3) (fun _=>rfl) hil (by decide);rw [Nat.add_zero] at l0;have e3':a*4+2+1=a*4+3:=rfl;(repeat' first|simp [*,za,Box.cells,Span.cells]|(apply zb<;>intro _ h<;>try simp [-Nat.le_zero_eq] at h));exact ⟨rfl,by simp [za],by simp [za],by simp [za],by simp [za],by simp [za],by simp [za],by simp [za],by simp [za],(by repeat (first|exact Sm.refl _ _|refine Sm.alloc ?_|refine Sm.set ?_ (.inr (by first|omega|simp|(simp;omega))))),by simp,_,by simp;rfl⟩
    ·subst hb0
     cases S with
     | some sk=>simp at hbS
     | none =>
      have hc:=hchH.h;unfold zbl at hc;rw [hS] at hc;simp only at hc;rw [hW] at hc;simp only at hc;have hil:wi < l.length:=hwi;rw [getElem!_pos l wi hil] at hc
      by_cases hlh:(axS l[wi] wk).lo=(axS l[wi] wk).hi
      ·rw [if_pos hlh] at hc;simp at hc
      rw [if_neg hlh] at hc;simp only [Option.some.injEq,Prod.mk.injEq] at hc;obtain ⟨c1,c2,c3⟩:=hc;have hbx:=valid_iff.1 (hval _ (List.getElem_mem hil));simp only [zgx,Side.mk.injEq] at hSd;obtain ⟨d1,d2,d3⟩:=hSd;have hk2:wk=0\/wk=1:=by omega
      clear hS hbS hval hbo w1 w2 hchH hwi hll;subst c1 d1 d2 d3;rcases hk2 with rfl|rfl
      ·simp only [axS,if_true,if_false,Nat.one_ne_zero] at c3 hlh;subst c2 c3;have q1:Int.tdiv (l[wi].x.hi - l[wi].x.lo) 2=(l[wi].x.hi - l[wi].x.lo) / 2:=Int.tdiv_eq_ediv_of_nonneg (by omega);have u1:IntKind.i64.wrap (l[wi].x.hi - l[wi].x.lo)=l[wi].x.hi - l[wi].x.lo:=wrap64 (by omega) (by omega);have u2:IntKind.i64.wrap ((l[wi].x.hi - l[wi].x.lo) / 2)=(l[wi].x.hi - l[wi].x.lo) / 2:=wrap64 (by omega) (by omega);have u3:IntKind.i64.wrap (l[wi].x.lo+(l[wi].x.hi - l[wi].x.lo) / 2)=l[wi].x.lo+(l[wi].x.hi - l[wi].x.lo) / 2:=wrap64 (by omega) (by omega);rcases hv with ⟨s,rfl,rfl⟩|⟨id,rfl,hid1,hid2,hg⟩
       ·have ho:=zcZ (F+9);have hadl:=zax (k:=.i64) (f:=Box.cells) (sz:=4) (s:=s) hil;(repeat' first|simp [*,za,Box.cells,Span.cells]|(apply zb<;>intro _ h<;>try simp [-Nat.le_zero_eq] at h));exact ⟨rfl,by simp [za],by simp [za],by simp [za],by simp [za],by simp [za],by simp [za],by simp [za],by simp [za],(by repeat (first|exact Sm.refl _ _|refine Sm.alloc ?_|refine Sm.set ?_ (.inr (by first|omega|simp|(simp;omega))))),by simp,_,by simp;rfl⟩
       ·have ho:=zeg (F+9);have hidn:=zo hg;have hid3:id≠H.nx:=by omega
        have hid4:H.nx≠id:=by omega
        have l0:=zC (own:=true) (f:=Box.cells) (sz:=4) (l:=l) (i:=wi) (size:=1) (off:=0) (fun _=>rfl) hil (by decide);have l1:=zC (own:=true) (f:=Box.cells) (sz:=4) (l:=l) (i:=wi) (size:=1) (off:=1) (fun _=>rfl) hil (by decide);have l2:=zC (own:=true) (f:=Box.cells) (sz:=4) (l:=l) (i:=wi) (size:=1) (off:=2) (fun _=>rfl) hil (by decide);have l3:=zC (own:=true) (f:=Box.cells) (sz:=4) (l:=l) (i:=wi) (size:=1) (off:=3) (fun _=>rfl) hil (by decide);rw [Nat.add_zero] at l0;have e3':wi*4+2+1=wi*4+3:=rfl;(repeat' first|simp [*,za,Box.cells,Span.cells]|(apply zb<;>intro _ h<;>try simp [-Nat.le_zero_eq] at h));exact ⟨rfl,by simp [za],by simp [za],by simp [za],by simp [za],by simp [za],by simp [za],by simp [za],by simp [za],(by repeat (first|exact Sm.refl _ _|refine Sm.alloc ?_|refine Sm.set ?_ (.inr (by first|omega|simp|(simp;omega))))),by simp,_,by simp;rfl⟩
      ·simp only [axS,if_true,if_false,Nat.one_ne_zero] at c3 hlh;subst c2 c3;have q1:Int.tdiv (l[wi].y.hi - l[wi].y.lo) 2=(l[wi].y.hi - l[wi].y.lo) / 2:=Int.tdiv_eq_ediv_of_nonneg (by omega);have u1:IntKind.i64.wrap (l[wi].y.hi - l[wi].y.lo)=l[wi].y.hi - l[wi].y.lo:=wrap64 (by omega) (by omega);have u2:IntKind.i64.wrap ((l[wi].y.hi - l[wi].y.lo) / 2)=(l[wi].y.hi - l[wi].y.lo) / 2:=wrap64 (by omega) (by omega);have u3:IntKind.i64.wrap (l[wi].y.lo+(l[wi].y.hi - l[wi].y.lo) / 2)=l[wi].y.lo+(l[wi].y.hi - l[wi].y.lo) / 2:=wrap64 (by omega) (by omega);rcases hv with ⟨s,rfl,rfl⟩|⟨id,rfl,hid1,hid2,hg⟩
       ·have ho:=zcZ (F+9);have hadl:=zax (k:=.i64) (f:=Box.cells) (sz:=4) (s:=s) hil;(repeat' first|simp [*,za,Box.cells,Span.cells]|(apply zb<;>intro _ h<;>try simp [-Nat.le_zero_eq] at h));exact ⟨rfl,by simp [za],by simp [za],by simp [za],by simp [za],by simp [za],by simp [za],by simp [za],by simp [za],(by repeat (first|exact Sm.refl _ _|refine Sm.alloc ?_|refine Sm.set ?_ (.inr (by first|omega|simp|(simp;omega))))),by simp,_,by simp;rfl⟩
       ·have ho:=zeg (F+9);have hidn:=zo hg;have hid3:id≠H.nx:=by omega
        have hid4:H.nx≠id:=by omega
        have l0:=zC (own:=true) (f:=Box.cells) (sz:=4) (l:=l) (i:=wi) (size:=1) (off:=0) (fun _=>rfl) hil (by decide);have l1:=zC (own:=true) (f:=Box.cells) (sz:=4) (l:=l) (i:=wi) (size:=1) (off:=1) (fun _=>rfl) hil (by decide);have l2:=zC (own:=true) (f:=Box.cells) (sz:=4) (l:=l) (i:=wi) (size:=1) (off:=2) (fun _=>rfl) hil (by decide);have l3:=zC (own:=true) (f:=Box.cells) (sz:=4) (l:=l) (i:=wi) (size:=1) (off:=3) (fun _=>rfl) hil (by decide);rw [Nat.add_zero] at l0;have e3':wi*4+2+1=wi*4+3:=rfl;(repeat' first|simp [*,za,Box.cells,Span.cells]|(apply zb<;>intro _ h<;>try simp [-Nat.le_zero_eq] at h));exact ⟨rfl,by simp [za],by simp [za],by simp [za],by simp [za],by simp [za],by simp [za],by simp [za],by simp [za],(by repeat (first|exact Sm.refl _ _|refine Sm.alloc ?_|refine Sm.set ?_ (.inr (by first|omega|simp|(simp;omega))))),by simp,_,by simp;rfl⟩
    ·obtain ⟨rfl,e0,e1,e2,e3,e4,e5,e8,e10,hsm,hnx,hbb,hsb⟩:=hM;have hgm:=hiH.h.sm hsm;have hbse:=hiH.h.bs;have hne:=hsm.nx;have hoh:ob < h.nx:=by omega
     have hgh:gb < h.nx:=by omega
     have k2:=hgm.o;have k4:=hgm.gw;have hvk:BoxG h ob bs v l:=hv.keep fun j h1 h2=>hsm.get j (by omega) (fun h=>h);have hil:=hpH.h.il;have hx2:=hpH.h.al;have htO:okN t:=by
      have h1:=hpH.h.lo;have h2:=hpH.h.hi;have hbx:=valid_iff.1 (hval _ (List.getElem_mem hil));unfold okN;unfold axS at h1 h2
      by_cases e:ax=0
      ·simp only [e,if_true] at h1 h2;omega
      ·simp only [e,if_false] at h1 h2;omega
     have hcut:Hide (∀ (H':Heap) (ab:Bool),(∀ j,j < bs->j≠ob->H'.get j=h.get j)->zG (zt G (F+10)) H' (.pure (.func 78 [])) [v,.pure (.int .i64 (i:Nat)),.pure (.int .i64 (ax:Nat)),.pure (.int .i64 t),.pure (.bool ab)]=some (.val (.pure ((Sl.mk false (cutH l i ax t ab)).pv Box.cells 4)))):=⟨fun H' ab hk=>by
      obtain ⟨s2,hs2,hf2⟩:=(hvk.keep hk).frz;have:=zb6 sh78 (.cons hf2 (.cons (.pure _) (.cons (.pure _) (.cons (.pure _) (.cons (.pure _) .nil))))) (e78 (F+8) s2 i ax t ab (by rw [hs2];exact hil) hx2 (by rw [hs2];omega) htO) (zeq _);rw [hs2] at this;exact this⟩
     have m1:=zhJ hpH.h;have m2:=zgc hpH.h;obtain ⟨z1,z2,z3,z4⟩:=zkT (hw _ (List.getElem_mem hil)) hpH.h.lo hpH.h.hi;have q1:=(SubL.refl l).set (i:=i) z3;have q2:=(SubL.refl l).set (i:=i) z4;rw [List.set_getElem_self,<- zca hil] at q1;rw [List.set_getElem_self,<- zbD hil] at q2;have j1:=hw.set (i:=i) z1;have j2:=hw.set (i:=i) z2;rw [<- zca hil] at j1;rw [<- zbD hil] at j2;have hTe:T=⟨-1,i,ax,t⟩::(zb3 p g m (lowL l i ax t)++zb3 p g m (za2 l i ax t)):=hTH.h.symm;have hsz2:out.length+(1+((zb3 p g m (lowL l i ax t)).length+(zb3 p g m (za2 l i ax t)).length))<=30000000:=by
      rw [hTe] at hsz;simp only [List.length_cons,List.length_append] at hsz;omega
     have ih1:=Hide.mk fun (H:Heap) (V:AV) (out:List Node)=>ih H (lowL l i ax t) V out (by omega) (q1.trans hs) j1;have ih2:=Hide.mk fun (H:Heap) (V:AV) (out:List Node)=>ih H (za2 l i ax t) V out (by omega) (q2.trans hs) j2;have hTeH:=Hide.mk hTe;have cA:=Hide.mk fun (H':Heap)=>hcut.h H' false;have cB:=Hide.mk fun (H':Heap)=>hcut.h H' true;have ec1:cutH l i ax t false=lowL l i ax t:=rfl;have ec2:cutH l i ax t true=za2 l i ax t:=rfl;rw [ec1] at cA;rw [ec2] at cB;have hhi:=Hide.mk hgm;have hol:out.length < 30000000:=by omega
     clear ih m1 m2 z1 z2 z3 z4 q1 q2 j1 j2 hTH hTe hgm hcut ec1 ec2 hlo hwd hbad hval hbo g1 g2 g3 g4 hS hbS hSd hW hll hsz hm hs hw hv;generalize zb3 p g m (lowL l i ax t)=T1 at *;generalize zb3 p g m (za2 l i ax t)=T2 at *;generalize lowL l i ax t=L1 at *;generalize za2 l i ax t=L2 at *;(repeat' first|simp [*,za]|(apply zb<;>intro _ h<;>try simp [-Nat.le_zero_eq] at h))
     refine zaH (f:=Node.cells) (sz:=4) (l:=out) ((hhi.h.gr).alloc _) (fun _=>rfl) (by decide) (fun _=>rfl) (by unfold zu;omega) ⟨⟨-1,i,ax,t⟩,by simp [Node.cells],?_⟩
     intro V4 H4 hg4 ha4;have hnob:¬ Names V ob:=fun hn=>by have:=hhi.h.sep ob hn;have:=hb.o;omega
     have hnnx:¬ Names V H.nx:=fun hn=>by have:=hiH.h.gr.1.names_lt hn;omega
     have r2:H4.get ob=.cells true [V]:=by rw [ha4.get ob (by simp;omega) hnob,zh hoh];exact k2
     have r3:H4.get H.nx=.cells true [.pure (.int .i64 i),.pure (.int .i64 ax),.pure (.bool hbb)]:=by rw [ha4.get H.nx (by simp;omega) hnnx,zh hnx];exact hsb
     have hn4:h.nx < H4.nx:=by have:=ha4.nx;simp at this;omega
     have hon4:ob < H4.nx:=by omega
     have hxn4:H.nx < H4.nx:=by omega
     have hgo:=zkk hhi.h hg4 ha4 (Sm.alloc (Sm.refl _ _));have gi4:=hgo.in hb hhi.h;have gg4:=gi4.gw;have c1:=cA.h (H4.set ob (.cells true [V4])) fun j h1 h2=>hgo.same.get j (by omega) fun h3=>by
      rcases h3 with h3|h3
      ·exact h2 h3
      ·have:=hhi.h.sep j h3;omega
     have hn4v:∀ id,Names V4 id->h.nx < id:=fun id hn=>by have:=ha4.new id hn;simp at this;omega
     have ih1':=ih1.h _ V4 (out++[⟨-1,i,ax,t⟩]) (by simp;omega) gi4;have o4:=hg4.1.one;have o4a:=o4.1;have o4b:=o4.2;have hgoH:=Hide.mk hgo;have gi4H:=Hide.mk gi4;have ih1H:=Hide.mk ih1';have hn4vH:=Hide.mk hn4v;rw [ze (by intro e;exact hb.go e)] at gg4;have ego:=hb.go;have hgn4:gb < H4.nx:=by omega
     clear hg4 ha4 o4 hgo gi4 ih1 ih1' hn4v cA hsb k2 k4;(repeat' first|simp [*,za]|(apply zb<;>intro _ h<;>try simp [-Nat.le_zero_eq] at h))
     refine za1 (n:=F+9) zkw (zbI ih1H.h ?_)
     rintro H5 ⟨V5,o5⟩;have gi5:=o5.in hb gi4H.h;have s5:H5.get H.nx=.cells true [.pure (.int .i64 i),.pure (.int .i64 ax),.pure (.bool hbb)]:=by
      rw [o5.same.get H.nx (by rw [zaw];exact hxn4) (fun hE=>by
       rcases hE with hE|hE
       ·exact hwo2 hE
       ·have:=hn4vH.h _ hE;omega),ze hwo2]
      exact r3
     have n5:=o5.same.nx;rw [zaw] at n5;have hxn5:H.nx < H5.nx:=by omega
     have c2:=cB.h H5 fun j h1 h2=>(o5.same.get j (by rw [zaw];omega) fun h3=>by
      rcases h3 with h3|h3
      ·exact h2 h3
      ·have:=hn4vH.h j h3;omega).trans (hgoH.h.same.get j (by omega) fun h3=>by
      rcases h3 with h3|h3
      ·exact h2 h3
      ·have:=hhi.h.sep j h3;omega)
     have gg5:=gi5.gw;have hgn5:gb < H5.nx:=by omega
     have ih2':=ih2.h _ V5 (out++[⟨-1,i,ax,t⟩]++T1) (by simp;omega) gi5;have ih2H:=Hide.mk ih2';have hg5:=Hide.mk (hgoH.h.trans o5);clear o5 gi5 ih2 ih2' cB r2 r3 gg4 c1 hgoH gi4H ih1H;(repeat' first|simp [*,za]|(apply zb<;>intro _ h<;>try simp [-Nat.le_zero_eq] at h))
     refine za1 (n:=F+9) zkw (zbI ih2H.h ?_)
     rintro H6 ⟨V6,o6⟩;have hg6:=Hide.mk ((hg5.h.trans o6).pre hsm);clear o6 hg5 ih2H c2 s5 gg5;(repeat' first|simp [*,za]|(apply zb<;>intro _ h<;>try simp [-Nat.le_zero_eq] at h));exact ⟨V6,by have:=hg6.h;rw [hTeH.h];simpa [List.append_assoc] using this⟩
 obtain ⟨v',H',h1,rfl,h2⟩:=main;exact ⟨H',h1,h2⟩
theorem zjo {p:Problem} {g:List Nat} (hp:GrowP p g) {mb ob pb gb bs:Nat} (hb:GwB mb ob pb gb bs) {M:AV}:∀ (m n:Nat) (H:Heap) (v:AV) (l:List Box) (V:AV) (out:List Node),muL l < m->SubL l p.boxes.xs->Wf l->BoxG H ob bs v l->out.length+(zb3 p g m l).length<=30000000->GwIn p g mb ob pb gb bs M H V out ->
  ∃ H',Vm.call G (n+m+10) (.fn 73) ([v]++zcW p mb ob pb gb) H=some (.tup [],H')/\∃ V',GwOut ob H H' V V' (out++zb3 p g m l)
 | 0,n,H,v,l,V,out,hm,_,_,_,_,_=>absurd hm (Nat.not_lt_zero _)
 | m+1,n,H,v,l,V,out,hm,hs,hw,hv,hl,hi =>
  zpt hp (m:=m) (F:=n+m) hb (fun H l V out hm hs hw hl hi=>zjo hp hb m n H _ l V out hm hs hw (.inl ⟨_,rfl,rfl⟩) hl hi) H v l V out hm hs hw hv hl hi
end Go.Proofs.YtmmhnfghklppiaaGreat.Vm
