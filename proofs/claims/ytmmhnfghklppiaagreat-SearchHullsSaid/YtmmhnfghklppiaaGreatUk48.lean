/- The chapter's examples: head() returns true, with more fuel; by the machine's own runs in the kernel. The law SearchHulls, on the machine. -/
import Derived.Test.YtmmhnfghklppiaaGreatUk14
import Derived.Test.YtmmhnfghklppiaaGreatUk47
import Derived.Test.YtmmhnfghklppiaaGreatUk8
import Derived.KernelRfl
import Derived.Test.YtmmhnfghklppiaaGreatUk46
namespace Go.Proofs.YtmmhnfghklppiaaGreat.Vm
open Go
set_option linter.unusedSimpArgs false
set_option linter.unusedVariables false
set_option maxHeartbeats 4000000
def iP (n:Int):PV:=.int .i64 n
def pP (a b c d:Int):PV:=.slice false 2 [[iP a,iP b],[iP c,iP d]]
def KQ (a b c d:Int):List PV:=[.int .i64 a,.int .i64 b,.int .i64 c,.int .i64 d]
def qM (id kind lo hi:Int):List PV:=[.int .i64 id,.int .i64 kind,.bool false,.int .i64 0,.int .i64 1,.int .i64 0,.int .i64 lo,.int .i64 hi,.int .i64 0]
def exN:List PV:=[.int .i64 0,.int .i64 6,.bool true,.int .i64 0,.int .i64 1,.int .i64 0,.int .i64 1,.int .i64 5,.int .i64 0]
def uE (fs:List (List PV)):PV:=.agg [.slice false 4 [KQ 0 0 0 0,KQ (-5) 5 (-5) 5],.slice false 9 fs]
def Dl:PV:=uE [qM 4 1 25 25,qM 7 3 0 0]
def TL:PV:=uE [qM 4 1 25 25,qM 7 3 0 0,qM 9 5 2 2]
theorem zuk:zF G 2059 32 []=some Dl:=by kernel_rfl
theorem zog:zF G 2059 31 [Dl]=some (.aQ [.slice false 4 [KQ 0 0 0 0,KQ 3 5 (-4) 4],.int .i64 0]):=by kernel_rfl
theorem zpV:zF G 2059 33 [Dl]=some (.aQ [.int .i64 3,.int .i64 0]):=by kernel_rfl
theorem zsf:zF G 2059 24 [Dl]=some (.aQ [.slice false 4 [KQ 0 0 0 0,KQ 4 5 (-3) 3],.int .i64 0]):=by kernel_rfl
theorem zr5:zF G 2059 15 [Dl,.agg (qM 0 1 20 30)]=some (.aQ [.int .i64 2,.int .i64 0]):=by kernel_rfl
theorem zrL:zF G 2059 35 [Dl,.agg (qM 9 5 2 2)]=some TL:=by kernel_rfl
def fr0:PV:=(.aQ [(.agg [(.bool false),(.slice false 1 [[(.ptr false [(.slice false 1 [[(iP 0)],[(iP 1)]]),(iP 3),(.slice false 4 [[(pP 0 0 4 (-3)),(pP 0 0 4 (-3)),(pP 0 0 4 (-3)),(pP 0 0 4 (-3))],[(pP 0 0 4 (-3)),(pP 0 0 5 0),(pP 0 0 4 (-3)),(pP 0 0 4 3)]]),(pP 0 0 4 (-3))] 0)]])]),(iP 0)])
theorem zpn:zF G 2058 48 [Dl]=some fr0:=by kernel_rfl
def fr1:PV:=(.aQ [(.agg [(.bool false),(.slice false 1 [[(.ptr false [(.slice false 1 [[(iP 0)],[(iP 1)]]),(iP 1),(.slice false 4 [[(pP 0 0 4 3),(pP 0 0 4 3),(pP 0 0 4 3),(pP 0 0 4 3)],[(pP 0 0 4 3),(pP 0 0 4 3),(pP 0 0 4 3),(pP 0 0 4 3)]]),(pP 0 0 4 3)] 0)]])]),(iP 0)])
theorem zpx:zF G 2058 48 [uE [qM 4 1 25 25,qM 7 3 0 0,qM 0 6 1 5]]=some fr1:=by kernel_rfl
def fr2:PV:=(.aQ [(.agg [(.bool false),(.slice false 1 [[(.ptr false [(.slice false 1 [[(iP 0)],[(iP 1)]]),(iP 2),(.slice false 4 [[(pP 0 0 4 (-3)),(pP 0 0 4 (-3)),(pP 0 0 4 (-3)),(pP 0 0 4 (-3))],[(pP 0 0 4 (-3)),(pP 0 0 5 0),(pP 0 0 4 (-3)),(pP 0 0 5 0)]]),(pP 0 0 4 (-3))] 0)]])]),(iP 0)])
theorem zp2:zF G 2058 48 [uE [qM 4 1 25 25,qM 7 3 0 0,exN]]=some fr2:=by kernel_rfl
def fr3:PV:=(.aQ [(.agg [(.bool true),.nils]),(iP 0)])
theorem zp1:zF G 2058 38 [TL]=some fr3:=by kernel_rfl
def fr4:PV:=(.aQ [(.agg [(.bool false),(.slice false 1 [[(.ptr false [(.slice false 1 [[(iP 0)],[(iP 1)]]),(iP 5),(.slice false 4 [[(pP 0 0 2 (-2)),(pP 0 0 2 (-2)),(pP 0 0 2 (-2)),(pP 0 0 2 (-2))],[(pP 0 0 2 (-2)),(pP 0 0 2 (-2)),(pP 0 0 2 (-2)),(pP 0 0 2 2)]]),(pP 0 0 2 (-2))] 0)]])]),(iP 0)])
theorem zqo:zF G 2058 48 [uE [qM 7 3 0 0,qM 9 5 2 2]]=some fr4:=by kernel_rfl
def fr5:PV:=(.aQ [(.agg [(.bool true),.nils]),(iP 0)])
theorem zqx:zF G 2058 48 [uE [qM 4 1 25 25,qM 9 5 2 2]]=some fr5:=by kernel_rfl
def fr6:PV:=(.aQ [(.agg [(.bool false),(.slice false 1 [[(.ptr false [(.slice false 1 [[(iP 0)],[(iP 1)]]),(iP 12),(.slice false 4 [[(pP 0 0 (-5) 0),(pP 0 0 (-5) 0),(pP 0 0 (-5) 0),(pP 0 0 (-5) 0)],[(pP 0 0 (-5) 0),(pP 0 0 5 0),(pP 0 0 0 (-5)),(pP 0 0 0 5)]]),(pP 0 0 (-5) 0)] 0)]])]),(iP 0)])
theorem zpF:zF G 2058 48 [uE [qM 4 1 25 25]]=some fr6:=by kernel_rfl
def tabD:Dk:=[(48,[Dl],fr0),(48,[uE [qM 4 1 25 25,qM 7 3 0 0,qM 0 6 1 5]],fr1),(48,[uE [qM 4 1 25 25,qM 7 3 0 0,exN]],fr2)]
theorem zsS:∀ e∈tabD,zF G 2058 e.1 e.2.1=some e.2.2:=all_cons zpn <| all_cons zpx <| all_cons zp2 all_nil
theorem zqQ:zF G 2059 15 [Dl,.agg (qM 0 6 1 5)]=some (.aQ [.int .i64 3,.int .i64 0]):=zg6 (n:=2058) (fs:=[48]) rfl rfl zsS (by kernel_rfl)
def tabC:Dk:=[(38,[TL],fr3),(48,[uE [qM 7 3 0 0,qM 9 5 2 2]],fr4),(48,[uE [qM 4 1 25 25,qM 9 5 2 2]],fr5),(48,[uE [qM 4 1 25 25]],fr6)]
theorem ztg:∀ e∈tabC,zF G 2058 e.1 e.2.1=some e.2.2:=all_cons zp1 <| all_cons zqo <| all_cons zqx <| all_cons zpF all_nil
theorem zr0:zF G 2059 34 [TL]=some (.aQ [.slice false 1 [[.int .i64 4],[.int .i64 9]],.int .i64 0]):=zg6 (n:=2058) (fs:=[48,38]) rfl rfl ztg (by kernel_rfl)
def tabH:Dk:=[(32,[],Dl),(31,[Dl],.aQ [.slice false 4 [KQ 0 0 0 0,KQ 3 5 (-4) 4],.int .i64 0]),(33,[Dl],.aQ [.int .i64 3,.int .i64 0]),(24,[Dl],.aQ [.slice false 4 [KQ 0 0 0 0,KQ 4 5 (-3) 3],.int .i64 0]),
 (15,[Dl,.agg (qM 0 6 1 5)],.aQ [.int .i64 3,.int .i64 0]),(15,[Dl,.agg (qM 0 1 20 30)],.aQ [.int .i64 2,.int .i64 0]),(35,[Dl,.agg (qM 9 5 2 2)],TL),(34,[TL],.aQ [.slice false 1 [[.int .i64 4],[.int .i64 9]],.int .i64 0])]
theorem zsL:∀ e∈tabH,zF G 2059 e.1 e.2.1=some e.2.2:=all_cons zuk <| all_cons zog <| all_cons zpV <| all_cons zsf <| all_cons zqQ <| all_cons zr5 <| all_cons zrL <| all_cons zr0 all_nil
theorem zp8:zF G 2060 9 []=some (.bool true):=zg6 (n:=2059) (fs:=[32,31,33,24,15,35,34]) rfl rfl zsL (by kernel_rfl)
set_option maxRecDepth 4000
theorem zqB:G.shared 9=false:=by decide
theorem zsJ (H:Heap):zG (zt G 2060) H (.pure (.func 9 [])) []=some (.val (.pure (.bool true))):=zqn (ps:=[]) zqB zp8
theorem zpY (p:Problem) (point:Int):zF G 2061 6 [.agg p.cells,.int .i64 point]=some (.bool true):=by
 refine zy (n:=2060) (zx _) rfl g6 rfl ?_
 have hh:=zsJ;have hs:=fun H=>zf (G:=G) (n:=2060) (H:=H) (caps:=[]) (ps:=[.agg p.cells]) sh10 (e10 2057 p);simp only [Problem.cells,List.map] at hs
 cases xV:pX p with
 | false =>
  rw [xV] at hs;clear xV;(repeat' first|simp [*,zb,c6,Problem.cells]|(apply za<;>intro _ h<;>try simp [-Nat.le_zero_eq] at h))
 | true =>
  rw [xV] at hs;obtain ⟨D,e,E,nS,hS,oS,x,g,h⟩:=zqa p xV point;have few:=zsP xV;have sn:=zlj h.so;have a1:=fun H=>zf (G:=G) (n:=2060) (H:=H) (caps:=[]) (ps:=[.agg p.cells]) sh24 (e24 2007 p D e h.so (.inl (by omega)) sn.1 (fun he s hs=>(sn.2 he s hs).2));have a2:=fun H=>zf (G:=G) (n:=2060) (H:=H) (caps:=[]) (ps:=[.agg p.cells]) sh25 (e25 2049 p E nS hS oS h.sr);obtain ⟨S,Na⟩:∃ S:Sl Box,S=if E≠0 then Sl.nil else hS:=⟨_,rfl⟩
  obtain ⟨L,hLd⟩:∃ L:Sl Box,L=Sl.of (rJ D e p.boxes.xs.length).1:=⟨_,rfl⟩
  have hx:=h.xs;have hl:=h.len;have FP:=h.good;have hzero:=h.zero;have OX:=h.geq;have FL:L.xs=(rJ D e p.boxes.xs.length).1:=by rw [hLd,Sl.fP]
  rw [<- Na] at a2 hx;rw [<- hLd,<- h.eq] at a1;rw [<- FL] at hx hl FP;have a3:=fun H=>zf (G:=G) (n:=2060) (H:=H) (caps:=[]) (ps:=[L.pv Box.cells 4,S.pv Box.cells 4]) sh26 (e26 2059 L S hx.symm (by omega));have a4:=fun H=>zf (G:=G) (n:=2060) (H:=H) (caps:=[]) (ps:=[.agg p.cells,.int .i64 point]) sh21 (e21 1360 p point x g h.ext);have a5:=fun H=>zf (G:=G) (n:=2060) (H:=H) (caps:=[]) (ps:=[.agg p.cells]) sh27 (e27 2057 p);have BC:p.cells=[p.boxes.pv Box.cells 4,p.facts.pv Fact.cells 9]:=rfl;have Xw:x.cells=[.int .i64 x.box.x.lo,.int .i64 x.box.x.hi,.int .i64 x.box.y.lo,.int .i64 x.box.y.hi,(x.ends 0).pv Pt.cells 2,(x.ends 1).pv Pt.cells 2,(x.ends 2).pv Pt.cells 2,(x.ends 3).pv Pt.cells 2,(x.trees 0).pv Node.cells 4,(x.trees 1).pv Node.cells 4,(x.trees 2).pv Node.cells 4,(x.trees 3).pv Node.cells 4]:=rfl;rw [Xw] at a4;rw [BC] at a1 a2 a4 a5;simp only [List.map] at a1 a2 a3 a4 a5;clear Na hLd FL h sn
  by_cases hg:g=0
  .obtain ⟨q,rfl,OD,hq,YL⟩:=FP hg;have c0:=OD.ok;have ZJ:=OD.lt;have a6:=fun H=>zf (G:=G) (n:=2060) (H:=H) (caps:=[]) (ps:=[.agg p.cells,.int .i64 (q:Nat),.agg x.cells]) sh22 (e22 1360 p q x OD);have a7:=fun H=>zf (G:=G) (n:=2060) (H:=H) (caps:=[]) (ps:=[.agg p.cells,.int .i64 (q:Nat),.agg x.cells]) sh23 (e23 1360 p q x OD);rw [Xw,BC] at a6 a7;have hqs:q < S.xs.length:=by rw [hx];exact hq
   have qE:S.xs[q]=x.box:=by
    rw [<- YL]
    congr 1
   have Js:=pR (k:=.i64) (f:=Box.cells) (sz:=4) (s:=S) hqs;rw [qE] at Js;rw [if_neg (by omega)] at OX;rw [hg] at OX a4;subst OX;rw [c0] at a5;have Oj:(q:Int) < p.boxes.xs.length:=by omega
   have hqI2:¬ (p.boxes.xs.length:Int)<=q:=by omega
   have hqI3:¬ (q:Int) < 0:=by omega
   simp only [Box.cells,Span.cells,List.map] at a6 a7 Js;clear hx hl FP hzero OD c0 qE YL Xw BC xV few;(repeat' first|simp [*,zb,c6,Problem.cells,Box.cells,Span.cells,N8,uN,xG]|(apply za<;>intro _ h<;>try simp [-Nat.le_zero_eq] at h))
  .obtain rfl:=hzero hg;have z:(ni:oW).cells=[.int .i64 0,.int .i64 0,.int .i64 0,.int .i64 0,.nils,.nils,.nils,.nils,.nils,.nils,.nils,.nils]:=rfl;rw [<- Xw,z] at a4;clear FP hzero z Xw BC hx hl few xV;obtain ⟨c,hc⟩:∃ c,jL p=c:=⟨_,rfl⟩
   rw [hc] at a5 OX
   by_cases hb:c=0/\¬ (0<=point/\point < p.boxes.xs.length)
   .rw [if_pos hb] at OX;obtain ⟨rfl,vF⟩:=hb;subst OX;clear hc hg
    by_cases Wy:point < 0
    ·(repeat' first|simp [*,zb,c6,Problem.cells,Box.cells,Span.cells,N8,uN,xG]|(apply za<;>intro _ h<;>try simp [-Nat.le_zero_eq] at h))
    .have VR:(p.boxes.xs.length:Int)<=point:=by omega
     have hp2:¬ point < (p.boxes.xs.length:Int):=by omega
     clear vF;(repeat' first|simp [*,zb,c6,Problem.cells,Box.cells,Span.cells,N8,uN,xG]|(apply za<;>intro _ h<;>try simp [-Nat.le_zero_eq] at h))
   .rw [if_neg hb] at OX;subst OX;clear hc
    by_cases c0:c=0
    .subst c0;have Wy:¬ point < 0:=fun h=>hb ⟨rfl,by omega⟩;have VR:point < (p.boxes.xs.length:Int):=Classical.byContradiction fun h=>hb ⟨rfl,by omega⟩;have hp2:¬ (p.boxes.xs.length:Int)<=point:=by omega
     clear hb;(repeat' first|simp [*,zb,c6,Problem.cells,Box.cells,Span.cells,N8,uN,xG]|(apply za<;>intro _ h<;>try simp [-Nat.le_zero_eq] at h))
    .clear hb;(repeat' first|simp [*,zb,c6,Problem.cells,Box.cells,Span.cells,N8,uN,xG]|(apply za<;>intro _ h<;>try simp [-Nat.le_zero_eq] at h))
end Go.Proofs.YtmmhnfghklppiaaGreat.Vm
