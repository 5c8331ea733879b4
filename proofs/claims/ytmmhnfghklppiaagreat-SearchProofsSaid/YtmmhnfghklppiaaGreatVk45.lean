/- The chapter's examples: head() returns true, with more fuel; by the machine's own runs in the kernel. The law SearchProofs, on the machine. -/
import Derived.Test.YtmmhnfghklppiaaGreatVk14
import Derived.Test.YtmmhnfghklppiaaGreatVk44
import Derived.Test.YtmmhnfghklppiaaGreatVk8
import Derived.KernelRfl
import Derived.Test.YtmmhnfghklppiaaGreatVk42
import Derived.Test.YtmmhnfghklppiaaGreatVk43
namespace Go.Proofs.YtmmhnfghklppiaaGreat.Vm
open Go
set_option linter.unusedSimpArgs false
set_option linter.unusedVariables false
set_option maxHeartbeats 4000000
def iP (n:Int):PV:=.int .i64 n
def pP (a b c d:Int):PV:=.slice false 2 [[iP a,iP b],[iP c,iP d]]
def GU (a b c d:Int):List PV:=[.int .i64 a,.int .i64 b,.int .i64 c,.int .i64 d]
def nX (id kind lo hi:Int):List PV:=[.int .i64 id,.int .i64 kind,.bool false,.int .i64 0,.int .i64 1,.int .i64 0,.int .i64 lo,.int .i64 hi,.int .i64 0]
def exN:List PV:=[.int .i64 0,.int .i64 6,.bool true,.int .i64 0,.int .i64 1,.int .i64 0,.int .i64 1,.int .i64 5,.int .i64 0]
def qP (fs:List (List PV)):PV:=.agg [.slice false 4 [GU 0 0 0 0,GU (-5) 5 (-5) 5],.slice false 9 fs]
def yt:PV:=qP [nX 4 1 25 25,nX 7 3 0 0]
def O1:PV:=qP [nX 4 1 25 25,nX 7 3 0 0,nX 9 5 2 2]
theorem zty:zF G 2059 32 []=some yt:=by kernel_rfl
theorem zmz:zF G 2059 31 [yt]=some (.aM [.slice false 4 [GU 0 0 0 0,GU 3 5 (-4) 4],.int .i64 0]):=by kernel_rfl
theorem zpq:zF G 2059 33 [yt]=some (.aM [.int .i64 3,.int .i64 0]):=by kernel_rfl
theorem zqN:zF G 2059 24 [yt]=some (.aM [.slice false 4 [GU 0 0 0 0,GU 4 5 (-3) 3],.int .i64 0]):=by kernel_rfl
theorem zqv:zF G 2059 15 [yt,.agg (nX 0 1 20 30)]=some (.aM [.int .i64 2,.int .i64 0]):=by kernel_rfl
theorem zrb:zF G 2059 35 [yt,.agg (nX 9 5 2 2)]=some O1:=by kernel_rfl
def fr0:PV:=(.aM [(.agg [(.bool false),(.slice false 1 [[(.ptr false [(.slice false 1 [[(iP 0)],[(iP 1)]]),(iP 3),(.slice false 4 [[(pP 0 0 4 (-3)),(pP 0 0 4 (-3)),(pP 0 0 4 (-3)),(pP 0 0 4 (-3))],[(pP 0 0 4 (-3)),(pP 0 0 5 0),(pP 0 0 4 (-3)),(pP 0 0 4 3)]]),(pP 0 0 4 (-3))] 0)]])]),(iP 0)])
theorem zoL:zF G 2058 48 [yt]=some fr0:=by kernel_rfl
def fr1:PV:=(.aM [(.agg [(.bool false),(.slice false 1 [[(.ptr false [(.slice false 1 [[(iP 0)],[(iP 1)]]),(iP 1),(.slice false 4 [[(pP 0 0 4 3),(pP 0 0 4 3),(pP 0 0 4 3),(pP 0 0 4 3)],[(pP 0 0 4 3),(pP 0 0 4 3),(pP 0 0 4 3),(pP 0 0 4 3)]]),(pP 0 0 4 3)] 0)]])]),(iP 0)])
theorem zpF:zF G 2058 48 [qP [nX 4 1 25 25,nX 7 3 0 0,nX 0 6 1 5]]=some fr1:=by kernel_rfl
def fr2:PV:=(.aM [(.agg [(.bool false),(.slice false 1 [[(.ptr false [(.slice false 1 [[(iP 0)],[(iP 1)]]),(iP 2),(.slice false 4 [[(pP 0 0 4 (-3)),(pP 0 0 4 (-3)),(pP 0 0 4 (-3)),(pP 0 0 4 (-3))],[(pP 0 0 4 (-3)),(pP 0 0 5 0),(pP 0 0 4 (-3)),(pP 0 0 5 0)]]),(pP 0 0 4 (-3))] 0)]])]),(iP 0)])
theorem zoX:zF G 2058 48 [qP [nX 4 1 25 25,nX 7 3 0 0,exN]]=some fr2:=by kernel_rfl
def fr3:PV:=(.aM [(.agg [(.bool true),.nils]),(iP 0)])
theorem zpG:zF G 2058 38 [O1]=some fr3:=by kernel_rfl
def fr4:PV:=(.aM [(.agg [(.bool false),(.slice false 1 [[(.ptr false [(.slice false 1 [[(iP 0)],[(iP 1)]]),(iP 5),(.slice false 4 [[(pP 0 0 2 (-2)),(pP 0 0 2 (-2)),(pP 0 0 2 (-2)),(pP 0 0 2 (-2))],[(pP 0 0 2 (-2)),(pP 0 0 2 (-2)),(pP 0 0 2 (-2)),(pP 0 0 2 2)]]),(pP 0 0 2 (-2))] 0)]])]),(iP 0)])
theorem zpJ:zF G 2058 48 [qP [nX 7 3 0 0,nX 9 5 2 2]]=some fr4:=by kernel_rfl
def fr5:PV:=(.aM [(.agg [(.bool true),.nils]),(iP 0)])
theorem zpB:zF G 2058 48 [qP [nX 4 1 25 25,nX 9 5 2 2]]=some fr5:=by kernel_rfl
def fr6:PV:=(.aM [(.agg [(.bool false),(.slice false 1 [[(.ptr false [(.slice false 1 [[(iP 0)],[(iP 1)]]),(iP 12),(.slice false 4 [[(pP 0 0 (-5) 0),(pP 0 0 (-5) 0),(pP 0 0 (-5) 0),(pP 0 0 (-5) 0)],[(pP 0 0 (-5) 0),(pP 0 0 5 0),(pP 0 0 0 (-5)),(pP 0 0 0 5)]]),(pP 0 0 (-5) 0)] 0)]])]),(iP 0)])
theorem zpK:zF G 2058 48 [qP [nX 4 1 25 25]]=some fr6:=by kernel_rfl
def tabD:yo:=[(48,[yt],fr0),(48,[qP [nX 4 1 25 25,nX 7 3 0 0,nX 0 6 1 5]],fr1),(48,[qP [nX 4 1 25 25,nX 7 3 0 0,exN]],fr2)]
theorem zrR:∀ e∈tabD,zF G 2058 e.1 e.2.1=some e.2.2:=all_cons zoL <| all_cons zpF <| all_cons zoX all_nil
theorem zqE:zF G 2059 15 [yt,.agg (nX 0 6 1 5)]=some (.aM [.int .i64 3,.int .i64 0]):=zgu (n:=2058) (fs:=[48]) rfl rfl zrR (by kernel_rfl)
def tabC:yo:=[(38,[O1],fr3),(48,[qP [nX 7 3 0 0,nX 9 5 2 2]],fr4),(48,[qP [nX 4 1 25 25,nX 9 5 2 2]],fr5),(48,[qP [nX 4 1 25 25]],fr6)]
theorem zr3:∀ e∈tabC,zF G 2058 e.1 e.2.1=some e.2.2:=all_cons zpG <| all_cons zpJ <| all_cons zpB <| all_cons zpK all_nil
theorem zqB:zF G 2059 34 [O1]=some (.aM [.slice false 1 [[.int .i64 4],[.int .i64 9]],.int .i64 0]):=zgu (n:=2058) (fs:=[48,38]) rfl rfl zr3 (by kernel_rfl)
def tabH:yo:=[(32,[],yt),(31,[yt],.aM [.slice false 4 [GU 0 0 0 0,GU 3 5 (-4) 4],.int .i64 0]),(33,[yt],.aM [.int .i64 3,.int .i64 0]),(24,[yt],.aM [.slice false 4 [GU 0 0 0 0,GU 4 5 (-3) 3],.int .i64 0]),
 (15,[yt,.agg (nX 0 6 1 5)],.aM [.int .i64 3,.int .i64 0]),(15,[yt,.agg (nX 0 1 20 30)],.aM [.int .i64 2,.int .i64 0]),(35,[yt,.agg (nX 9 5 2 2)],O1),(34,[O1],.aM [.slice false 1 [[.int .i64 4],[.int .i64 9]],.int .i64 0])]
theorem zrP:∀ e∈tabH,zF G 2059 e.1 e.2.1=some e.2.2:=all_cons zty <| all_cons zmz <| all_cons zpq <| all_cons zqN <| all_cons zqE <| all_cons zqv <| all_cons zrb <| all_cons zqB all_nil
theorem zoF:zF G 2060 9 []=some (.bool true):=zgu (n:=2059) (fs:=[32,31,33,24,15,35,34]) rfl rfl zrP (by kernel_rfl)
set_option maxRecDepth 4000
theorem zrm:G.shared 9=false:=by decide
theorem zr4 (H:Heap):zD (zn G 2060) H (.pure (.func 9 [])) []=some (.val (.pure (.bool true))):=zpm (ps:=[]) zrm zoF
theorem zl7 {r:Int×Int} {p:Problem} {f:Fact} {gs:List (List Nat)} {k:Nat} (h:r=(2,0)->vG p f gs k):(Cj r (Cm p f gs k)).1.length<=262144:=by
 by_cases hr:r=(2,0)
 .have hp:Cj r (Cm p f gs k)=(Cm p f gs k,0):=by rw [hr];unfold Cj;simp
  rw [hp];have:=(h hr).tr.2;exact this
 .obtain ⟨a,e⟩:=r;have:(Cj (a,e) (Cm p f gs k)).1=[]:=by
   unfold Cj
   split
   .rfl
   .split
    .rfl
    .rename_i h1 h2;exfalso
     refine hr ?_
     simp only at h1 h2;rw [show a=2 by omega,show e=0 by omega]
  rw [this];simp
theorem zng (p:Problem) (f g:Fact) (x:lL):zF G 2061 7 [.agg p.cells,.agg f.cells,.agg g.cells,.agg x.cells]=some (.bool true):=by
 refine zx (n:=2060) (zw _) rfl g7 rfl ?_
 have hh:=zr4;have hs:=fun H=>zg (G:=G) (n:=2060) (H:=H) (caps:=[]) (ps:=[.agg p.cells]) sh10 (e10 2057 p);simp only [Problem.cells,List.map] at hs
 cases tO:pW p with
 | false =>
  rw [tO] at hs;clear tO;(repeat' first|simp [*,za,c7,Problem.cells,Fact.cells,Span.cells,lL.cells,Node.cells]|(apply zb<;>intro _ h<;>try simp [-Nat.le_zero_eq] at h))
 | true =>
  rw [tO] at hs
  by_cases n1:(4:Int) < p.boxes.xs.length
  .clear tO;(repeat' first|simp [*,za,c7,Problem.cells,Fact.cells,Span.cells,lL.cells,Node.cells]|(apply zb<;>intro _ h<;>try simp [-Nat.le_zero_eq] at h))
  by_cases n2:(15:Int) < p.facts.xs.length
  .clear tO;(repeat' first|simp [*,za,c7,Problem.cells,Fact.cells,Span.cells,lL.cells,Node.cells]|(apply zb<;>intro _ h<;>try simp [-Nat.le_zero_eq] at h))
  obtain ⟨D1,e1,D2,e2,D3,e3,h⟩:=zo1 p f;obtain ⟨gs,k,P7⟩:=zqA tO h;have a3:=fun H=>zg (G:=G) (n:=2060) (H:=H) (caps:=[]) (ps:=[.agg p.cells,.agg f.cells]) sh17 (e17 1360 p f D1 D2 D3 e1 e2 e3 h gs k P7);have oZ:∀ f,zK p f=0->fU p.boxes.xs<=600:=fun f h0=>zsZ tO (GM (t:=true) h0).1;have hlen:=zl7 P7;obtain ⟨⟨T0,pe⟩,hT⟩:∃ r,Cj (A8 (zK p f) D1 e1 D2 e2 D3 e3) (Cm p f gs k)=r:=⟨_,rfl⟩
  rw [hT] at a3 hlen;obtain ⟨T,hTd⟩:∃ T,T=Sl.of T0:=⟨_,rfl⟩
  have hTl:T.xs.length<=200000000000:=by rw [hTd,Sl.lZ];simp only at hlen;omega
  have a4:=fun H=>zg (G:=G) (n:=2060) (H:=H) (caps:=[]) (ps:=[T.pv Node.cells 4,.agg x.cells]) sh20 (e20 2059 T x hTl);obtain ⟨S,hS⟩:∃ S:Sl Node,S=Sl.mk false (Ji T.xs x):=⟨_,rfl⟩
  have Tf:S.xs.length < 4000000000000000000:=by
   rw [hS,Sl.jg];have:=zqn T.xs x;omega
  rw [<- hTd] at a3;rw [<- hS] at a4;have a5:=fun H=>zg (G:=G) (n:=2060) (H:=H) (caps:=[]) (ps:=[.agg p.cells,.agg f.cells,S.pv Node.cells 4]) sh19 (e19 1360 p f S Tf (oZ f));have a6:=fun H=>zg (G:=G) (n:=2060) (H:=H) (caps:=[]) (ps:=[.agg p.cells,.agg f.cells,S.pv Node.cells 4]) sh18 (e18 1360 p f S Tf (oZ f));have a7:=fun H=>zg (G:=G) (n:=2060) (H:=H) (caps:=[]) (ps:=[.agg p.cells,.agg g.cells,S.pv Node.cells 4]) sh19 (e19 1360 p g S Tf (oZ g));have a8:=fun H=>zg (G:=G) (n:=2060) (H:=H) (caps:=[]) (ps:=[.agg p.cells,.agg g.cells,S.pv Node.cells 4]) sh18 (e18 1360 p g S Tf (oZ g));generalize uN p f S.xs=z1 at *;generalize uN p g S.xs=z2 at *;simp only [Problem.cells,Fact.cells,Span.cells,lL.cells,Node.cells,List.map] at a3 a4 a5 a6 a7 a8;clear P7 oZ hlen hT hTd hTl hS Tf h tO;(repeat' first|simp [*,za,c7,Problem.cells,Fact.cells,Span.cells,lL.cells,Node.cells]|(apply zb<;>intro _ h<;>try simp [-Nat.le_zero_eq] at h))
end Go.Proofs.YtmmhnfghklppiaaGreat.Vm
