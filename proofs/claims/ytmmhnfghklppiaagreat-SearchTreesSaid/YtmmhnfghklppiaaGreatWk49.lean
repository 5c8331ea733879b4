/- The chapter's examples: head() returns true, with more fuel; by the machine's own runs in the kernel. -/
import Derived.Test.YtmmhnfghklppiaaGreatWk14
import Derived.Test.YtmmhnfghklppiaaGreatWk48
import Derived.Test.YtmmhnfghklppiaaGreatWk8
import Derived.KernelRfl
namespace Go.Proofs.YtmmhnfghklppiaaGreat.Vm
open Go
set_option linter.unusedSimpArgs false
set_option linter.unusedVariables false
set_option maxHeartbeats 4000000
def iP (n:Int):PV:=.int .i64 n
def pP (a b c d:Int):PV:=.slice false 2 [[iP a,iP b],[iP c,iP d]]
def JJ (a b c d:Int):List PV:=[.int .i64 a,.int .i64 b,.int .i64 c,.int .i64 d]
def qo (id kind lo hi:Int):List PV:=[.int .i64 id,.int .i64 kind,.bool false,.int .i64 0,.int .i64 1,.int .i64 0,.int .i64 lo,.int .i64 hi,.int .i64 0]
def exN:List PV:=[.int .i64 0,.int .i64 6,.bool true,.int .i64 0,.int .i64 1,.int .i64 0,.int .i64 1,.int .i64 5,.int .i64 0]
def tH (fs:List (List PV)):PV:=.agg [.slice false 4 [JJ 0 0 0 0,JJ (-5) 5 (-5) 5],.slice false 9 fs]
def BP:PV:=tH [qo 4 1 25 25,qo 7 3 0 0]
def Rt:PV:=tH [qo 4 1 25 25,qo 7 3 0 0,qo 9 5 2 2]
theorem zul:zK G 2059 32 []=some BP:=by kernel_rfl
theorem zn9:zK G 2059 31 [BP]=some (.aQ [.slice false 4 [JJ 0 0 0 0,JJ 3 5 (-4) 4],.int .i64 0]):=by kernel_rfl
theorem zqv:zK G 2059 33 [BP]=some (.aQ [.int .i64 3,.int .i64 0]):=by kernel_rfl
theorem zrh:zK G 2059 24 [BP]=some (.aQ [.slice false 4 [JJ 0 0 0 0,JJ 4 5 (-3) 3],.int .i64 0]):=by kernel_rfl
theorem zrq:zK G 2059 15 [BP,.agg (qo 0 1 20 30)]=some (.aQ [.int .i64 2,.int .i64 0]):=by kernel_rfl
theorem zrH:zK G 2059 35 [BP,.agg (qo 9 5 2 2)]=some Rt:=by kernel_rfl
def fr0:PV:=(.aQ [(.agg [(.bool false),(.slice false 1 [[(.ptr false [(.slice false 1 [[(iP 0)],[(iP 1)]]),(iP 3),(.slice false 4 [[(pP 0 0 4 (-3)),(pP 0 0 4 (-3)),(pP 0 0 4 (-3)),(pP 0 0 4 (-3))],[(pP 0 0 4 (-3)),(pP 0 0 5 0),(pP 0 0 4 (-3)),(pP 0 0 4 3)]]),(pP 0 0 4 (-3))] 0)]])]),(iP 0)])
theorem zpo:zK G 2058 48 [BP]=some fr0:=by kernel_rfl
def fr1:PV:=(.aQ [(.agg [(.bool false),(.slice false 1 [[(.ptr false [(.slice false 1 [[(iP 0)],[(iP 1)]]),(iP 1),(.slice false 4 [[(pP 0 0 4 3),(pP 0 0 4 3),(pP 0 0 4 3),(pP 0 0 4 3)],[(pP 0 0 4 3),(pP 0 0 4 3),(pP 0 0 4 3),(pP 0 0 4 3)]]),(pP 0 0 4 3)] 0)]])]),(iP 0)])
theorem zqs:zK G 2058 48 [tH [qo 4 1 25 25,qo 7 3 0 0,qo 0 6 1 5]]=some fr1:=by kernel_rfl
def fr2:PV:=(.aQ [(.agg [(.bool false),(.slice false 1 [[(.ptr false [(.slice false 1 [[(iP 0)],[(iP 1)]]),(iP 2),(.slice false 4 [[(pP 0 0 4 (-3)),(pP 0 0 4 (-3)),(pP 0 0 4 (-3)),(pP 0 0 4 (-3))],[(pP 0 0 4 (-3)),(pP 0 0 5 0),(pP 0 0 4 (-3)),(pP 0 0 5 0)]]),(pP 0 0 4 (-3))] 0)]])]),(iP 0)])
theorem zqm:zK G 2058 48 [tH [qo 4 1 25 25,qo 7 3 0 0,exN]]=some fr2:=by kernel_rfl
def fr3:PV:=(.aQ [(.agg [(.bool true),.nils]),(iP 0)])
theorem zqd:zK G 2058 38 [Rt]=some fr3:=by kernel_rfl
def fr4:PV:=(.aQ [(.agg [(.bool false),(.slice false 1 [[(.ptr false [(.slice false 1 [[(iP 0)],[(iP 1)]]),(iP 5),(.slice false 4 [[(pP 0 0 2 (-2)),(pP 0 0 2 (-2)),(pP 0 0 2 (-2)),(pP 0 0 2 (-2))],[(pP 0 0 2 (-2)),(pP 0 0 2 (-2)),(pP 0 0 2 (-2)),(pP 0 0 2 2)]]),(pP 0 0 2 (-2))] 0)]])]),(iP 0)])
theorem zpv:zK G 2058 48 [tH [qo 7 3 0 0,qo 9 5 2 2]]=some fr4:=by kernel_rfl
def fr5:PV:=(.aQ [(.agg [(.bool true),.nils]),(iP 0)])
theorem zpm:zK G 2058 48 [tH [qo 4 1 25 25,qo 9 5 2 2]]=some fr5:=by kernel_rfl
def fr6:PV:=(.aQ [(.agg [(.bool false),(.slice false 1 [[(.ptr false [(.slice false 1 [[(iP 0)],[(iP 1)]]),(iP 12),(.slice false 4 [[(pP 0 0 (-5) 0),(pP 0 0 (-5) 0),(pP 0 0 (-5) 0),(pP 0 0 (-5) 0)],[(pP 0 0 (-5) 0),(pP 0 0 5 0),(pP 0 0 0 (-5)),(pP 0 0 0 5)]]),(pP 0 0 (-5) 0)] 0)]])]),(iP 0)])
theorem zpu:zK G 2058 48 [tH [qo 4 1 25 25]]=some fr6:=by kernel_rfl
def tabD:BO:=[(48,[BP],fr0),(48,[tH [qo 4 1 25 25,qo 7 3 0 0,qo 0 6 1 5]],fr1),(48,[tH [qo 4 1 25 25,qo 7 3 0 0,exN]],fr2)]
theorem zsJ:∀ e∈tabD,zK G 2058 e.1 e.2.1=some e.2.2:=all_cons zpo <| all_cons zqs <| all_cons zqm all_nil
theorem zqE:zK G 2059 15 [BP,.agg (qo 0 6 1 5)]=some (.aQ [.int .i64 3,.int .i64 0]):=zg5 (n:=2058) (fs:=[48]) rfl rfl zsJ (by kernel_rfl)
def tabC:BO:=[(38,[Rt],fr3),(48,[tH [qo 7 3 0 0,qo 9 5 2 2]],fr4),(48,[tH [qo 4 1 25 25,qo 9 5 2 2]],fr5),(48,[tH [qo 4 1 25 25]],fr6)]
theorem ztb:∀ e∈tabC,zK G 2058 e.1 e.2.1=some e.2.2:=all_cons zqd <| all_cons zpv <| all_cons zpm <| all_cons zpu all_nil
theorem zro:zK G 2059 34 [Rt]=some (.aQ [.slice false 1 [[.int .i64 4],[.int .i64 9]],.int .i64 0]):=zg5 (n:=2058) (fs:=[48,38]) rfl rfl ztb (by kernel_rfl)
def tabH:BO:=[(32,[],BP),(31,[BP],.aQ [.slice false 4 [JJ 0 0 0 0,JJ 3 5 (-4) 4],.int .i64 0]),(33,[BP],.aQ [.int .i64 3,.int .i64 0]),(24,[BP],.aQ [.slice false 4 [JJ 0 0 0 0,JJ 4 5 (-3) 3],.int .i64 0]),
 (15,[BP,.agg (qo 0 6 1 5)],.aQ [.int .i64 3,.int .i64 0]),(15,[BP,.agg (qo 0 1 20 30)],.aQ [.int .i64 2,.int .i64 0]),(35,[BP,.agg (qo 9 5 2 2)],Rt),(34,[Rt],.aQ [.slice false 1 [[.int .i64 4],[.int .i64 9]],.int .i64 0])]
theorem ztf:∀ e∈tabH,zK G 2059 e.1 e.2.1=some e.2.2:=all_cons zul <| all_cons zn9 <| all_cons zqv <| all_cons zrh <| all_cons zqE <| all_cons zrq <| all_cons zrH <| all_cons zro all_nil
theorem zpE:zK G 2060 9 []=some (.bool true):=zg5 (n:=2059) (fs:=[32,31,33,24,15,35,34]) rfl rfl ztf (by kernel_rfl)
end Go.Proofs.YtmmhnfghklppiaaGreat.Vm
