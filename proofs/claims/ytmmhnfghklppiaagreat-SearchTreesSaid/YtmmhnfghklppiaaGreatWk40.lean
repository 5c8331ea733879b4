/- Prove, CheckProof and CheckTree: the program's, walked. ref3.Fits, CheckTree, Against, Decide, CheckProof: walked. -/
import Derived.Test.YtmmhnfghklppiaaGreatWk32
import Derived.Test.YtmmhnfghklppiaaGreatWk26
import Derived.Test.YtmmhnfghklppiaaGreatWk33
import Derived.Test.YtmmhnfghklppiaaGreatWk27
import Derived.Test.YtmmhnfghklppiaaGreatWk39
namespace Go.Proofs.YtmmhnfghklppiaaGreat.Vm
open Go
set_option linter.unusedSimpArgs false
set_option linter.unusedVariables false
set_option maxHeartbeats 8000000
set_option maxRecDepth 4000
def DC (p:Problem) (tree:List Node):Int:=if zQ p≠0 then zQ p else if 262144 < tree.length then 2 else if rf p.facts.xs p.boxes.xs tree=true then 0 else 8
theorem sh14:G.shared 14=false:=by decide
theorem e14 (n:Nat) (p:Problem) (tree:Sl Node) (wu:tree.xs.length < 4000000000000000000) (nX:zQ p=0->iq p.boxes.xs<=600):zK G (n+700) 14 [.agg p.cells,tree.pv Node.cells 4]=some (.int .i64 (DC p tree.xs)):=by
 refine zz (zy _) rfl g14 rfl ?_
 have hd:=fun H=>ze (G:=G) (n:=n+699) (H:=H) (caps:=[]) (ps:=[.agg p.cells]) sh45 (e45 (n+696) p);simp only [Problem.cells,List.map] at hd
 by_cases he:zQ p=0
 case neg =>
  have hp:DC p tree.xs=zQ p:=by unfold DC;rw [if_pos he]
  rw [hp];generalize zQ p=c at *;clear hp nX;(repeat' first|simp [*,zb,c14,Problem.cells]|(apply za<;>intro _ h<;>try simp [-Nat.le_zero_eq] at h))
 by_cases ht:262144 < tree.xs.length
 .have hp:DC p tree.xs=2:=by unfold DC;rw [if_neg (by simp [he]),if_pos ht]
  have pQ:(262144:Int) < tree.xs.length:=by omega
  rw [hp];rw [he] at hd;clear hp nX he;(repeat' first|simp [*,zb,c14,Problem.cells]|(apply za<;>intro _ h<;>try simp [-Nat.le_zero_eq] at h))
 have ok:=bW.1 he;have pQ:¬ (262144:Int) < tree.xs.length:=by omega
 have hf:=fun H=>ze (G:=G) (n:=n+699) (H:=H) (caps:=[]) (ps:=[.agg p.cells,tree.pv Node.cells 4]) sh46 (e46 (n+59) p ok tree wu (nX he));have hp:DC p tree.xs=if rf p.facts.xs p.boxes.xs tree.xs=true then 0 else 8:=by unfold DC;rw [if_neg (by simp [he]),if_neg ht]
 rw [hp];rw [he] at hd;generalize rf p.facts.xs p.boxes.xs tree.xs=B at *;simp only [Problem.cells,List.map] at hf;clear hp nX he ok ht
 cases B
 ·(repeat' first|simp [*,zb,c14,Problem.cells]|(apply za<;>intro _ h<;>try simp [-Nat.le_zero_eq] at h))
 ·(repeat' first|simp [*,zb,c14,Problem.cells]|(apply za<;>intro _ h<;>try simp [-Nat.le_zero_eq] at h))
theorem zjt {α:Type} {f:α->List PV} {sz bytes id:Nat} {H:Heap} {b:AV} {l m:List α} {k:AV->Heap->Prop} {u} (au:H.get id=.cells true (zq f l)) (hf:∀ a,(f a).length=sz) (h0:0 < sz) (bG:∀ a,(f a).all PV.one=true)
  (hb:zO H sz b=some (zq f m,m.length)) (hm:(l.length+m.length)*sz<=zo/\(l.length+m.length)*bytes<=zo)
  (hk:∀ id' H',H'.get id'=.cells true (zq f (l++m))->H.nx<=H'.nx->(∀ i,i < H.nx->i≠id->H'.get i=H.get i)->(id'=id\/H.nx<=id')->k (.row id' sz 0 (l.length+m.length)) H'):wpE 0 (zm H sz bytes (.row id sz 0 l.length) b) H k u:=by
 have ho:=Tv bG m;have hlen:=BB hf l
 by_cases Br:m.length=0
 .have hl:m=[]:=List.eq_nil_of_length_eq_zero Br;subst hl;have:zm H sz bytes (.row id sz 0 l.length) b=some (.upd (.row id sz 0 l.length) (H.set id (.cells true (zq f l)))):=by
   simp only [zm,hb,ho,au,QG];simp only [Bool.not_true,Bool.false_eq_true,if_false,if_true,List.all_nil,List.length_nil,Nat.add_zero,Nat.zero_mul,Nat.zero_add,List.append_nil];rw [if_pos (by rw [hlen];exact Nat.le_refl _),List.take_of_length_le (by rw [hlen];exact Nat.le_refl _),List.drop_eq_nil_of_le (by rw [hlen];exact Nat.le_refl _),List.append_nil]
  rw [this,J6];exact hk id _ (by rw [LB (zx au),List.append_nil]) (Nat.le_refl _) (fun i hi hn=>zf hn) (.inl rfl)
 .have uN:¬ (0*sz+(l.length+m.length)*sz<=(zq f l).length):=by
   rw [hlen,Nat.add_mul];have:=Nat.mul_pos (Nat.pos_of_ne_zero Br) h0;omega
  have:zm H sz bytes (.row id sz 0 l.length) b=some (.upd (.row H.nx sz 0 (l.length+m.length)) ((H.set id .dead).alloc (.cells true (zq f l++zq f m)))):=by
   simp only [zm,hb,ho,au];simp only [Bool.not_true,Bool.false_eq_true,if_false,if_true];rw [if_neg uN];simp only [true_and];rw [if_pos ⟨hlen.symm,hm⟩]
  rw [this,J6]
  refine hk H.nx _ ?_ (Nat.le_succ _) (fun i hi hn=>?_) (.inr (Nat.le_refl _))
  .have:(H.set id .dead).nx=H.nx:=rfl;rw [<- this,CQ,Ep]
  .rw [zg (by exact hi),zf hn]
theorem sh44:G.shared 44=false:=by decide
theorem e44 (n:Nat) (p:Problem) (ok:ae p) (tree:Sl Node) (wu:tree.xs.length < 4000000000000000000) (nX:iq p.boxes.xs<=600):zK G (n+640) 44 [.agg p.cells,tree.pv Node.cells 4]=some (.bool (rf p.facts.xs p.boxes.xs tree.xs)):=by
 refine zz (zy _) rfl g44 rfl ?_
 have nb:=ok.nb;have IU:=vI ok;generalize hR:rf p.facts.xs p.boxes.xs tree.xs=R;have hH:=Hide.mk hR;clear hR;obtain ⟨n',jD⟩:∃ n',n+639=n'+(iq p.boxes.xs+1)+8:=⟨n+639 - (iq p.boxes.xs+1) - 8,by omega⟩
 have PL:=Hide.mk (fun (H:Heap) (lb:Nat) (h:0≠lb) (h1:H.get 0=qD p tree 0 true) (h2:H.get lb=.cells true (zq Box.cells p.boxes.xs))=>ziv ok wu h rfl (iq p.boxes.xs+1) n' H p.boxes.xs 0 true (Nat.lt_succ_self _) (aP.refl _) IU (Nat.zero_le _) h1 h2);rw [<- jD] at PL;clear jD;(repeat' first|simp [*,zb,c44,Problem.cells]|(apply za<;>intro _ h<;>try simp [-Nat.le_zero_eq] at h))
 refine zjt (f:=Box.cells) (sz:=4) (id:=1) (l:=[]) (m:=p.boxes.xs) ?_ (fun _=>rfl) (by decide) (fun _=>rfl) ?_ ?_ ?_
 .simp [zq]
 .exact Kr (f:=Box.cells) (sz:=4) (fun _=>rfl) _
 .simp only [zo,List.length_nil];omega
 intro lb H1 hlb bX ah au;simp only [List.nil_append] at hlb;simp at bX;have k0:H1.get 0=qD p tree 0 true:=by
  rw [ah 0 (by simp) (by decide)];simp [qD]
 have hlb0:0≠lb:=by
  rcases au with h|h
  .omega
  .simp at h;omega
 have J5:=Hide.mk (PL.h H1 lb hlb0 k0 hlb);have mM:rf p.facts.xs p.boxes.xs tree.xs=R:=hH.h;unfold rf at mM;obtain ⟨⟨b1,a1⟩,uj⟩:∃ r,rG p.facts.xs tree.xs (iq p.boxes.xs+1) p.boxes.xs 0=r:=⟨_,rfl⟩
 have hrw:Gv p tree (iq p.boxes.xs+1) p.boxes.xs 0 true=(b1,a1):=by unfold Gv;rw [if_pos rfl];exact uj
 rw [hrw] at J5;rw [uj] at mM;simp only at mM;clear PL ah au uj hrw hH k0 hlb;(repeat' first|simp [*,zb]|(apply za<;>intro _ h<;>try simp [-Nat.le_zero_eq] at h))
 refine QF Vl (yl J5.h ?_)
 intro H2 o2;have g2:=o2.at_;have n2:=o2.same.nx;have SV:0 < H2.nx:=by omega
 unfold qD at g2;simp only at g2;clear o2 J5
 cases b1 with
 | false =>
  have hR:R=false:=by rw [<- mM];rfl
  subst hR;simp [*,zb]
 | true =>
  have hR:R=decide (a1=tree.xs.length):=by rw [<- mM];rfl
  have U4:decide ((a1:Int)=tree.xs.length)=decide (a1=tree.xs.length):=by rw [decide_eq_decide];omega
  subst hR;simp [*,zb]
end Go.Proofs.YtmmhnfghklppiaaGreat.Vm
