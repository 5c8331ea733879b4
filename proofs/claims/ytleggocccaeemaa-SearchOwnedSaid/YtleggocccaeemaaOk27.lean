/- narrow and Narrow, whose boxes the caller takes over. Hull, whose boxes the caller takes over. -/
import Derived.Test.YtleggocccaeemaaOk25
import Derived.Test.YtleggocccaeemaaOk26
namespace Go.Proofs.Ytleggocccaeemaa.Vm
open Go
set_option linter.unusedSimpArgs false
set_option linter.unusedVariables false
set_option maxHeartbeats 4000000
set_option maxRecDepth 4000
theorem zdg:zdG Box.cells:=fun a=>rfl
theorem zgM:zdG Fact.cells:=fun a=>rfl
def zp1 (r:Option (List Box)) (v:AV) (H:Heap):Prop:=∃ x,v=.tup [x,.pure (.bool r.isSome)]/\OwnV Box.cells 4 H x (r.getD [])
theorem zld (n:Nat) (p:Problem) (ok:CheckOk p) (r:Option (List Box)) (hr:IsNar zaM p.facts.xs p.boxes.xs r):∃ v H',Vm.call G (n+7) (.fn 23) [.pure (.agg p.cells)] Heap.empty=some (v,H')/\zp1 r v H':=by
 obtain ⟨bs,fs⟩:=p;have nb:bs.xs.length<=12:=ok.nb;have nf:fs.xs.length<=60:=ok.nf;have hAll:=fun H=>zh (G:=G) (n:=n+6) (H:=H) (caps:=[]) (ps:=[fs.pv Fact.cells 9]) sh46 (e46 (n+5) fs (by omega));simp only [List.map_cons,List.map_nil] at hAll;have hBad:Hide (∀ (is:Sl Int) (l:Sl Box),okIs fs.xs is.xs->is.xs.length<=60->SubL l.xs bs.xs->Wf l.xs->zI G (n+6) 47 [fs.pv Fact.cells 9,is.pv intF 1,l.pv Box.cells 4]=some (.int .i64 (badI fs.xs l.xs is.xs))) :=
  ⟨fun is l h1 h2 h3 h4=>e47 n fs is l h1 (by omega) (fun f hf=>ziY ok h3 h4 hf)⟩
 have ho:=zna (n+5);have okH:=Hide.mk ok;have hrH:=Hide.mk hr
 by_cases hN:bs.xs=[]
 ·have hf0:fs.xs=[]:=by
   cases hfx:fs.xs with
   | nil=>rfl
   | cons f l =>
    have:=(za5 f _).1 (ok.fact f (by show f∈fs.xs;rw [hfx];simp));have e:((Problem.mk bs fs).boxes.xs.length:Int)=0:=by show (bs.xs.length:Int)=0;rw [hN];rfl
    omega
  have hrs:r=some []:=hrH.h.unique (s:=some []) (by
   show IsNar zaM fs.xs bs.xs (some []);rw [hN];exact ⟨Holds'.init (fun b hb=>by simp at hb),fun i hi=>by simp at hi⟩)
  subst hrs;have hB0:badI fs.xs [] (zah fs.xs.length)=-1:=by rw [hf0];rfl
  have hbH:=Hide.mk (hBad.h (Sl.mk false (zah fs.xs.length)));have hbl:bs.xs.length=0:=by rw [hN];rfl
  have hNH:=Hide.mk hN;clear hr hf0 hN
  refine zbg rfl g23 rfl ?_
  (repeat' first|simp [*,zb,c23,Problem.cells]|(apply za<;>intro _ h<;>try simp [-Nat.le_zero_eq] at h))
  refine zaW (by omega) ?_
  intro v H1 hv hvn hnx hsame hnew;rw [hNH.h] at hv;obtain ⟨s0,hs0,hf0⟩:=zkC (n:=10) (f:=Box.cells) (sz:=4) (fun _=>rfl) hv;have c0:=hbH.h s0 (zcr _) (by simp [zay];omega) (by rw [hs0,hNH.h];exact SubL.refl _) (by rw [hs0];exact fun b hb=>by simp at hb);rw [hs0,Sl.xs_mk,hB0] at c0;have hlv:=hv.len;have hone:=hv.one;simp only [List.length_nil] at hlv;have hvH:=Hide.mk hv;clear hv hvn hsame hnew hbH hs0;(repeat' first|simp [*,zb]|(apply za<;>intro _ h<;>try simp [-Nat.le_zero_eq] at h))
  refine zbA (caps:=[]) (ps:=[_,_,_]) (by decide) (.cons (.pure _) (.cons (.pure _) (.cons hf0 .nil))) c0 rfl ?_
  clear c0 hf0;(repeat' first|simp [*,zb]|(apply za<;>intro _ h<;>try simp [-Nat.le_zero_eq] at h))
  refine zz [(2,3),(6,11),(24,85)] (fun (b:Bool) env H=>env 6=.pure (.bool b)/\H=H1) (fun b=>if b=true then 1 else 0) true ?_ ?_ ?_ ?_
  ·decide
  ·exact ⟨by simp,rfl⟩
  ·simp only [zx];simp
  rintro b env H ⟨g6,rfl⟩
  cases b with
  | false =>
   (repeat' first|simp [*,zb]|(apply za<;>intro _ h<;>try simp [-Nat.le_zero_eq] at h));exact ⟨v,rfl,hvH.h⟩
  | true =>
   (repeat' first|simp [*,zb]|(apply za<;>intro _ h<;>try simp [-Nat.le_zero_eq] at h))
   refine zz [(2,3),(6,11),(27,85)] (fun (u:Unit) env H2=>env 27=.pure (.int .i64 0)/\env 6=.pure (.bool false)/\H2=H) (fun u=>0) () ?_ ?_ ?_ ?_
   ·decide
   ·exact ⟨by simp,by simp,rfl⟩
   ·simp only [zx];omega
   rintro u env2 H2 ⟨g27,g6',rfl⟩;(repeat' first|simp [*,zb]|(apply za<;>intro _ h<;>try simp [-Nat.le_zero_eq] at h))
 have hN0:0 < bs.xs.length:=List.length_pos_iff.2 hN;clear hr;have hbH:=Hide.mk (hBad.h (Sl.mk false (zah fs.xs.length)))
 refine zbg rfl g23 rfl ?_
 (repeat' first|simp [*,zb,c23,Problem.cells]|(apply za<;>intro _ h<;>try simp [-Nat.le_zero_eq] at h))
 refine zaW (by omega) ?_
 intro v H1 hv hvn hnx hsame hnew;obtain ⟨id,rfl,hg⟩:=hv.row hN;have hid:=zC hg;obtain ⟨s0,hs0,hf0⟩:=zeB (n:=10) (f:=Box.cells) (sz:=4) (fun _=>rfl) hg rfl;have c0:=hbH.h s0 (zcr _) (by simp [zay];omega) (by rw [hs0];exact SubL.refl _) (by rw [hs0];exact zdW okH.h);rw [hs0] at c0;simp only [Sl.xs_mk] at c0;clear hv hvn hsame hnew hbH;(repeat' first|simp [*,zb]|(apply za<;>intro _ h<;>try simp [-Nat.le_zero_eq] at h))
 refine zbA (caps:=[]) (ps:=[_,_,_]) (by decide) (.cons (.pure _) (.cons (.pure _) (.cons hf0 .nil))) c0 rfl ?_
 have hba:=zlS (fs:=fs.xs) (l:=bs.xs)
 by_cases hb0:0<=badI fs.xs bs.xs (zah fs.xs.length)
 ·have hrn:r=none:=hrH.h.unique (by
   obtain ⟨f,hf,hs⟩:=hba.1 hb0;exact (Holds'.init (zdW okH.h)).fail (zcO okH.h) hN0 hf hs)
  subst hrn;clear hba c0 hf0 hs0 hrH;generalize badI fs.xs bs.xs (zah fs.xs.length)=B at *;(repeat' first|simp [*,zb]|(apply za<;>intro _ h<;>try simp [-Nat.le_zero_eq] at h));exact ⟨_,rfl,.inl ⟨rfl,rfl⟩⟩
 have hnone0:∀ f∈fs.xs,zQ f bs.xs=false:=fun f hf=>by
  cases hs:zQ f bs.xs with
  | false=>rfl
  | true=>exact absurd (hba.2 ⟨f,hf,hs⟩) hb0
 have hJ0:NarJ ⟨bs,fs⟩ bs.xs:=⟨Holds'.init (zdW okH.h),hnone0⟩
 have hJ0:=Hide.mk hJ0;have hb0':¬ 0<=badI fs.xs bs.xs (zah fs.xs.length):=hb0;clear hba c0 hf0 hs0 hnone0 hb0;generalize badI fs.xs bs.xs (zah fs.xs.length)=B at *;(repeat' first|simp [*,zb]|(apply za<;>intro _ h<;>try simp [-Nat.le_zero_eq] at h))
 refine zz [(2,3),(6,11),(24,85)] (fun (s:List Box×Bool) env H=>env 6=.pure (.bool s.2)/\id < H.nx/\H.get id=.cells true (zm Box.cells s.1)/\Hide (NarJ ⟨bs,fs⟩ s.1/\(s.2=false->Stable zaM fs.xs s.1))) (fun s=>2*zby s.1+if s.2=true then 1 else 0) (bs.xs,true) ?_ ?_ ?_ ?_
 ·decide
 ·exact ⟨by simp,hid,hg,⟨hJ0.h,fun h=>by cases h⟩⟩
 ·have:=zdh okH.h (L:=bs.xs) (SubL.refl _);simp only [zx,if_true];omega
 clear hJ0 hg hid;rintro ⟨L0,b⟩ env H ⟨g6,hid,hg,hJ⟩;simp only at g6 hg;have hL0:Hide (L0.length=bs.xs.length):=⟨hJ.h.1.hold.sub.1⟩
 have hg0:=Hide.mk hg
 cases b with
 | false =>
  have hrs:r=some L0:=hJ.h.1.hold.stop (hJ.h.2 rfl) hrH.h;subst hrs;clear hJ hrH;(repeat' first|simp [*,zb]|(apply za<;>intro _ h<;>try simp [-Nat.le_zero_eq] at h));exact ⟨_,rfl,.inr ⟨id,by show AV.row id 4 0 _=AV.row id 4 0 L0.length;rw [hL0.h],hg0.h⟩⟩
 | true =>
  have hP0:=Hide.mk (PJ.start hJ.h.1);have hsz:=Hide.mk (zdh okH.h (L:=L0) hJ.h.1.hold.sub);clear hJ hg;(repeat' first|simp [*,zb]|(apply za<;>intro _ h<;>try simp [-Nat.le_zero_eq] at h))
  refine zz [(2,3),(6,11),(27,85)] (fun (i:Nat) env H=>env 27=.pure (.int .i64 i)/\i<=bs.xs.length/\∃ c:Bool,env 6=.pure (.bool c)/\id < H.nx/\∃ L,H.get id=.cells true (zm Box.cells L)/\Hide (PJ ⟨bs,fs⟩ L0 L c i 0)) (fun i=>bs.xs.length - i) 0 ?_ ?_ ?_ ?_
  ·decide
  ·exact ⟨by simp,by omega,false,by simp,hid,L0,hg0.h,hP0⟩
  ·simp only [zx];omega
  clear hP0 g6 hid hg0;rintro i env H ⟨g27,hi,c,g6,hid,L,hg,hP⟩;have hLl:Hide (L.length=bs.xs.length):=⟨hP.h.nar.hold.sub.1⟩
  by_cases hlt:i < bs.xs.length
  ·have w0:IntKind.i64.wrap ((i:Int)+1)=(i+1:Nat):=by rw [wrap64 (by omega) (by omega)];omega
   have hltI:(i:Int) < bs.xs.length:=by omega
   have hAb:=fun H=>zh (G:=G) (n:=n+6) (H:=H) (caps:=[]) (ps:=[fs.pv Fact.cells 9,(Sl.mk false (zah fs.xs.length)).pv intF 1,.int .i64 i]) sh48 (e48 (n+4) fs (Sl.mk false (zah fs.xs.length)) i (zcr _) (by simp [zay];omega));simp only [List.map_cons,List.map_nil] at hAb;(repeat' first|simp [*,zb]|(apply za<;>intro _ h<;>try simp [-Nat.le_zero_eq] at h))
   refine zz [(2,3),(6,6),(9,11),(35,84)] (fun (k:Nat) env H=>env 35=.pure (.int .i64 k)/\k<=4/\∃ c:Bool,env 6=.pure (.bool c)/\id < H.nx/\∃ L,H.get id=.cells true (zm Box.cells L)/\Hide (PJ ⟨bs,fs⟩ L0 L c i k)) (fun k=>4 - k) 0 ?_ ?_ ?_ ?_
   ·decide
   ·exact ⟨by simp,by omega,c,by simp [g6],hid,L,hg,hP⟩
   ·simp only [zx];omega
   have g27':=g27;clear g27 g6 hid hg hP hLl;rintro k env H ⟨g35,hk,c,g6,hid,L,hg,hP⟩;have hLl:Hide (L.length=bs.xs.length):=⟨hP.h.nar.hold.sub.1⟩
   by_cases hk4:k < 4
   ·have w1:IntKind.i64.wrap ((k:Int)+1)=(k+1:Nat):=by rw [wrap64 (by omega) (by omega)];omega
    have hkI:(k:Int) < 4:=by omega
    have q1:=zlN k;have q2:=zlQ k;have u1:IntKind.i64.wrap ((k / 2:Nat):Int)=(k / 2:Nat):=wrap64 (by omega) (by omega);obtain ⟨ax,hax⟩:∃ ax:Nat,ax=k / 2:=⟨_,rfl⟩
    obtain ⟨hg2,hhg⟩:∃ m:Nat,m=k % 2:=⟨_,rfl⟩
    rw [<- hax] at q1 u1;rw [<- hhg] at q2;have hsk:Hide ((zdS i k).cells=[.int .i64 i,.int .i64 ax,.bool (decide (hg2=1))]):=⟨by simp [zdS,Side.cells,hax,hhg]⟩
    have haxH:=Hide.mk hax;have hhgH:=Hide.mk hhg;clear hax hhg;have hWJ:=Hide.mk hP.h.while;clear hP;(repeat' first|simp [*,zb]|(apply za<;>intro _ h<;>try simp [-Nat.le_zero_eq] at h));generalize hhb:decide ((hg2:Int)=1)=hb at *;have hhbH:=Hide.mk hhb;have hsk:Hide ((zdS i k).cells=[.int .i64 i,.int .i64 ax,.bool hb]):=⟨by
     rw [hsk.h,<- hhb];simp;omega⟩
    clear hhb;have hne:id≠H.nx:=by omega
    refine zz [(2,3),(6,6),(11,11),(45,83)] (fun (s:List Box) env H2=>∃ c:Bool,env 6=.pure (.bool c)/\H.nx < H2.nx/\H2.get id=.cells true (zm Box.cells s)/\H2.get H.nx=.cells true [.pure (.int .i64 i),.pure (.int .i64 ax),.pure (.bool hb)]/\Hide (WJ ⟨bs,fs⟩ L0 s c i k)) zby L ?_ ?_ ?_ ?_
    ·decide
    ·exact ⟨c,by simp [g6],by simp,by rw [zg hne,zf hid];exact hg,by simp,hWJ⟩
    ·have:=zdh okH.h (L:=L) hWJ.h.wj.hold.sub;simp only [zx];omega
    have g35':=g35;clear g35 g6 hg hLl hWJ q1 q2 u1;rintro s env H2 ⟨c,g6,hnx2,hg,hgs,hJ⟩;have hls:s.length=bs.xs.length:=hJ.h.wj.hold.sub.1;have his:i < s.length:=by omega
    have hid2:id < H2.nx:=zC hg;obtain ⟨s1,hs1,hf1⟩:=zeB (n:=10) (f:=Box.cells) (sz:=4) (fun _=>rfl) hg hls;have c1:=e49 (n+4) s1 i k (by rw [hs1];exact his) hk4 (by rw [hs1];omega);rw [hs1,hsk.h] at c1;have hsw:=hJ.h.wj.hold.wf;have hss:=hJ.h.wj.hold.sub;have c2:=hBad.h (Sl.of (zaN fs.xs (zah fs.xs.length) i)) (Sl.mk false (zat s i k)) (by rw [Sl.xs_of];exact zgC _ _) (by rw [Sl.xs_of];have:=zim fs.xs i;omega) (by rw [Sl.xs_mk];exact (zet hsw his k).trans hss) (by rw [Sl.xs_mk];exact zfM hsw his k);rw [Sl.xs_of,Sl.xs_mk] at c2;have c3:=fun H=>zh (G:=G) (n:=n+6) (H:=H) (caps:=[]) (ps:=[fs.pv Fact.cells 9,(Sl.of (zaN fs.xs (zah fs.xs.length) i)).pv intF 1,(Sl.mk false (zat s i k)).pv Box.cells 4]) sh47 c2;simp only [List.map_cons,List.map_nil] at c3;have hvv:=valid_iff.1 (zb0 okH.h hss hsw _ (List.getElem_mem his));have hlsH:=Hide.mk hls;have p1:=zdt his;have p2:=zfv his;have p3:=zfC his;have p4:=zfD his;have r3:=zcf (own:=true) (f:=Box.cells) (sz:=4) (l:=s) (i:=i) (size:=1) (off:=3) (fun _=>rfl) his (by decide);have e3:i*4+2+1=i*4+3:=rfl;have v1:IntKind.i64.wrap (s[i].x.lo+1)=s[i].x.lo+1:=wrap64 (by omega) (by omega);have v2:IntKind.i64.wrap (s[i].x.hi - 1)=s[i].x.hi - 1:=wrap64 (by omega) (by omega);have v3:IntKind.i64.wrap (s[i].y.lo+1)=s[i].y.lo+1:=wrap64 (by omega) (by omega);have v4:IntKind.i64.wrap (s[i].y.hi - 1)=s[i].y.hi - 1:=wrap64 (by omega) (by omega);clear c2 hsw hss hvv hls hs1;have hba:=Hide.mk (zh4 (fs:=fs.xs) (l:=zat s i k) (i:=i));generalize hBv:badI fs.xs (zat s i k) (zaN fs.xs (zah fs.xs.length) i)=B2 at *;clear hBv;(repeat' first|simp [*,zb]|(apply za<;>intro _ h<;>try simp [-Nat.le_zero_eq] at h))
    refine zbA (caps:=[]) (ps:=[_,_]) (by decide) (.cons hf1 (.cons (.pure _) .nil)) c1 (zgv _) ?_
    clear c1 hf1
    by_cases hB2:0<=B2
    case neg =>
     have hPx:=Hide.mk (hJ.h.exit okH.h his hk4 (fun h=>hB2 (hba.h.2 h)));clear hba hJ p1 p2 p3 p4 r3;(repeat' first|simp [*,zb]|(apply za<;>intro _ h<;>try simp [-Nat.le_zero_eq] at h))
     refine ⟨k+1,by omega,by omega,by omega,?_⟩
     cases c with
     | false=>exact .inl ⟨rfl,s,rfl,hPx⟩
     | true=>exact .inr ⟨rfl,s,rfl,hPx⟩
    case pos =>
     have hfl:=hba.h.1 hB2;clear hba;have hk4':k=0\/k=1\/k=2\/k=3:=by omega
     rcases hk4' with rfl|rfl|rfl|rfl
     ·have hx0:ax=0:=haxH.h;have hb0:hb=false:=by rw [<- hhbH.h,hhgH.h];rfl
      subst hx0;subst hb0;have hW:=fun ht:¬ s[i].x.lo=s[i].x.hi=>hJ.h.step okH.h his (show 0 < 4 by omega) hfl (fun e=>ht (by simpa [zaF] using e));have hE:=fun ht:s[i].x.lo=s[i].x.hi=>hJ.h.wj.empty okH.h his (show 0 < 4 by omega) hfl (by simpa [zaF] using ht);rw [zbP his] at hW;have hW:=Hide.mk hW;have hE:=Hide.mk hE;have hlenS:=Hide.mk hJ.h.wj.hold.sub.1;clear hJ hfl
      by_cases hth:s[i].x.lo=s[i].x.hi
      ·have hrn:r=none:=hrH.h.unique (hE.h hth);subst hrn;clear hW hE hrH;(repeat' first|simp [*,zb]|(apply za<;>intro _ h<;>try simp [-Nat.le_zero_eq] at h));exact ⟨_,rfl,.inl ⟨rfl,rfl⟩⟩
      ·obtain ⟨hW1,hW2⟩:=hW.h hth;have hW1:=Hide.mk hW1;have hW2:=Hide.mk hW2;clear hW hE;(repeat' first|simp [*,zb]|(apply za<;>intro _ h<;>try simp [-Nat.le_zero_eq] at h))
       refine ⟨_,hW2.h,rfl,?_,hW1⟩
       rw [zg (Ne.symm hne)]
       simpa using hgs
     ·have hx0:ax=0:=haxH.h;have hb0:hb=true:=by rw [<- hhbH.h,hhgH.h];rfl
      subst hx0;subst hb0;have hW:=fun ht:¬ s[i].x.lo=s[i].x.hi=>hJ.h.step okH.h his (show 1 < 4 by omega) hfl (fun e=>ht (by simpa [zaF] using e));have hE:=fun ht:s[i].x.lo=s[i].x.hi=>hJ.h.wj.empty okH.h his (show 1 < 4 by omega) hfl (by simpa [zaF] using ht);rw [zbP his] at hW;have hW:=Hide.mk hW;have hE:=Hide.mk hE;have hlenS:=Hide.mk hJ.h.wj.hold.sub.1;clear hJ hfl
      by_cases hth:s[i].x.lo=s[i].x.hi
      ·have hrn:r=none:=hrH.h.unique (hE.h hth);subst hrn;clear hW hE hrH;(repeat' first|simp [*,zb]|(apply za<;>intro _ h<;>try simp [-Nat.le_zero_eq] at h));exact ⟨_,rfl,.inl ⟨rfl,rfl⟩⟩
      ·obtain ⟨hW1,hW2⟩:=hW.h hth;have hW1:=Hide.mk hW1;have hW2:=Hide.mk hW2;clear hW hE;(repeat' first|simp [*,zb]|(apply za<;>intro _ h<;>try simp [-Nat.le_zero_eq] at h))
       refine ⟨_,hW2.h,rfl,?_,hW1⟩
       rw [zg (Ne.symm hne)]
       simpa using hgs
     ·have hx0:ax=1:=haxH.h;have hb0:hb=false:=by rw [<- hhbH.h,hhgH.h];rfl
      subst hx0;subst hb0;have hW:=fun ht:¬ s[i].y.lo=s[i].y.hi=>hJ.h.step okH.h his (show 2 < 4 by omega) hfl (fun e=>ht (by simpa [zaF] using e));have hE:=fun ht:s[i].y.lo=s[i].y.hi=>hJ.h.wj.empty okH.h his (show 2 < 4 by omega) hfl (by simpa [zaF] using ht);rw [zbP his] at hW;have hW:=Hide.mk hW;have hE:=Hide.mk hE;have hlenS:=Hide.mk hJ.h.wj.hold.sub.1;clear hJ hfl
      by_cases hth:s[i].y.lo=s[i].y.hi
      ·have hrn:r=none:=hrH.h.unique (hE.h hth);subst hrn;clear hW hE hrH;(repeat' first|simp [*,zb]|(apply za<;>intro _ h<;>try simp [-Nat.le_zero_eq] at h));exact ⟨_,rfl,.inl ⟨rfl,rfl⟩⟩
      ·obtain ⟨hW1,hW2⟩:=hW.h hth;have hW1:=Hide.mk hW1;have hW2:=Hide.mk hW2;clear hW hE;(repeat' first|simp [*,zb]|(apply za<;>intro _ h<;>try simp [-Nat.le_zero_eq] at h))
       refine ⟨_,hW2.h,rfl,?_,hW1⟩
       rw [zg (Ne.symm hne)]
       simpa using hgs
     ·have hx0:ax=1:=haxH.h;have hb0:hb=true:=by rw [<- hhbH.h,hhgH.h];rfl
      subst hx0;subst hb0;have hW:=fun ht:¬ s[i].y.lo=s[i].y.hi=>hJ.h.step okH.h his (show 3 < 4 by omega) hfl (fun e=>ht (by simpa [zaF] using e));have hE:=fun ht:s[i].y.lo=s[i].y.hi=>hJ.h.wj.empty okH.h his (show 3 < 4 by omega) hfl (by simpa [zaF] using ht);rw [zbP his] at hW;have hW:=Hide.mk hW;have hE:=Hide.mk hE;have hlenS:=Hide.mk hJ.h.wj.hold.sub.1;clear hJ hfl
      by_cases hth:s[i].y.lo=s[i].y.hi
      ·have hrn:r=none:=hrH.h.unique (hE.h hth);subst hrn;clear hW hE hrH;(repeat' first|simp [*,zb]|(apply za<;>intro _ h<;>try simp [-Nat.le_zero_eq] at h));exact ⟨_,rfl,.inl ⟨rfl,rfl⟩⟩
      ·obtain ⟨hW1,hW2⟩:=hW.h hth;have hW1:=Hide.mk hW1;have hW2:=Hide.mk hW2;clear hW hE;(repeat' first|simp [*,zb]|(apply za<;>intro _ h<;>try simp [-Nat.le_zero_eq] at h))
       refine ⟨_,hW2.h,rfl,?_,hW1⟩
       rw [zg (Ne.symm hne)]
       simpa using hgs
   ·have hkk:k=4:=by omega
    subst hkk;have hP2:=Hide.mk hP.h.nextI;clear hP;(repeat' first|simp [*,zb]|(apply za<;>intro _ h<;>try simp [-Nat.le_zero_eq] at h))
    refine ⟨i+1,by omega,rfl,by omega,?_⟩
    cases c with
    | false=>exact .inl ⟨rfl,L,rfl,hP2⟩
    | true=>exact .inr ⟨rfl,L,rfl,hP2⟩
  ·have hiN:i=bs.xs.length:=by omega
   subst hiN;have hP2:=hP.h;rw [<- hLl.h] at hP2;have hst:=Hide.mk hP2.done;have hns:=Hide.mk hP2.nar;have hle:=Hide.mk hP2.less;have hsm:=Hide.mk hP2.same;clear hP hP2;(repeat' first|simp [*,zb]|(apply za<;>intro _ h<;>try simp [-Nat.le_zero_eq] at h))
   refine ⟨L,?_⟩
   cases c with
   | false=>exact .inl ⟨by rw [(hsm.h rfl).1];omega,rfl,rfl,⟨hns.h,hst.h rfl⟩⟩
   | true=>exact .inr ⟨hle.h rfl,rfl,rfl,⟨hns.h⟩⟩
def znU (N:Nat) (v:AV) (H:Heap):Prop:=∃ x e l,v=.tup [x,.pure e]/\e.cold=true/\OwnV Box.cells 4 H x l/\l.length<=N
theorem zla (n:Nat) (p:Problem) (ok:CheckOk p):∃ v H',Vm.call G (n+8) (.fn 7) [.pure (.agg p.cells)] Heap.empty=some (v,H')/\znU 12 v H':=by
 have h0:=check_ok.2 ok;have hc:=fun H=>zh (G:=G) (n:=n+7) (H:=H) (caps:=[]) (ps:=[.agg p.cells]) sh6 (e6 (n+4) p);rw [h0] at hc;obtain ⟨r,hr⟩:=znA (zcO ok) (zdW ok);have hn:=zld n p ok r hr;have hlen:(r.getD []).length<=12:=by
  cases r with
  | none=>simp
  | some l=>have:=hr.1.sub.1;have:=ok.nb;simp only [Option.getD_some];omega
 have hlenH:=Hide.mk hlen;obtain ⟨bs,fs⟩:=p;have hnH:=Hide.mk hn;simp only [Problem.cells,List.map_cons,List.map_nil] at hc;clear h0 hr hn hlen ok
 refine zbg rfl g7 rfl ?_
 (repeat' first|simp [*,zb,c7,Problem.cells]|(apply za<;>intro _ h<;>try simp [-Nat.le_zero_eq] at h));obtain ⟨v,H1,hv1,x,hx,ho⟩:=hnH.h
 refine zol (P:=fun l e=>e=.bool r.isSome/\l=r.getD []) zdg (FrzL.cons (.pure _) .nil) ⟨v,H1,hv1,x,_,_,hx,rfl,ho,rfl,rfl⟩ ?_
 rintro x2 e2 l2 H2 ⟨rfl,rfl⟩ hO _ _ _;have hone:=hO.one;have hOH:=Hide.mk hO;clear hnH hv1 hx ho hO
 cases hrs:r with
 | none =>
  subst hrs;(repeat' first|simp [*,zb]|(apply za<;>intro _ h<;>try simp [-Nat.le_zero_eq] at h));exact ⟨_,_,[],rfl,rfl,OwnV.nil,by simp⟩
 | some l =>
  subst hrs;(repeat' first|simp [*,zb]|(apply za<;>intro _ h<;>try simp [-Nat.le_zero_eq] at h));exact ⟨_,_,_,rfl,rfl,hOH.h,hlenH.h⟩
theorem zn4 (n:Nat) (p:Problem) (D:FoundD) (e:Int) (h:SolvedOut p D e) (hb:p.boxes.xs.length<=12\/e≠0) (hl:D.seens.length<=12) (hg:D.empty=false->∀ s∈D.seens,SeenGood s):∃ v H',Vm.call G (n+53) (.fn 8) [.pure (.agg p.cells)] Heap.empty=some (v,H')/\znU 12 v H':=by
 have hn:=fun H=>zh (G:=G) (n:=n+52) (H:=H) (caps:=[]) (ps:=[.agg p.cells]) sh24 (e24 n p D e h);simp only [Problem.cells,FoundD.cells,List.map_cons,List.map_nil] at hn;clear h
 by_cases h1:e=0
 case neg =>
  clear hg
  refine zbg rfl g8 rfl ?_
  (repeat' first|simp [*,zb,c8,Problem.cells]|(apply za<;>intro _ h<;>try simp [-Nat.le_zero_eq] at h)|(show wpE 0 (zi ..) ..;refine zt ?_)|(refine zk fun v2 H2 hv2 hnx2 hget2 hnew2 hone2 hcel2=>?_));exact ⟨_,_,[],rfl,rfl,OwnV.nil,by simp⟩
 case pos =>
  subst h1
  cases hD:D.empty with
  | true =>
   rw [hD] at hn;clear hg
   refine zbg rfl g8 rfl ?_
   (repeat' first|simp [*,zb,c8,Problem.cells]|(apply za<;>intro _ h<;>try simp [-Nat.le_zero_eq] at h)|(show wpE 0 (zi ..) ..;refine zt ?_)|(refine zk fun v2 H2 hv2 hnx2 hget2 hnew2 hone2 hcel2=>?_));exact ⟨_,_,[],rfl,rfl,OwnV.nil,by simp⟩
  | false =>
   have hN:p.boxes.xs.length<=12:=by rcases hb with h|h;exact h;exact absurd rfl h
   have hcall:=Hide.mk (fun (i:Nat) H=>zh (G:=G) (n:=n+52) (H:=H) (caps:=[]) (ps:=[.agg D.cells,.int .i64 i]) sh25 (e25 (n+50) D i hl (hg hD)));simp only [FoundD.cells,hD,List.map_cons,List.map_nil] at hcall;rw [hD] at hn;clear hg hb;have hto:∀ i,((List.range (i+1)).map fun i=>(za8 i D.seens 0).1)=((List.range i).map fun i=>(za8 i D.seens 0).1)++[(za8 i D.seens 0).1]:=fun i=>by rw [List.range_succ,List.map_append];rfl
   have hlenR:∀ i,((List.range i).map fun i=>(za8 i D.seens 0).1).length=i:=fun i=>by simp
   have htoH:=Hide.mk hto;have hlenH:=Hide.mk hlenR;have h00:Hide (((List.range 0).map fun i=>(za8 i D.seens 0).1)=[]):=⟨rfl⟩
   obtain ⟨hu,hhu⟩:∃ hu:Nat->Box×Int×Int,hu=fun i=>za8 i D.seens 0:=⟨_,rfl⟩
   obtain ⟨T,hT⟩:∃ T:Nat->List Box,T=fun i=>(List.range i).map fun i=>(za8 i D.seens 0).1:=⟨_,rfl⟩
   have hTn:Hide (∀ i,T (i+1)=T i++[(hu i).1]):=⟨fun i=>by rw [hT,hhu];exact htoH.h i⟩
   have hTl:Hide (∀ i,(T i).length=i):=⟨fun i=>by rw [hT];exact hlenH.h i⟩
   have hT0:Hide (T 0=[]):=⟨by rw [hT];rfl⟩
   have hcall2:Hide (∀ (i:Nat) H,zM (zq G (n+52)) H (.pure (.func 25 [])) [.pure (.agg [.bool false,(Sl.of D.seens).pv zbV 1]),.pure (.int .i64 i)]=some (.val (.pure (.tup [.agg (hu i).1.cells,.int .i64 (hu i).2.1,.int .i64 (hu i).2.2])))):=⟨fun i H=>by rw [hhu];exact hcall.h i H⟩
   clear hto hlenR htoH hlenH hT hhu hcall h00 hD
   refine zbg rfl g8 rfl ?_
   (repeat' first|simp [*,zb,c8,Problem.cells]|(apply za<;>intro _ h<;>try simp [-Nat.le_zero_eq] at h)|(show wpE 0 (zi ..) ..;refine zt ?_)|(refine zk fun v2 H2 hv2 hnx2 hget2 hnew2 hone2 hcel2=>?_))
   refine zz [(6,10),(26,40)] (fun (i:Nat) env H=>env 26=.pure (.int .i64 i)/\i<=p.boxes.xs.length/\0 < H.nx/\H.get 0=.cells true [.pure (.bool false),.pure ((Sl.of D.seens).pv zbV 1)]/\∃ V,env 6=V/\Hide (GrowV Box.cells 4 H V (T i)/\∀ id,Names V id->0 < id)) (fun i=>p.boxes.xs.length - i) 0 ?_ ?_ ?_ ?_
   ·decide
   ·exact ⟨by simp,by omega,by simp,by simp,.pure .nils,by simp,⟨by rw [hT0.h];exact GrowV.nil,fun id ⟨_,_,_,h⟩=>by simp at h⟩⟩
   ·simp only [zx];omega
   rintro i env H ⟨g26,hi,hnx,h0,V,g6,hV⟩
   by_cases hlt:i < p.boxes.xs.length
   ·have w1:IntKind.i64.wrap ((i:Int)+1)=(i+1:Nat):=by rw [wrap64 (by omega) (by omega)];omega
    have hltI:(i:Int) < p.boxes.xs.length:=by omega
    have hc:=hcall2.h i;have hTn1:=Hide.mk (hTn.h i);have hTl1:=Hide.mk (hTl.h i);generalize hu i=hui at *;obtain ⟨⟨⟨x0,x1⟩,⟨y0,y1⟩⟩,ii,kk⟩:=hui;simp only [Box.cells,Span.cells] at hc;have hVo:=hV.h.1.1.one;have hVo1:=hVo.1;have hVo2:=hVo.2;clear hcall2 hTn hTl hVo;(repeat' first|simp [*,zb,Box.cells,Span.cells]|(apply za<;>intro _ h<;>try simp [-Nat.le_zero_eq] at h)|(show wpE 0 (zi ..) ..;refine zt ?_)|(refine zk fun v2 H2 hv2 hnx2 hget2 hnew2 hone2 hcel2=>?_))
    refine zaE (f:=Box.cells) (sz:=4) (l:=T i) ((hV.h.1.setNew _ _).alloc _) (fun _=>rfl) (by decide) (fun _=>rfl) (by rw [hTl1.h];unfold zn;omega) ⟨⟨⟨x0,x1⟩,⟨y0,y1⟩⟩,by simp [Box.cells,Span.cells],?_⟩
    intro V4 H4 hg4 ha;have hV4:Hide (GrowV Box.cells 4 H4 V4 (T (i+1))/\∀ id,Names V4 id->0 < id):=⟨by rw [hTn1.h];exact hg4,fun id hn=>by have:=ha.new id hn;simp at this;omega⟩
    have g0:H4.get 0=.cells true [.pure (.bool false),.pure ((Sl.of D.seens).pv zbV 1)]:=by
     rw [ha.get 0 (by rw [zaj,zaL,zaj];omega) (fun hn=>by have:=hV.h.2 0 hn;omega),zf (by rw [zaL,zaj];omega),zg (by omega),zf hnx];exact h0
    have gn:0 < H4.nx:=by have:=ha.nx;simp at this;omega
    clear hg4 ha hV;(repeat' first|simp [*,zb]|(apply za<;>intro _ h<;>try simp [-Nat.le_zero_eq] at h)|(show wpE 0 (zi ..) ..;refine zt ?_)|(refine zk fun v2 H2 hv2 hnx2 hget2 hnew2 hone2 hcel2=>?_));exact ⟨i+1,by omega,by omega,by omega,hV4⟩
   ·have hiN:i=p.boxes.xs.length:=by omega
    subst hiN;have hle:(T p.boxes.xs.length).length<=12:=by rw [hTl.h];exact hN
    have hleH:=Hide.mk hle;clear hcall2 hTn hTl hle;(repeat' first|simp [*,zb]|(apply za<;>intro _ h<;>try simp [-Nat.le_zero_eq] at h)|(show wpE 0 (zi ..) ..;refine zt ?_)|(refine zk fun v2 H2 hv2 hnx2 hget2 hnew2 hone2 hcel2=>?_));exact ⟨_,_,_,rfl,rfl,hV.h.1.1,hleH.h⟩
end Go.Proofs.Ytleggocccaeemaa.Vm
