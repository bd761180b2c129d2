/- CacheGoes, plainly. -/
import Derived.Test.YtekgciopamkjlaaGreatCaR
import Derived.Test.YtekgciopamkjlaaGreatCaW
namespace Go.Proofs.YtekgciopamkjlaaGreat
open Go.Xs
open Enc (enc)
def VJ(n:Bs)(k:Int):St:=if k=1 then ZK n 1 1 else if k=2 then ZK n 255 2 else ZG n (Vw 9)
theorem g0(n:Bs):VJ n 0=ZG n (Vw 9):=rfl
theorem g1(n:Bs):VJ n 1=ZK n 1 1:=rfl
theorem g2(n:Bs):VJ n 2=ZK n 255 2:=rfl
theorem jq{n:Bs}{k:Int}{p:St→Int→Prop}(hk:0≤k∧k<3)(h0:p (ZG n (Vw 9)) 0)(h1:p (ZK n 1 1) 1)(h2:p (ZK n 255 2) 2):p (VJ n k) k:=by
 rcases(show k=0∨k=1∨k=2 by omega) with rfl | rfl | rfl
 ·exact h0
 ·exact h1
 ·exact h2
theorem Mr{n:Bs}{k:Int}(hk:0≤k∧k<3)(hn:n.length≤100):YF (VJ n k):=
 jq (p:=fun s _=>YF s) hk ⟨by show n.length<_; omega,by show 1<_; omega,by show 1<_; omega,fun r hr=>by rw[List.mem_singleton.1 hr]; exact⟨by show n.length<_; omega,by show 4<_; omega⟩⟩
  ⟨by show n.length<_; omega,by show 1<_; omega,by show 0<_; omega,fun r hr=>by cases hr⟩ ⟨by show n.length<_; omega,by show 1<_; omega,by show 0<_; omega,fun r hr=>by cases hr⟩
theorem sF{n:Bs}{k:Int}(hk:0≤k∧k<3):decide ((VJ n k).typ=255)=decide ((VJ n k).kind=2)∧(VJ n k).kind=k∧(Zh (VJ n k)).kind=k:=
 jq (p:=fun s k=>decide (s.typ=255)=decide (s.kind=2)∧s.kind=k∧(Zh s).kind=k) hk ⟨rfl,rfl,rfl⟩ ⟨rfl,rfl,rfl⟩ ⟨rfl,rfl,rfl⟩
theorem JD{s:St}(h:wm s.name=false):Wh s=false:=by unfold Wh; rw[h]; rfl
theorem Yz{s:St}(h:w9 s=0):Wh s=true:=by
 unfold w9 at h;split at h
 ·cases h
 ·next h2=>simpa using h2
theorem DV{n:Bs}{k:Int}(hk:0≤k∧k<3):Wh (VJ n k)=wm n∧(wm n=true→w9 (VJ n k)=0):=by
 cases hv:wm n with
 | false=>exact jq (p:=fun s _=>Wh s=false∧(false=true→w9 s=0)) hk ⟨JD hv,fun h=>by cases h⟩ ⟨JD hv,fun h=>by cases h⟩ ⟨JD hv,fun h=>by cases h⟩
 | true=>
  have a0:=(Yk (d:=Vw 9) hv rfl).1;have a1:=(Wv (t:=1) (k:=1) hv (by decide) (by decide)).1;have a2:=(Wv (t:=255) (k:=2) hv (by decide) (by decide)).1;exact jq (p:=fun s _=>Wh s=true∧(true=true→w9 s=0)) hk ⟨Yz a0,fun _=>a0⟩ ⟨Yz a1,fun _=>a1⟩ ⟨Yz a2,fun _=>a2⟩
theorem K7{k:Nat}(h:k≤120):Z4 k≤128:=by
 unfold Z4;rw[if_pos (show k+8≤128 by omega)];split
 ·omega
 ·split
  ·omega
  ·split<;>omega
theorem g_w{n:Bs}{k:Int}(hk:0≤k∧k<3)(hv:wm n=true)(hn:n.length≤100):wS (VJ n k)≤4096:=by
 have:=K7 (k:=8+n.length) (by omega);exact jq (p:=fun s _=>wS s≤4096) hk (by rw[Fb hv rfl]; omega) (by rw[(Wv hv (by decide) (by decide)).2.2]; omega) (by rw[(Wv hv (by decide) (by decide)).2.2]; omega)
theorem Ms{n:Bs}{k left most:Int}(hk:0≤k∧k<3)(hn:n.length≤100)(hl:1≤left∧left≤2147483648)(hm:1≤most∧most≤2147483648):
 (wm n=false→Vo 4096 most most (VJ n k) 4 left 5 Ui=(Ui,1))∧(wm n=true→Vo 4096 most most (VJ n k) 4 left 5 Ui=(one (VJ n k) 0 4 5 (5+min left most) [Zq (VJ n k)] [],0)):=by
 have hc:WJ most most (VJ n k).kind left=min left most:=by
  rw[gN ⟨by omega,by omega,by omega⟩];split<;>rfl
 have e:=uD (N:=4096) (r:=4) (now:=5) (S:=Ui) (sF (n:=n) hk).1 hc (by omega) (fun i hi=>absurd (show(none:Option It)=some i from hi) (by simp));rw[uh (by decide) ⟨by omega,by omega⟩] at e;have hm2:=DV (n:=n) hk;refine⟨fun hv=>?_,fun hv=>?_⟩
 ·rw[hv] at hm2;have he:w9 (VJ n k)=1:=by unfold w9; rw[if_pos hm2.1]
  rw[e];unfold VF;rw[he,if_pos (by decide)]
 ·rw[e];exact Jw (hm2.2 hv) (g_w hk hv hn) ((fu _ _ _).2 (by omega))
theorem Mt{n:Bs}{k:Int}(hk:0≤k∧k<3):Zq (VJ n k)=fk ⟨n,if k=2 then 255 else 1⟩:=jq (p:=fun s k=>Zq s=fk ⟨n,if k=2 then 255 else 1⟩) hk rfl rfl rfl
theorem Ec{n m:Bs}{t u:Int}(h:t≠u):fk ⟨n,t⟩≠fk ⟨m,u⟩:=fun e=>h (congrArg Ky.t e)
theorem Gs{n:Bs}{k by_ t:Int}(hk:0≤k∧k<3){P Q:List Ky}:WG (one (VJ n k) 0 4 5 (5+t) P Q) ⟨n,1⟩ (5+by_)=if by_<t then some (AO (VJ n k) 0 4 5 (5+t)) else none:=by
 have hkey:=Mt (n:=n) hk;unfold WG;by_cases h2:k=2
 ·rw[if_pos h2] at hkey;rw[Uf (k:=⟨n,1⟩) (by rw[hkey]; exact Ec (by decide))];show(if(1:Int)=255 then none else Zi _ ⟨n,255⟩ _)=_;rw[if_neg (by decide),xH hkey.symm];by_cases hb:by_<t
  ·rw[if_pos hb,if_pos (by omega)]
  ·rw[if_neg hb,if_neg (by omega)]
 ·rw[if_neg h2] at hkey;rw[xH (k:=⟨n,1⟩) hkey.symm];by_cases hb:by_<t
  ·rw[if_pos hb,if_pos (by omega)]
  ·rw[if_neg hb,if_neg (by omega)];show(if(1:Int)=255 then none else Zi _ ⟨n,255⟩ _)=_;rw[if_neg (by decide),Uf (k:=⟨n,255⟩) (by rw[hkey]; exact Ec (by decide))]
end Go.Proofs.YtekgciopamkjlaaGreat