/- The walk of the law PointsEdges. -/

